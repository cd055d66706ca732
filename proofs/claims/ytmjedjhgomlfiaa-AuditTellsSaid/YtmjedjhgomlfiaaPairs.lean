/- The pairs of a dispatch: what the two Go functions answer. They write nothing that was there. -/
import Derived.Test.YtmjedjhgomlfiaaParts
import Derived.Test.YtmjedjhgomlfiaaSame
import Derived.Test.YtmjedjhgomlfiaaEls
import Derived.Test.YtmjedjhgomlfiaaBase
import Derived.WalkSpells
namespace Go.Proofs.Ytmjedjhgomlfiaa
open Go.RowKit Go.Proofs.YtmjedjhgomlfiaaW.PrintWords Go.Proofs.Ytmjedjhgomlfiaa.PAuditTells

def prStep (d : Int) (out : List (Int × Int)) (e : S34) : List (Int × Int) := if e.f0 ≠ 0 ∧ e.f2 = d ∧ out.getLast? ≠ some (e.f3, e.f4) then out ++ [(e.f3, e.f4)] else out
/-- The pairs of a dispatch. -/
def prs (l : List S34) (d : Int) : List (Int × Int) := l.foldl (prStep d) []
theorem prs_next {l : List S34} {d : Int} {j : Nat} {e : S34} (h : l[j]? = some e) : (l.take (j + 1)).foldl (prStep d) [] = prStep d ((l.take j).foldl (prStep d) []) e := by
  rw [List.take_add_one, h]
  simp
theorem prStep_len (d : Int) (out : List (Int × Int)) (e : S34) : (prStep d out e).length ≤ out.length + 1 := by
  unfold prStep; split <;> simp
theorem prs_len (l : List S34) (d : Int) (j : Nat) : ((l.take j).foldl (prStep d) []).length ≤ j := by
  induction j with
  | zero => simp
  | succ j ih =>
    cases h : l[j]? with
    | none => rw [List.take_add_one, h]; simp; omega
    | some e => rw [prs_next h]; have := prStep_len d ((l.take j).foldl (prStep d) []) e; omega
theorem last_at {out : List (Int × Int)} {x : Int × Int} (h : out[out.length - 1]? = some x) : out.getLast? = some x := by
  rw [List.getLast?_eq_getElem?]
  exact h

theorem size34 : (Try.prog.info? 34).map (·.size) = some 19 := by kernel_rfl
theorem neqn_pair (p q x y : Int) (h : ¬(p, q) = (x, y)) (W : World) : (Op.equalIn 10000 24 (.agg #[.int .i64 p, .int .i64 q]) (.agg #[.int .i64 x, .int .i64 y])).run Try.prog W = .ok false W := neq_pair p q x y h W

set_option maxRecDepth 100000 in
set_option maxHeartbeats 1600000 in
theorem pairs_any (l : List S34) (A : Option Addr) (c : Nat) (d : Int) (w : World) (hl : Kd.C k34 w A l.length l) (hll : l.length ≤ 4294967296) :
    Calls Try.prog 9 #[.slice A l.length c, .int .i64 d] w fun e w' => ∃ v, e = .returned v ∧ kPair.R 24 w' w.heap.size (fun _ => True) v (prs l d) ∧ Below w.heap.size w w' := by
  go_enter Try.func9, Try.ntmps9
  go_wp2
  go_loopw [5, 11] (fun v i wr => ∃ (j : Nat) (v0 : Value), j ≤ l.length ∧ i = .int .i64 j ∧ v0 = v ∧ kPair.R 24 wr w.heap.size (fun _ => True) v0 ((l.take j).foldl (prStep d) []) ∧ Below w.heap.size w wr) (fun _ i _ => l.length - (intOf i).toNat)
  case atStart => exact ⟨0, _, Nat.zero_le _, rfl, rfl, Kd.R_nil _ _ _ _ _, Below.refl _ _⟩
  case round =>
    obtain ⟨j, v, hj, rfl, rfl, hR, hB⟩ := hrel
    have hpl := prs_len l d j
    by_cases hlt : j < l.length
    · obtain ⟨ad, e, cs, A7, c7, rfl, HX, hcells, hlen, hone, k0, k1, k2, k3, k4, _, _, _, _, _, _, _, _, _, _, _, _, _, _, _, _⟩ := row_T34 (Kd.C_below hl hB) j hlt
      generalize hout : (l.take j).foldl (prStep d) [] = out at *
      have HN : Hid ((l.take (j + 1)).foldl (prStep d) [] = prStep d out e) := by rw [← hout]; exact prs_next HX.out
      have HC := hide_ hcells
      have HI : Hid ((Try.prog.info? 34).map (·.size) = some cs.length) := by rw [hlen]; exact size34
      have HI2 : Hid ((Try.prog.info? 34).map (·.size) = some cs.toArray.size) := HI.out.trans (by simp)
      have HZ : Hid (19 = cs.toArray.size) := by rw [List.size_toArray, hlen]; rfl
      have HO := hide_ (all_list hone)
      have K0 := hide_ k0
      have K2 := hide_ k2
      have K3 := hide_ k3
      have K4 := hide_ k4
      clear hout hcells hlen hone k0 k1 k2 k3 k4
      by_cases h0 : e.f0 = 0
      · have h0b : (e.f0 != 0) = false := by simp [h0]
        have HS : Hid (prStep d out e = out) := if_neg (fun h => h.1 h0)
        clear h0
        go_wp2_with (first
          | (refine gate_ (.load 34 (.tmp 13)) rfl ?_; refine wpList_load_list rfl 34 (.tmp 13) rfl _ rfl cs _ HC.out Try.underlying34 rfl HI.out ?_)
          | (refine gate_ (.store 34 (.tmp 7) (.tmp 14)) rfl ?_; go_must (refine wpList_store_new rfl 34 (.tmp 7) (.tmp 14) rfl _ cs.toArray rfl rfl HI2.out HZ.out HO.out ?_); go_must (intro w1 hblk hbel hsz; have f0 := blk_list hblk K0.out; have f2 := blk_list hblk K2.out; have f3 := blk_list hblk K3.out; have f4 := blk_list hblk K4.out; clear hblk)))
        go_quiet (fail)
        go_wp2
        go_roundw
        case rel => exact ⟨j + 1, v, by omega, by go_num, rfl, by rw [HN.out, HS.out]; exact Kd.R_below hR (pw_below_drewN (below_alloc hbel _) _), pw_below_drewN (below_alloc (below_then hB hB.size hbel) _) _⟩
        case measure => simp [intOf]; omega
      · have h0b : (e.f0 != 0) = true := by simp [h0]
        by_cases h2 : e.f2 = d
        · have h2b : (e.f2 == d) = true := by simp [h2]
          have H0 := hide_ h0
          have H2 := hide_ h2
          clear h0 h2
          rcases hoc : out with _ | ⟨y, ys⟩
          · have hR' := hR
            rw [hoc] at hR'
            obtain ⟨A', c', rfl, hc', hC'⟩ := Kd.R_reads hR
            have hl0 : ((out.length : Int) == 0) = true := by rw [hoc]; rfl
            have HS : Hid (prStep d out e = out ++ [(e.f3, e.f4)]) := if_pos ⟨H0.out, H2.out, by rw [hoc]; simp⟩
            have HO' := hide_ hoc
            clear hoc hR'
            go_wp2_with (first
              | (refine gate_ (.load 34 (.tmp 13)) rfl ?_; refine wpList_load_list rfl 34 (.tmp 13) rfl _ rfl cs _ HC.out Try.underlying34 rfl HI.out ?_)
              | (refine gate_ (.store 34 (.tmp 7) (.tmp 14)) rfl ?_; go_must (refine wpList_store_new rfl 34 (.tmp 7) (.tmp 14) rfl _ cs.toArray rfl rfl HI2.out HZ.out HO.out ?_); go_must (intro w1 hblk hbel hsz; have f0 := blk_list hblk K0.out; have f2 := blk_list hblk K2.out; have f3 := blk_list hblk K3.out; have f4 := blk_list hblk K4.out; clear hblk)))
            go_quiet (fail)
            have hBx : Below wr.heap.size wr ((w1.alloc (.cells #[.int .i64 e.f3, .int .i64 e.f4] 24)).drewN nq) := pw_below_drewN (below_alloc hbel _) _
            have hx0 : ((w1.alloc (.cells #[.int .i64 e.f3, .int .i64 e.f4] 24)).drewN nq).cell? ⟨wr.heap.size + 1, 0, none⟩ = some (.int .i64 e.f3) := by rw [← hsz]; simp
            have hx1 : ((w1.alloc (.cells #[.int .i64 e.f3, .int .i64 e.f4] 24)).drewN nq).cell? ⟨wr.heap.size + 1, 1, none⟩ = some (.int .i64 e.f4) := by rw [← hsz]; simp
            generalize (w1.alloc (.cells #[.int .i64 e.f3, .int .i64 e.f4] 24)).drewN nq = W2 at hBx hx0 hx1 ⊢
            go_wp2_with (at_builtin; refine Kd.R_append kPair (w0 := w) w.heap.size rfl (.tmp 44) (.tmp 46) 22 24 _ 16 rfl Try.underlying22 info24 rfl (by decide) (by decide) (.slice A' out.length c') _ (e.f3, e.f4) _ (fun _ => True) (fun j => True ∧ some j ≠ (Value.slice A' out.length c').ownBlock) rfl rfl (kPair_M _ _) (fun _ h => h) (fun _ _ => trivial) (Kd.R_below hR hBx) (below_then hB hB.size hBx) (below_then hB hB.size hBx).size (by omega) ?_; intro v1 w2 hR1 hB2 hg2 hat2; clear hg2 hat2)
            go_roundw
            case rel => exact ⟨j + 1, v1, by omega, by go_num, rfl, by rw [HN.out, HS.out]; exact hR1, hB2⟩
            case measure => simp [intOf]; omega
          · obtain ⟨A', c', rfl, hc', hC'⟩ := Kd.R_reads hR
            have hpos : 0 < out.length := by rw [hoc]; simp
            obtain ⟨bd, p, q, rfl, HY, hc2, hc3⟩ := pair_at hC' (out.length - 1) (by omega)
            have HO' := hide_ hoc
            have HC2 := hide_ hc2
            have HC3 := hide_ hc3
            clear hoc hc2 hc3
            have hl0 : ((out.length : Int) == 0) = false := by rw [beq_eq_false_iff_ne]; omega
            by_cases hxy : (p, q) = (e.f3, e.f4)
            · have heq := eqq_pair p q e.f3 e.f4 hxy
              have HS : Hid (prStep d out e = out) := if_neg (fun h => h.2.2 (by rw [last_at HY.out, hxy]))
              clear hxy
              go_wp2_with (first
                | (refine gate_ (.load 34 (.tmp 13)) rfl ?_; refine wpList_load_list rfl 34 (.tmp 13) rfl _ rfl cs _ HC.out Try.underlying34 rfl HI.out ?_)
                | (refine gate_ (.store 34 (.tmp 7) (.tmp 14)) rfl ?_; go_must (refine wpList_store_new rfl 34 (.tmp 7) (.tmp 14) rfl _ cs.toArray rfl rfl HI2.out HZ.out HO.out ?_); go_must (intro w1 hblk hbel hsz; have f0 := blk_list hblk K0.out; have f2 := blk_list hblk K2.out; have f3 := blk_list hblk K3.out; have f4 := blk_list hblk K4.out; clear hblk; have g2 : (w1.alloc (.cells #[.int .i64 e.f3, .int .i64 e.f4] 24)).cell? (bd.add ((out.length - 1) * 2)) = some (.int .i64 p) := pw_cell_below (below_alloc (Below.refl _ _) _) (pw_cell_below hbel HC2.out); have g3 : (w1.alloc (.cells #[.int .i64 e.f3, .int .i64 e.f4] 24)).cell? ⟨(bd.add ((out.length - 1) * 2)).block, (bd.add ((out.length - 1) * 2)).off + 1, none⟩ = some (.int .i64 q) := pw_cell_below (below_alloc (Below.refl _ _) _) (pw_cell_below hbel HC3.out))))
              go_quiet (fail)
              go_wp2
              go_roundw
              case rel => exact ⟨j + 1, _, by omega, by go_num, rfl, by rw [HN.out, HS.out]; exact Kd.R_below hR (pw_below_drewN (below_alloc hbel _) _), pw_below_drewN (below_alloc (below_then hB hB.size hbel) _) _⟩
              case measure => simp [intOf]; omega
            · have heq := neq_pair p q e.f3 e.f4 hxy
              have HS : Hid (prStep d out e = out ++ [(e.f3, e.f4)]) := if_pos ⟨H0.out, H2.out, fun h => hxy (by rw [last_at HY.out] at h; exact Option.some.inj h)⟩
              clear hxy
              go_wp2_with (first
                | (refine gate_ (.load 34 (.tmp 13)) rfl ?_; refine wpList_load_list rfl 34 (.tmp 13) rfl _ rfl cs _ HC.out Try.underlying34 rfl HI.out ?_)
                | (refine gate_ (.store 34 (.tmp 7) (.tmp 14)) rfl ?_; go_must (refine wpList_store_new rfl 34 (.tmp 7) (.tmp 14) rfl _ cs.toArray rfl rfl HI2.out HZ.out HO.out ?_); go_must (intro w1 hblk hbel hsz; have f0 := blk_list hblk K0.out; have f2 := blk_list hblk K2.out; have f3 := blk_list hblk K3.out; have f4 := blk_list hblk K4.out; clear hblk; have g2 : (w1.alloc (.cells #[.int .i64 e.f3, .int .i64 e.f4] 24)).cell? (bd.add ((out.length - 1) * 2)) = some (.int .i64 p) := pw_cell_below (below_alloc (Below.refl _ _) _) (pw_cell_below hbel HC2.out); have g3 : (w1.alloc (.cells #[.int .i64 e.f3, .int .i64 e.f4] 24)).cell? ⟨(bd.add ((out.length - 1) * 2)).block, (bd.add ((out.length - 1) * 2)).off + 1, none⟩ = some (.int .i64 q) := pw_cell_below (below_alloc (Below.refl _ _) _) (pw_cell_below hbel HC3.out))))
              go_quiet (fail)
              have hBx : Below wr.heap.size wr ((w1.alloc (.cells #[.int .i64 e.f3, .int .i64 e.f4] 24)).drewN nq) := pw_below_drewN (below_alloc hbel _) _
              have hx0 : ((w1.alloc (.cells #[.int .i64 e.f3, .int .i64 e.f4] 24)).drewN nq).cell? ⟨wr.heap.size + 1, 0, none⟩ = some (.int .i64 e.f3) := by rw [← hsz]; simp
              have hx1 : ((w1.alloc (.cells #[.int .i64 e.f3, .int .i64 e.f4] 24)).drewN nq).cell? ⟨wr.heap.size + 1, 1, none⟩ = some (.int .i64 e.f4) := by rw [← hsz]; simp
              generalize (w1.alloc (.cells #[.int .i64 e.f3, .int .i64 e.f4] 24)).drewN nq = W2 at hBx hx0 hx1 ⊢
              go_wp2_with (at_builtin; refine Kd.R_append kPair (w0 := w) w.heap.size rfl (.tmp 44) (.tmp 46) 22 24 _ 16 rfl Try.underlying22 info24 rfl (by decide) (by decide) (.slice (some bd) out.length c') _ (e.f3, e.f4) _ (fun _ => True) (fun j => True ∧ some j ≠ (Value.slice (some bd) out.length c').ownBlock) rfl rfl (kPair_M _ _) (fun _ h => h) (fun _ _ => trivial) (Kd.R_below hR hBx) (below_then hB hB.size hBx) (below_then hB hB.size hBx).size (by omega) ?_; intro v1 w2 hR1 hB2 hg2 hat2; clear hg2 hat2)
              go_roundw
              case rel => exact ⟨j + 1, v1, by omega, by go_num, rfl, by rw [HN.out, HS.out]; exact hR1, hB2⟩
              case measure => simp [intOf]; omega
        · have h2b : (e.f2 == d) = false := by simp [h2]
          have HS : Hid (prStep d out e = out) := if_neg (fun h => h2 h.2.1)
          clear h0 h2
          go_wp2_with (first
            | (refine gate_ (.load 34 (.tmp 13)) rfl ?_; refine wpList_load_list rfl 34 (.tmp 13) rfl _ rfl cs _ HC.out Try.underlying34 rfl HI.out ?_)
            | (refine gate_ (.store 34 (.tmp 7) (.tmp 14)) rfl ?_; go_must (refine wpList_store_new rfl 34 (.tmp 7) (.tmp 14) rfl _ cs.toArray rfl rfl HI2.out HZ.out HO.out ?_); go_must (intro w1 hblk hbel hsz; have f0 := blk_list hblk K0.out; have f2 := blk_list hblk K2.out; have f3 := blk_list hblk K3.out; have f4 := blk_list hblk K4.out; clear hblk)))
          go_quiet (fail)
          go_wp2
          go_roundw
          case rel => exact ⟨j + 1, v, by omega, by go_num, rfl, by rw [HN.out, HS.out]; exact Kd.R_below hR (pw_below_drewN (below_alloc hbel _) _), pw_below_drewN (below_alloc (below_then hB hB.size hbel) _) _⟩
          case measure => simp [intOf]; omega
    · have HP : Hid (prs l d = (l.take j).foldl (prStep d) []) := by
        show prs l d = _
        rw [List.take_of_length_le (by omega)]
        rfl
      go_wp2
      go_ret
      exact ⟨v, rfl, by rw [HP.out]; exact hR, hB⟩
end Go.Proofs.Ytmjedjhgomlfiaa
