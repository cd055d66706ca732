/- How often a listener was run, and the greatest number of a dispatch: what the three Go functions answer. They write nothing that was there. -/
import Derived.Test.YtmjedjhgomlfiaaEls
import Derived.Test.YtmjedjhgomlfiaaBase
import Derived.Test.YtmjedjhgomlfiaaWMore
namespace Go.Proofs.Ytmjedjhgomlfiaa
open Go.RowKit Go.Proofs.YtmjedjhgomlfiaaW.PrintWords Go.Proofs.YtmjedjhgomlfiaaW.PrintMore Go.Proofs.Ytmjedjhgomlfiaa.PAuditTells

/-- How often a listener was run. -/
def runs (x : Int) (l : List S34) : Nat := (l.filter fun e => decide (e.f0 ≠ 0 ∧ e.f0 = x)).length
theorem runs_next {l : List S34} {x : Int} {j : Nat} {e : S34} (h : l[j]? = some e) : runs x (l.take (j + 1)) = runs x (l.take j) + if e.f0 ≠ 0 ∧ e.f0 = x then 1 else 0 := by
  rw [List.take_add_one, h, runs, List.filter_append, List.length_append, runs]
  by_cases hc : e.f0 ≠ 0 ∧ e.f0 = x
  · rw [if_pos hc]
    show _ + ([e].filter _).length = _
    rw [List.filter_cons_of_pos (p := fun e : S34 => decide (e.f0 ≠ 0 ∧ e.f0 = x)) (decide_eq_true hc)]
    rfl
  · rw [if_neg hc]
    show _ + ([e].filter _).length = _
    rw [List.filter_cons_of_neg (p := fun e : S34 => decide (e.f0 ≠ 0 ∧ e.f0 = x)) (fun h => hc (of_decide_eq_true h))]
    rfl
theorem runs_le (l : List S34) (x : Int) (j : Nat) : runs x (l.take j) ≤ j := by
  unfold runs
  exact Nat.le_trans (List.length_filter_le _ _) (List.length_take_le _ _)
theorem runs_mono (l : List S34) (x : Int) (j : Nat) : runs x (l.take j) ≤ runs x l := by
  unfold runs
  exact (List.Sublist.filter _ (List.take_sublist j l)).length_le
/-- The greatest number of a dispatch. -/
def most (l : List S34) : Int := l.foldl (fun n e => max n e.f2) 0
theorem most_next {l : List S34} {j : Nat} {e : S34} (h : l[j]? = some e) : most (l.take (j + 1)) = max (most (l.take j)) e.f2 := by
  rw [List.take_add_one, h, most, most]
  simp
theorem max_if (m n : Int) : max m n = if m < n then n else m := by rw [Int.max_def]; split <;> split <;> omega
theorem size34 : (Try.prog.info? 34).map (·.size) = some 19 := by kernel_rfl

set_option maxHeartbeats 800000 in
theorem refRuns_any (l : List S34) (A : Option Addr) (c : Nat) (x : Int) (w : World) (hl : Kd.C k34 w A l.length l) (hll : l.length ≤ 4294967296) :
    Calls Try.prog 15 #[.slice A l.length c, .int .i64 x] w fun e w' => e = .returned (.int .i64 (runs x l)) ∧ Below w.heap.size w w' := by
  go_enter Try.func15, Try.ntmps15
  go_wp2
  go_loopw [5, 6] (fun v i wr => ∃ (j : Nat), j ≤ l.length ∧ i = .int .i64 j ∧ v = .int .i64 (runs x (l.take j)) ∧ Below w.heap.size w wr) (fun _ i _ => l.length - (intOf i).toNat)
  case atStart => exact ⟨0, Nat.zero_le _, rfl, rfl, Below.refl _ _⟩
  case round =>
    obtain ⟨j, hj, rfl, rfl, hB⟩ := hrel
    have hle := runs_le l x j
    by_cases hlt : j < l.length
    · obtain ⟨ad, e, cs, A7, c7, rfl, HX, hcells, _, _, k0, _, _, _, _, _, _, _, _, _, _, _, _, _, _, _, _, _, _, _, _⟩ := row_T34 (Kd.C_below hl hB) j hlt
      have f0 : ∀ n, (wr.drewN n).cell? (ad.add (j * 19)) = some (.int .i64 e.f0) := fun _ => by simpa [Addr.add_zero'] using hcells 0 _ k0
      have f0' : wr.cell? (ad.add (j * 19)) = some (.int .i64 e.f0) := f0 0
      have HN := hide_ (runs_next (x := x) HX.out)
      generalize runs x (l.take j) = r at *
      clear hcells k0 f0
      by_cases h0 : e.f0 = 0
      · have h0b : (e.f0 != 0) = false := by simp [h0]
        have HS : Hid (runs x (l.take (j + 1)) = r) := by rw [HN.out, if_neg (fun h => h.1 h0)]; rfl
        clear h0
        go_wp2
        go_roundw
        case rel => exact ⟨j + 1, by omega, by go_num, by first | (rw [HS.out]; done) | (rw [HS.out]; rfl), hB⟩
        case measure => simp [intOf]; omega
      · have h0b : (e.f0 != 0) = true := by simp [h0]
        by_cases h2 : e.f0 = x
        · have h2b : (e.f0 == x) = true := by simp [h2]
          have HS : Hid (runs x (l.take (j + 1)) = r + 1) := by rw [HN.out, if_pos ⟨h0, h2⟩]; rfl
          clear h0 h2
          go_wp2
          go_roundw
          case rel => exact ⟨j + 1, by omega, by go_num, by rw [HS.out]; go_num, hB⟩
          case measure => simp [intOf]; omega
        · have h2b : (e.f0 == x) = false := by simp [h2]
          have HS : Hid (runs x (l.take (j + 1)) = r) := by rw [HN.out, if_neg (fun h => h2 h.2)]; rfl
          clear h0 h2
          go_wp2
          go_roundw
          case rel => exact ⟨j + 1, by omega, by go_num, by first | (rw [HS.out]; done) | (rw [HS.out]; rfl), hB⟩
          case measure => simp [intOf]; omega
    · have HP : Hid (runs x l = runs x (l.take j)) := by show _ = _; rw [List.take_of_length_le (by omega)]
      go_wp2
      go_ret
      exact ⟨by rw [HP.out]; rfl, hB⟩

set_option maxHeartbeats 800000 in
theorem twice_any (l : List S34) (A : Option Addr) (c : Nat) (x : Int) (w : World) (hl : Kd.C k34 w A l.length l) (hll : l.length ≤ 4294967296) :
    Calls Try.prog 14 #[.slice A l.length c, .int .i64 x] w fun e w' => e = .returned (.bool (decide (1 < runs x l))) ∧ Below w.heap.size w w' := by
  go_enter Try.func14, Try.ntmps14
  go_wp2
  go_loopw [5, 10] (fun v i wr => ∃ (j : Nat) (o : Bool), j ≤ l.length ∧ i = .int .i64 j ∧ v = .bool o ∧ runs x (l.take j) = (if o then 1 else 0) ∧ Below w.heap.size w wr) (fun _ i _ => l.length - (intOf i).toNat)
  case atStart => exact ⟨0, false, Nat.zero_le _, rfl, rfl, rfl, Below.refl _ _⟩
  case round =>
    obtain ⟨j, o, hj, rfl, rfl, hr, hB⟩ := hrel
    have HR := hide_ hr
    clear hr
    by_cases hlt : j < l.length
    · obtain ⟨ad, e, cs, A7, c7, rfl, HX, hcells, hlen, hone, k0, _, _, _, _, _, _, _, _, _, _, _, _, _, _, _, _, _, _, _, _⟩ := row_T34 (Kd.C_below hl hB) j hlt
      have HC := hide_ hcells
      have HI : Hid ((Try.prog.info? 34).map (·.size) = some cs.length) := by rw [hlen]; exact size34
      have HI2 : Hid ((Try.prog.info? 34).map (·.size) = some cs.toArray.size) := HI.out.trans (by simp)
      have HZ : Hid (19 = cs.toArray.size) := by rw [List.size_toArray, hlen]; rfl
      have HO := hide_ (all_list hone)
      have K0 := hide_ k0
      have HN := hide_ (runs_next (x := x) HX.out)
      clear hcells hlen hone k0
      by_cases h0 : e.f0 = 0
      · have h0b : (e.f0 == 0) = true := by simp [h0]
        have HS : Hid (runs x (l.take (j + 1)) = (if o then 1 else 0)) := by rw [HN.out, if_neg (fun h => h.1 h0)]; exact HR.out
        clear h0
        go_wp2_with (first
          | (refine gate_ (.load 34 (.tmp 12)) rfl ?_; refine wpList_load_list rfl 34 (.tmp 12) rfl _ rfl cs _ HC.out Try.underlying34 rfl HI.out ?_)
          | (refine gate_ (.store 34 (.tmp 7) (.tmp 13)) rfl ?_; refine wpList_store_new rfl 34 (.tmp 7) (.tmp 13) rfl _ cs.toArray rfl rfl HI2.out HZ.out HO.out ?_; intro w1 hblk hbel hsz; have f0 := blk_list hblk K0.out; clear hblk))
        go_roundw
        case rel => exact ⟨j + 1, o, by omega, by go_num, rfl, HS.out, below_then hB hB.size hbel⟩
        case measure => simp [intOf]; omega
      · have h0b : (e.f0 == 0) = false := by simp [h0]
        by_cases h2 : e.f0 = x
        · have h2b : (e.f0 != x) = false := by simp [h2]
          have HS : Hid (runs x (l.take (j + 1)) = (if o then 1 else 0) + 1) := by rw [HN.out, if_pos ⟨h0, h2⟩]; exact congrArg (· + 1) HR.out
          have hm := runs_mono l x (j + 1)
          clear h0 h2
          cases o with
          | true =>
            have HF : Hid (decide (1 < runs x l) = true) := by
              have h3 : runs x (l.take (j + 1)) = 2 := HS.out
              exact decide_eq_true (by omega)
            clear hm
            go_wp2_with (first
              | (refine gate_ (.load 34 (.tmp 12)) rfl ?_; refine wpList_load_list rfl 34 (.tmp 12) rfl _ rfl cs _ HC.out Try.underlying34 rfl HI.out ?_)
              | (refine gate_ (.store 34 (.tmp 7) (.tmp 13)) rfl ?_; refine wpList_store_new rfl 34 (.tmp 7) (.tmp 13) rfl _ cs.toArray rfl rfl HI2.out HZ.out HO.out ?_; intro w1 hblk hbel hsz; have f0 := blk_list hblk K0.out; clear hblk))
            go_ret
            exact ⟨by rw [HF.out]; rfl, below_then hB hB.size hbel⟩
          | false =>
            clear hm
            go_wp2_with (first
              | (refine gate_ (.load 34 (.tmp 12)) rfl ?_; refine wpList_load_list rfl 34 (.tmp 12) rfl _ rfl cs _ HC.out Try.underlying34 rfl HI.out ?_)
              | (refine gate_ (.store 34 (.tmp 7) (.tmp 13)) rfl ?_; refine wpList_store_new rfl 34 (.tmp 7) (.tmp 13) rfl _ cs.toArray rfl rfl HI2.out HZ.out HO.out ?_; intro w1 hblk hbel hsz; have f0 := blk_list hblk K0.out; clear hblk))
            go_roundw
            case rel => exact ⟨j + 1, true, by omega, by go_num, rfl, HS.out, below_then hB hB.size hbel⟩
            case measure => simp [intOf]; omega
        · have h2b : (e.f0 != x) = true := by simp [h2]
          have HS : Hid (runs x (l.take (j + 1)) = (if o then 1 else 0)) := by rw [HN.out, if_neg (fun h => h2 h.2)]; exact HR.out
          clear h0 h2
          go_wp2_with (first
            | (refine gate_ (.load 34 (.tmp 12)) rfl ?_; refine wpList_load_list rfl 34 (.tmp 12) rfl _ rfl cs _ HC.out Try.underlying34 rfl HI.out ?_)
            | (refine gate_ (.store 34 (.tmp 7) (.tmp 13)) rfl ?_; refine wpList_store_new rfl 34 (.tmp 7) (.tmp 13) rfl _ cs.toArray rfl rfl HI2.out HZ.out HO.out ?_; intro w1 hblk hbel hsz; have f0 := blk_list hblk K0.out; clear hblk))
          go_roundw
          case rel => exact ⟨j + 1, o, by omega, by go_num, rfl, HS.out, below_then hB hB.size hbel⟩
          case measure => simp [intOf]; omega
    · have HP : Hid (decide (1 < runs x l) = false) := by
        have h1 := HR.out
        rw [List.take_of_length_le (by omega)] at h1
        refine decide_eq_false ?_
        rw [h1]
        split <;> omega
      go_wp2
      go_ret
      exact ⟨by rw [HP.out]; rfl, hB⟩

attribute [local go_sem] max2_int max_two in
theorem dispatches_any (l : List S34) (A : Option Addr) (c : Nat) (w : World) (hl : Kd.C k34 w A l.length l) (hll : l.length ≤ 4294967296) :
    Calls Try.prog 16 #[.slice A l.length c] w fun e w' => e = .returned (.int .i64 (most l)) ∧ Below w.heap.size w w' := by
  go_enter Try.func16, Try.ntmps16
  go_wp2
  go_loopw [3, 8] (fun v i wr => ∃ (j : Nat), j ≤ l.length ∧ i = .int .i64 j ∧ v = .int .i64 (most (l.take j)) ∧ Below w.heap.size w wr) (fun _ i _ => l.length - (intOf i).toNat)
  case atStart => exact ⟨0, Nat.zero_le _, rfl, rfl, Below.refl _ _⟩
  case round =>
    obtain ⟨j, hj, rfl, rfl, hB⟩ := hrel
    by_cases hlt : j < l.length
    · obtain ⟨ad, e, cs, A7, c7, rfl, HX, hcells, hlen, hone, _, _, k2, _, _, _, _, _, _, _, _, _, _, _, _, _, _, _, _, _, _⟩ := row_T34 (Kd.C_below hl hB) j hlt
      have HC := hide_ hcells
      have HI : Hid ((Try.prog.info? 34).map (·.size) = some cs.length) := by rw [hlen]; exact size34
      have HI2 : Hid ((Try.prog.info? 34).map (·.size) = some cs.toArray.size) := HI.out.trans (by simp)
      have HZ : Hid (19 = cs.toArray.size) := by rw [List.size_toArray, hlen]; rfl
      have HO := hide_ (all_list hone)
      have K2 := hide_ k2
      have HN := hide_ (most_next HX.out)
      generalize most (l.take j) = m at *
      clear hcells hlen hone k2
      go_wp2_with (first
        | (refine gate_ (.load 34 (.tmp 10)) rfl ?_; refine wpList_load_list rfl 34 (.tmp 10) rfl _ rfl cs _ HC.out Try.underlying34 rfl HI.out ?_)
        | (refine gate_ (.store 34 (.tmp 5) (.tmp 11)) rfl ?_; refine wpList_store_new rfl 34 (.tmp 5) (.tmp 11) rfl _ cs.toArray rfl rfl HI2.out HZ.out HO.out ?_; intro w1 hblk hbel hsz; have f2 := blk_list hblk K2.out; clear hblk))
      go_roundw
      case rel => exact ⟨j + 1, by omega, by go_num, by rw [HN.out, max_if], below_then hB hB.size hbel⟩
      case measure => simp [intOf]; omega
    · have HP : Hid (most l = most (l.take j)) := by show _ = _; rw [List.take_of_length_le (by omega)]
      go_wp2
      go_ret
      exact ⟨by rw [HP.out]; rfl, hB⟩
end Go.Proofs.Ytmjedjhgomlfiaa
