/- law25.made: a forest that calls make. -/
import Derived.Test.YtmjedjhgomlfiaaForWFs
import Derived.Test.YtmjedjhgomlfiaaForPut
import Derived.Deep.Slices
set_option linter.unusedSimpArgs false
set_option linter.unusedVariables false
namespace Go.Proofs.Ytmjedjhgomlfiaa
open Go.RowKit Go.Proofs.YtmjedjhgomlfiaaW.PrintWords Go.Proofs.YtmjedjhgomlfiaaW.PrintLast Go.Proofs.Ytmjedjhgomlfiaa.PAuditLeaks

/-- One call. -/
def doF (l : List S61) (x : S63) : List S61 := if x.f0 = 0 then makeF l x.f4.f0 x.f4.f4 x.f4.f5 x.f4.f6 x.f4.f7 else if x.f0 = 1 then putF l x.f1 x.f5 else if x.f0 = 2 then tieF l x.f1 x.f2 else if x.f0 = 3 then nameF l x.f1 x.f3 else if x.f0 = 4 then wantF l x.f1 x.f3 else l
/-- The forest that calls make. -/
def madeF (acts : List S63) : List S61 := acts.foldl doF []
theorem WF.do {l : List S61} (h : WF l) (x : S63) (hx : x.f5.length ≤ 100000) : WF (doF l x) := by
  unfold doF
  split
  · exact h.make _ _ _ _ _
  split
  · exact h.put _ _ hx
  split
  · exact h.tie _ _
  split
  · exact h.name _ _
  split
  · exact h.want _ _
  · exact h
theorem madeF_step {acts : List S63} {j : Nat} {x : S63} (h : acts[j]? = some x) : madeF (acts.take (j + 1)) = doF (madeF (acts.take j)) x := by
  rw [List.take_add_one, h]
  unfold madeF
  rw [List.foldl_append]
  rfl
theorem row_T63 {w : World} {A : Option Addr} {m : Nat} {xs : List S63} (h : Kd.C k63 w A m xs) (j : Nat) (hj : j < m) :
    ∃ (ad : Addr) (e : S63) (cs : List Value) (A12 : Option Addr) (c12 : Nat) (A13 : Option Addr) (c13 : Nat), A = some ad ∧ Hid (xs[j]? = some e) ∧ (∀ i v, cs[i]? = some v → w.cell? ((ad.add (j * 14)).add i) = some v) ∧ (∀ u ∈ cs, u.oneCell' = true) ∧
      cs = [.int .i64 e.f0, .int .i64 e.f1, .int .i64 e.f2, .string e.f3, .int .i64 e.f4.f0, .int .i64 e.f4.f1, .int .i64 e.f4.f2, .int .i64 e.f4.f3, .int .i64 e.f4.f4, .bool e.f4.f5, .string e.f4.f6, .string e.f4.f7, .slice A12 e.f4.f8.length c12, .slice A13 e.f5.length c13] ∧ e.f5.length ≤ c13 ∧ (Kd.int .i64).C w A13 e.f5.length e.f5 := by
  obtain ⟨ad, c, hA, hl, hK, hc⟩ := Kd.C_get h z63 (j : Int) (by omega) (by omega)
  have hx : xs[j]? = some (xs.getD (j : Int).toNat z63) := by
    have hl : xs.length = m := h.1
    rw [Int.toNat_natCast, List.getD_eq_getElem?_getD, List.getElem?_eq_getElem (by omega)]
    rfl
  have h1 := Kd.K_one k63 hK
  obtain ⟨A12, c12, A13, c13, rfl, r0, r1, r2, r3⟩ := k63_open hK
  exact ⟨ad, _, _, A12, c12, A13, c13, hA, hx, fun i v hv => by rw [Go.Deep.add_add]; exact hc i v hv, h1, rfl, r2, r3⟩
theorem size63 : (Try.prog.info? 63).map (·.size) = some 14 := by kernel_rfl
theorem nine_at {a b c d e f g h i j k l m n : Value} : ∀ (q : Nat) (v : Value), [e, f, g, h, i, j, k, l, m][q]? = some v → [a, b, c, d, e, f, g, h, i, j, k, l, m, n][4 + q]? = some v
  | 0, _, h => h
  | 1, _, h => h
  | 2, _, h => h
  | 3, _, h => h
  | 4, _, h => h
  | 5, _, h => h
  | 6, _, h => h
  | 7, _, h => h
  | 8, _, h => h
  | q + 9, _, h => by simp at h
set_option maxRecDepth 100000 in
set_option maxHeartbeats 6400000 in
theorem made_any (acts : List S63) (A : Option Addr) (c : Nat) (w : World) (hC : Kd.C k63 w A acts.length acts) (hn : acts.length ≤ 300) (hL : ∀ x ∈ acts, x.f5.length ≤ 200) :
    Calls Try.prog 20 #[.slice A acts.length c] w fun e w' => ∃ F, e = .returned (.pointer (some ⟨F, 0, none⟩)) ∧ FoO w w' F (madeF acts) ∧ WF (madeF acts) := by
  go_enter Try.func20, Try.ntmps20
  go_wp2_with (go_at_call 27; refine (new_any _).mono ?_; rintro e w1 ⟨F, rfl, hf0⟩)
  go_loopw [4] (fun i wr => ∃ (j : Nat), j ≤ acts.length ∧ i = .int .i64 j ∧ FoO w wr F (madeF (acts.take j)) ∧ WF (madeF (acts.take j))) (fun i _ => acts.length - (intOf i).toNat)
  case atStart => exact ⟨0, Nat.zero_le _, rfl, by rw [List.take_zero]; exact hf0, by rw [List.take_zero]; exact WF.nil⟩
  case round =>
    clear hf0
    obtain ⟨j, hj, rfl, hf, hW⟩ := hrel
    by_cases hlt : j < acts.length
    · obtain ⟨ad, e, cs, A12, c12, A13, c13, rfl, HX, hcells, hone, hcs, l13, g13⟩ := row_T63 hC j hlt
      have HS := hd_ (madeF_step HX)
      have hlen : cs.length = 14 := by rw [hcs]; rfl
      have hxm := List.mem_of_getElem? HX
      have h200 := hL e hxm
      have HW := hd_ (by have := hW.do e (by omega); rwa [← HS.out] at this)
      have HC := hide_ (fun i v (hi : cs[i]? = some v) => (hf.base.cell (World.block_lt_of_cell? w _ (hcells i v hi))).trans (hcells i v hi))
      have HI : Hid ((Try.prog.info? 63).map (·.size) = some cs.length) := by rw [hlen]; exact size63
      have HI2 : Hid ((Try.prog.info? 63).map (·.size) = some cs.toArray.size) := HI.trans (by simp)
      have HZ : Hid (14 = cs.toArray.size) := by show 14 = _; rw [List.size_toArray, hlen]
      have HO := hide_ (all_list hone)
      have K0 : Hid (cs[0]? = some (.int .i64 e.f0)) := by rw [hcs]; rfl
      have K1 : Hid (cs[1]? = some (.int .i64 e.f1)) := by rw [hcs]; rfl
      have K2 : Hid (cs[2]? = some (.int .i64 e.f2)) := by rw [hcs]; rfl
      have K3 : Hid (cs[3]? = some (.string e.f3)) := by rw [hcs]; rfl
      have K13 : Hid (cs[13]? = some (.slice A13 e.f5.length c13)) := by rw [hcs]; rfl
      have K9 : Hid (∀ q v, [Value.int .i64 e.f4.f0, .int .i64 e.f4.f1, .int .i64 e.f4.f2, .int .i64 e.f4.f3, .int .i64 e.f4.f4, .bool e.f4.f5, .string e.f4.f6, .string e.f4.f7, .slice A12 e.f4.f8.length c12][q]? = some v → cs[4 + q]? = some v) := by
        intro q v hq; rw [hcs]; exact nine_at q v hq
      have h300 : (j : Int) < 300 := by omega
      clear hcells hlen hone hcs HX hL hC
      generalize madeF (acts.take j) = l at hf hW HS
      have hmake := fun W (hb : Below wr.heap.size wr W) => make_any F e.f4.f0 e.f4.f1 e.f4.f2 e.f4.f3 e.f4.f4 e.f4.f5 e.f4.f6 e.f4.f7 A12 e.f4.f8.length c12 l w W (hf.below hb)
      have hput := fun W (hb : Below wr.heap.size wr W) => put_any F e.f1 e.f5 A13 c13 l w W (hf.below hb) g13 l13 (by omega) hW.links hW.endsO hW.kid hW.kl
      have htie := fun W (hb : Below wr.heap.size wr W) => tie_any F e.f1 e.f2 l w W (hf.below hb) hW.links hW.endsO
      have hname := fun W (hb : Below wr.heap.size wr W) => name_any F e.f1 e.f3 l w W (hf.below hb)
      have hwant := fun W (hb : Below wr.heap.size wr W) => want_any F e.f1 e.f3 l w W (hf.below hb)
      have HF := hd_ hf
      clear hf hW g13
      by_cases c0 : e.f0 = 0
      · have HR : Hd (madeF (acts.take (j + 1)) = makeF l e.f4.f0 e.f4.f4 e.f4.f5 e.f4.f6 e.f4.f7) := ⟨by rw [HS.out]; unfold doF; rw [if_pos c0]⟩
        rw [c0] at K0
        clear c0 HS hput htie hname hwant 
        go_wp2_with (first
          | (refine gate_ (.load 63 (.tmp 19)) rfl ?_; refine wpList_load_list rfl 63 (.tmp 19) rfl _ rfl cs _ HC Try.underlying63 rfl HI ?_)
          | (refine gate_ (.store 63 (.tmp 5) (.tmp 20)) rfl ?_; refine wpList_store_new rfl 63 (.tmp 5) (.tmp 20) rfl _ cs.toArray rfl rfl HI2 HZ HO ?_; intro w1 hblk hbel hsz; have f0 := blk_list hblk K0; have F9 := hide_ (fun q v hq => (by rw [add_off]; exact blk_list hblk (K9 q v hq) : w1.cell? ((⟨wr.heap.size, 4, none⟩ : Addr).add q) = some v)); clear hblk)
          | (refine gate_ (.load 61 (.tmp 26)) rfl ?_; refine wpList_load_list rfl 61 (.tmp 26) rfl ⟨wr.heap.size, 4, none⟩ rfl [Value.int .i64 e.f4.f0, .int .i64 e.f4.f1, .int .i64 e.f4.f2, .int .i64 e.f4.f3, .int .i64 e.f4.f4, .bool e.f4.f5, .string e.f4.f6, .string e.f4.f7, .slice A12 e.f4.f8.length c12] _ F9 Try.underlying61 rfl info61 ?_)
          | (go_at_call 28; refine (hmake _ hbel).mono ?_; rintro e2 w2 ⟨v2, rfl, hf2⟩))
        go_roundw
        case rel => exact ⟨j + 1, by omega, by go_num, by rw [HR.out]; exact hf2, HW.out⟩
        case measure => simp [intOf]; omega
      · have q0 : (e.f0 == 0) = false := by simpa using c0
        by_cases c1 : e.f0 = 1
        · have HR : Hd (madeF (acts.take (j + 1)) = putF l e.f1 e.f5) := ⟨by rw [HS.out]; unfold doF; rw [if_neg c0]; rw [if_pos c1]⟩
          rw [c1] at K0
          clear c0 c1 HS hmake htie hname hwant 
          go_wp2_with (first
            | (refine gate_ (.load 63 (.tmp 19)) rfl ?_; refine wpList_load_list rfl 63 (.tmp 19) rfl _ rfl cs _ HC Try.underlying63 rfl HI ?_)
            | (refine gate_ (.store 63 (.tmp 5) (.tmp 20)) rfl ?_; refine wpList_store_new rfl 63 (.tmp 5) (.tmp 20) rfl _ cs.toArray rfl rfl HI2 HZ HO ?_; intro w1 hblk hbel hsz; have f0 := blk_list hblk K0; have f1 := blk_list hblk K1; have f13 := blk_list hblk K13; clear hblk)
            | (go_at_call 29; refine (hput _ hbel).mono ?_; rintro e2 w2 ⟨v2, rfl, hf2⟩))
          go_roundw
          case rel => exact ⟨j + 1, by omega, by go_num, by rw [HR.out]; exact hf2, HW.out⟩
          case measure => simp [intOf]; omega
        · have q1 : (e.f0 == 1) = false := by simpa using c1
          by_cases c2 : e.f0 = 2
          · have HR : Hd (madeF (acts.take (j + 1)) = tieF l e.f1 e.f2) := ⟨by rw [HS.out]; unfold doF; rw [if_neg c0]; rw [if_neg c1]; rw [if_pos c2]⟩
            rw [c2] at K0
            clear c0 c1 c2 HS hmake hput hname hwant 
            go_wp2_with (first
              | (refine gate_ (.load 63 (.tmp 19)) rfl ?_; refine wpList_load_list rfl 63 (.tmp 19) rfl _ rfl cs _ HC Try.underlying63 rfl HI ?_)
              | (refine gate_ (.store 63 (.tmp 5) (.tmp 20)) rfl ?_; refine wpList_store_new rfl 63 (.tmp 5) (.tmp 20) rfl _ cs.toArray rfl rfl HI2 HZ HO ?_; intro w1 hblk hbel hsz; have f0 := blk_list hblk K0; have f1 := blk_list hblk K1; have f2 := blk_list hblk K2; clear hblk)
              | (go_at_call 30; refine (htie _ hbel).mono ?_; rintro e2 w2 ⟨v2, rfl, hf2⟩))
            go_roundw
            case rel => exact ⟨j + 1, by omega, by go_num, by rw [HR.out]; exact hf2, HW.out⟩
            case measure => simp [intOf]; omega
          · have q2 : (e.f0 == 2) = false := by simpa using c2
            by_cases c3 : e.f0 = 3
            · have HR : Hd (madeF (acts.take (j + 1)) = nameF l e.f1 e.f3) := ⟨by rw [HS.out]; unfold doF; rw [if_neg c0]; rw [if_neg c1]; rw [if_neg c2]; rw [if_pos c3]⟩
              rw [c3] at K0
              clear c0 c1 c2 c3 HS hmake hput htie hwant 
              go_wp2_with (first
                | (refine gate_ (.load 63 (.tmp 19)) rfl ?_; refine wpList_load_list rfl 63 (.tmp 19) rfl _ rfl cs _ HC Try.underlying63 rfl HI ?_)
                | (refine gate_ (.store 63 (.tmp 5) (.tmp 20)) rfl ?_; refine wpList_store_new rfl 63 (.tmp 5) (.tmp 20) rfl _ cs.toArray rfl rfl HI2 HZ HO ?_; intro w1 hblk hbel hsz; have f0 := blk_list hblk K0; have f1 := blk_list hblk K1; have f3 := blk_list hblk K3; clear hblk)
                | (go_at_call 31; refine (hname _ hbel).mono ?_; rintro e2 w2 ⟨v2, rfl, hf2⟩))
              go_roundw
              case rel => exact ⟨j + 1, by omega, by go_num, by rw [HR.out]; exact hf2, HW.out⟩
              case measure => simp [intOf]; omega
            · have q3 : (e.f0 == 3) = false := by simpa using c3
              by_cases c4 : e.f0 = 4
              · have HR : Hd (madeF (acts.take (j + 1)) = wantF l e.f1 e.f3) := ⟨by rw [HS.out]; unfold doF; rw [if_neg c0]; rw [if_neg c1]; rw [if_neg c2]; rw [if_neg c3]; rw [if_pos c4]⟩
                rw [c4] at K0
                clear c0 c1 c2 c3 c4 HS hmake hput htie hname 
                go_wp2_with (first
                  | (refine gate_ (.load 63 (.tmp 19)) rfl ?_; refine wpList_load_list rfl 63 (.tmp 19) rfl _ rfl cs _ HC Try.underlying63 rfl HI ?_)
                  | (refine gate_ (.store 63 (.tmp 5) (.tmp 20)) rfl ?_; refine wpList_store_new rfl 63 (.tmp 5) (.tmp 20) rfl _ cs.toArray rfl rfl HI2 HZ HO ?_; intro w1 hblk hbel hsz; have f0 := blk_list hblk K0; have f1 := blk_list hblk K1; have f3 := blk_list hblk K3; clear hblk)
                  | (go_at_call 32; refine (hwant _ hbel).mono ?_; rintro e2 w2 ⟨v2, rfl, hf2⟩))
                go_roundw
                case rel => exact ⟨j + 1, by omega, by go_num, by rw [HR.out]; exact hf2, HW.out⟩
                case measure => simp [intOf]; omega
              · have q4 : (e.f0 == 4) = false := by simpa using c4
                have HR : Hd (madeF (acts.take (j + 1)) = l) := ⟨by rw [HS.out]; unfold doF; rw [if_neg c0]; rw [if_neg c1]; rw [if_neg c2]; rw [if_neg c3]; rw [if_neg c4]⟩
                clear c0 c1 c2 c3 c4 HS hmake hput htie hname hwant
                go_wp2_with (first
                  | (refine gate_ (.load 63 (.tmp 19)) rfl ?_; refine wpList_load_list rfl 63 (.tmp 19) rfl _ rfl cs _ HC Try.underlying63 rfl HI ?_)
                  | (refine gate_ (.store 63 (.tmp 5) (.tmp 20)) rfl ?_; refine wpList_store_new rfl 63 (.tmp 5) (.tmp 20) rfl _ cs.toArray rfl rfl HI2 HZ HO ?_; intro w1 hblk hbel hsz; have f0 := blk_list hblk K0; skip; clear hblk))
                go_roundw
                case rel => exact ⟨j + 1, by omega, by go_num, by rw [HR.out]; exact HF.out.below hbel, HW.out⟩
                case measure => simp [intOf]; omega
    · rw [List.take_of_length_le (by omega)] at hf hW
      clear hC
      go_wp2
      go_ret
      exact ⟨F, rfl, hf, hW⟩
end Go.Proofs.Ytmjedjhgomlfiaa
