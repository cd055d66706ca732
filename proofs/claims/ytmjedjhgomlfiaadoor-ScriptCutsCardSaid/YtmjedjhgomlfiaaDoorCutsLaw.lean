/- ScriptCuts: the law's call returns true. -/
import Derived.Test.YtmjedjhgomlfiaaDoorCutsAll
set_option linter.unusedSimpArgs false
namespace Go.Proofs.YtmjedjhgomlfiaaDoor
open Go.RowKit Go.Proofs.YtmjedjhgomlfiaaDoorW.PrintWords Go.Proofs.YtmjedjhgomlfiaaDoorW.PrintLast Go.Lib

theorem pre_main {q p : ProgV} (h : PreP q p) {j : Nat} {x y : OpV} (hx : q.main[j]? = some x) (hy : p.main[j]? = some y) : x = y := by
  obtain ⟨t, ht⟩ := h.1
  have hj := (List.getElem?_eq_some_iff.1 hx).1
  rw [← ht, List.getElem?_append_left hj, hx] at hy
  exact Option.some.inj hy
theorem pre_len {q p : ProgV} (h : PreP q p) : q.main.length ≤ p.main.length ∧ q.calls.length ≤ p.calls.length := by
  refine ⟨h.1.length_le, ?_⟩
  rcases h.2 with h | ⟨L, y, z, R, e1, e2, _⟩
  · rw [h]; exact Nat.zero_le _
  · rw [e1, e2]; simp
theorem pre_call {q p : ProgV} (h : PreP q p) {k : Nat} {y z : List OpV} (hy : q.calls[k]? = some y) (hz : p.calls[k]? = some z) : y <+: z ∧ (k + 1 < q.calls.length → y = z) := by
  rcases h.2 with h | ⟨L, a, b, R, e1, e2, e3⟩
  · rw [h] at hy; simp at hy
  · have hk := (List.getElem?_eq_some_iff.1 hy).1
    rw [e1] at hy hk
    rw [e2] at hz
    rw [List.length_append, List.length_singleton] at hk
    by_cases hl : k < L.length
    · rw [List.getElem?_append_left hl] at hy hz
      rw [hy] at hz
      obtain rfl := Option.some.inj hz
      exact ⟨List.prefix_rfl, fun _ => rfl⟩
    · obtain rfl : k = L.length := by omega
      rw [List.getElem?_append_right (Nat.le_refl _), Nat.sub_self] at hy hz
      obtain rfl := Option.some.inj hy
      obtain rfl := Option.some.inj hz
      exact ⟨e3, fun h => by rw [e1, List.length_append, List.length_singleton] at h; omega⟩
theorem pre_op {y z : List OpV} (h : y <+: z) {j : Nat} {a b : OpV} (hx : y[j]? = some a) (hy : z[j]? = some b) : a = b := by
  obtain ⟨t, ht⟩ := h
  have hj := (List.getElem?_eq_some_iff.1 hx).1
  rw [← ht, List.getElem?_append_left hj, hx] at hy
  exact Option.some.inj hy
theorem cut_next {l : List (Option OpV)} {i : Nat} {s : ByteArray} (h : (l.map itemT)[i]? = some s) : textI (l.take (i + 1)) = textI (l.take i) ++ s ++ ⟨#[10]⟩ := by
  rw [List.getElem?_map] at h
  obtain ⟨x, hx, rfl⟩ := Option.map_eq_some_iff.1 h
  rw [List.take_add_one, hx]
  exact (textI_snoc _ x).trans (ByteArray.append_assoc).symm
theorem sum_max {n b : Nat} : ∀ {l : List (List OpV)}, l.length ≤ n → (∀ x ∈ l, x.length ≤ b) → sumL l ≤ n * b
  | [], _, _ => by simp [sumL]
  | x :: l, hn, hb => by
    obtain ⟨m, rfl⟩ : ∃ m, n = m + 1 := ⟨n - 1, by simp at hn; omega⟩
    have h1 := sum_max (n := m) (b := b) (l := l) (by simp at hn; omega) (fun y hy => hb y (by simp [hy]))
    have h2 := hb x (by simp)
    rw [show sumL (x :: l) = x.length + sumL l by simp [sumL], Nat.succ_mul]
    omega

theorem lines_cells {w : World} {base : Nat} {v : Value} {L : List ByteArray} (h : Kd.string.R 9 w base (fun _ => True) v L) (hn : 0 < L.length) :
    ∃ g cap, v = .slice (some ⟨g, 0, none⟩) L.length cap ∧ ∀ j s, L[j]? = some s → ∀ w', Below w.heap.size w w' → w'.cell? ⟨g, j, none⟩ = some (.string s) := by
  obtain ⟨g, cap, e, _⟩ := line_cell h (List.getElem?_eq_getElem hn)
  refine ⟨g, cap, e, fun j s hs w' hB => ?_⟩
  obtain ⟨g', cap', e', hc⟩ := line_cell h hs
  rw [e] at e'
  injection e' with e1 _ _
  injection e1 with e1
  injection e1 with e1
  subst e1
  exact hc w' (Kept9.of_below hB)

open Classical in
set_option maxRecDepth 100000 in
set_option maxHeartbeats 6400000 in
theorem scriptCuts_any (vm vc : Value) (p : ProgV) (n : Int) (w : World) (hL : w.ShapedOpen Tryd.prog) (hO : LayO w) (h : ReadsP w vm vc p) (hm47 : p.main.length ≤ 140737488355328) (hc47 : ∀ l ∈ p.calls, l.length ≤ 140737488355328) (hn0 : 0 ≤ n) (hn1 : n ≤ 65535) :
    Calls Tryd.prog 14 #[.agg #[vm, vc], .int .u16 n] w fun e w' => e = .returned (.bool true) ∧ Below w.heap.size w w' := by
  have haw := fun W hW => scAwake_any W (hO.below hW) (shaped_below hL hW)
  have hbo := fun X => (Below.refl w.heap.size w).alloc (Nat.le_refl _) X
  have hX0 := fun X => heap_alloc_new w X
  by_cases h80 : p.calls.length ≤ 80
  · have q80 : ¬ (80 : Int) < (p.calls.length : Int) := by omega
    have hcp : countP p ≤ 9223372036854775807 := by
      have := sum_max h80 hc47
      rw [countP]
      omega
    have hcn := fun W hW => rcount_any vm vc p W (h.below hW) hcp
    by_cases h300 : countP p ≤ 300
    · have q300 : ¬ (300 : Int) < (countP p : Int) := by omega
      have htx := fun W hW => stext_any vm vc p W (hO.below hW) (h.below hW) (by omega)
      rcases textP_cases p with ⟨h1, h2⟩ | ⟨hr, hl, hn, he⟩
      · rw [h2] at htx
        generalize (textP p).2 = f at *
        have hf : (f != 0) = true := by simpa using h1
        obtain ⟨A, c, B, d, rfl, rfl, hm, hc⟩ := h
        go_enter Tryd.func14, Tryd.ntmps14
        go_wp2_with (first
          | (go_at_call 47; refine (haw _ (hbo _)).mono ?_; rintro e w1 ⟨rfl, hB1⟩; have hC1 := below_then (hbo _) (hbo _).size hB1; have hX1 := (hB1.block _ (blk_lt (hX0 _))).trans (hX0 _); have z0 := blk_cell hX1 0; have z1 := blk_cell hX1 1)
          | (go_at_call 51; refine (hcn _ hC1).mono ?_; rintro e w2 ⟨rfl, hB2⟩; have hC2 := below_then hC1 hC1.size hB2; have hX2 := (hB2.block _ (blk_lt hX1)).trans hX1; have z2 := blk_cell hX2 0; have z3 := blk_cell hX2 1)
          | (go_at_call 52; refine (htx _ hC2).mono ?_; rintro e w3 ⟨rfl, hB3⟩; have hC3 := below_then hC2 hC2.size hB3))
        go_ret
        exact ⟨rfl, hC3⟩
      · rw [he] at htx
        obtain ⟨hl0, -, -, -, -, hts⟩ := cut_law hr hl h300 0 (Nat.zero_le _)
        have hln := fun W => rlines_any (textI (itemsP p)) W (by omega)
        rw [hl0] at hln
        have hni := items_length p
        have hcut := fun k hk => cut_law hr hl h300 k hk
        have hnx := fun i s => cut_next (l := itemsP p) (i := i) (s := s)
        have hsz := fun i (hi : i ≤ (itemsP p).length) => (hcut i hi).2.2.2.2.1
        obtain ⟨A, c, B, d, rfl, rfl, hm, hc⟩ := h
        have hLs : ((itemsP p).map itemT).length = (itemsP p).length := List.length_map _
        generalize (itemsP p).map itemT = Ls at *
        generalize (itemsP p).length = N at *
        clear hl0
        by_cases hz : N = 0
        · subst hz
          have hz0 : ((Ls.length : Int) == 0) = true := by rw [hLs]; rfl
          clear hni hLs hnx hcut hsz
          generalize textI (itemsP p) = T at *
          go_enter Tryd.func14, Tryd.ntmps14
          go_wp2_with (first
            | (go_at_call 47; refine (haw _ (hbo _)).mono ?_; rintro e w1 ⟨rfl, hB1⟩; have hC1 := below_then (hbo _) (hbo _).size hB1; have hX1 := (hB1.block _ (blk_lt (hX0 _))).trans (hX0 _); have z0 := blk_cell hX1 0; have z1 := blk_cell hX1 1)
            | (go_at_call 51; refine (hcn _ hC1).mono ?_; rintro e w2 ⟨rfl, hB2⟩; have hC2 := below_then hC1 hC1.size hB2; have hX2 := (hB2.block _ (blk_lt hX1)).trans hX1; have z2 := blk_cell hX2 0; have z3 := blk_cell hX2 1)
            | (go_at_call 52; refine (htx _ hC2).mono ?_; rintro e w3 ⟨rfl, hB3⟩; have hC3 := below_then hC2 hC2.size hB3)
            | (go_at_call 53; refine (hln _).mono ?_; rintro e w4 ⟨v4, rfl, hR4, hB4⟩; have hC4 := below_then hC3 hC3.size hB4; obtain ⟨A4, c4, e4⟩ := Kd.R_slice hR4; subst e4))
          go_ret
          exact ⟨rfl, hC4⟩
        · have hz0 : ((Ls.length : Int) == 0) = false := beq_eq_false_iff_ne.2 (by omega)
          obtain ⟨m, hm0, hmN⟩ : ∃ m : Nat, n % (Ls.length : Int) = (m : Int) ∧ m < N := by
            have k1 := Int.emod_nonneg n (show (Ls.length : Int) ≠ 0 by omega)
            have k2 := Int.emod_lt_of_pos n (show (0 : Int) < (Ls.length : Int) by omega)
            generalize n % (Ls.length : Int) = r at *
            exact ⟨r.toNat, by omega, by omega⟩
          have hmt : n.tmod (Ls.length : Int) = (m : Int) := by rw [Int.tmod_eq_emod_of_nonneg hn0]; exact hm0
          have hLn : (Ls.length : Int) ≠ 0 := by omega
          have HLs := hide_ hLs
          have HNI := hide_ hni
          have hmL : m < Ls.length := by omega
          have hLb : Ls.length ≤ 1000 := by omega
          have hNb : N ≤ 1000 := by omega
          clear hLs hni
          generalize hT : textI (itemsP p) = T at *
          have HT := hide_ hT
          clear hT
          go_enter Tryd.func14, Tryd.ntmps14
          go_wp2_with (first
            | (go_at_call 47; refine (haw _ (hbo _)).mono ?_; rintro e w1 ⟨rfl, hB1⟩; have hC1 := below_then (hbo _) (hbo _).size hB1; have hX1 := (hB1.block _ (blk_lt (hX0 _))).trans (hX0 _); have z0 := blk_cell hX1 0; have z1 := blk_cell hX1 1)
            | (go_at_call 51; refine (hcn _ hC1).mono ?_; rintro e w2 ⟨rfl, hB2⟩; have hC2 := below_then hC1 hC1.size hB2; have hX2 := (hB2.block _ (blk_lt hX1)).trans hX1; have z2 := blk_cell hX2 0; have z3 := blk_cell hX2 1)
            | (go_at_call 52; refine (htx _ hC2).mono ?_; rintro e w3 ⟨rfl, hB3⟩; have hC3 := below_then hC2 hC2.size hB3; have hX3 := (hB3.block _ (blk_lt hX2)).trans hX2)
            | (go_at_call 53; refine (hln _).mono ?_; rintro e w4 ⟨v4, rfl, hR4, hB4⟩; have hC4 := below_then hC3 hC3.size hB4; obtain ⟨g4, c4, e4, hcell⟩ := lines_cells hR4 (by omega); subst e4; have hX4 := (hB4.block _ (blk_lt hX3)).trans hX3))
          go_loopw [8, 10] (fun s i wr => ∃ j : Nat, j ≤ m ∧ i = .int .i64 j ∧ s = .string (textI ((itemsP p).take j)) ∧ Below w4.heap.size w4 wr) (fun _ i _ => m - (intOf i).toNat)
          case atStart => exact ⟨0, Nat.zero_le _, rfl, rfl, Below.refl _ _⟩
          case round =>
            obtain ⟨j, hj, rfl, rfl, hB⟩ := hrel
            by_cases hlt : j < m
            · obtain ⟨s, hs⟩ : ∃ s, Ls[j]? = some s := ⟨_, List.getElem?_eq_getElem (by omega)⟩
              have hsc := hcell j s hs wr hB
              have hz1 := hsz (j + 1) (by have := HLs.out; omega)
              have HN := hide_ (hnx j s hs)
              rw [HN.out, ByteArray.size_append, ByteArray.size_append] at hz1
              have hz2 : (textI ((itemsP p).take j)).size + s.size + 1 ≤ 100000 := hz1
              have hjl : (j : Int) < (Ls.length : Int) := by omega
              clear hz1 hs hsz hnx hcut hln htx hcn
              generalize textI ((itemsP p).take j) = ct at *
              go_wp2
              go_roundw
              case rel => exact ⟨j + 1, by omega, by go_num, by rw [HN.out], hB⟩
              case measure => simp [intOf]; omega
            · obtain rfl : j = m := by omega
              obtain ⟨-, hs2, hpre, hcnt, hs5, -⟩ := hcut j (by have := HLs.out; omega)
              have hC5 := below_then hC4 hC4.size hB
              have hX5 := (hB.block _ (blk_lt hX4)).trans hX4
              have hsp := sparse_big (textI ((itemsP p).take j)) wr (hO.below hC5) (shaped_below hL hC5) (by omega)
              rw [hs2] at hsp
              clear hs2 hs5 hsz hnx hcut hln htx hcn hcell
              generalize runI ((itemsP p).take j) zeroP = q at *
              generalize textI ((itemsP p).take j) = ct at *
              obtain ⟨hpm, hpc⟩ := pre_len hpre
              have hqm : q.main.length ≤ 1000 := by rw [countP] at hcnt; omega
              have hqn : q.calls.length ≤ 1000 := by omega
              have hqn' : countP q ≤ 1000 := by omega
              have HPR := hide_ hpre
              have HCN := hide_ hcnt
              clear hpre hcnt hmt hm0
              have qm : ¬ (p.main.length : Int) < (q.main.length : Int) := by omega
              have qc : ¬ (p.calls.length : Int) < (q.calls.length : Int) := by omega
              go_wp2_with (go_at_call 48; refine hsp.mono ?_; rintro e w6 ⟨um, uc, rfl, hQ, hB6⟩; obtain ⟨A5, c5, B5, d5, rfl, rfl, hqm, hqc⟩ := hQ; have hC6 := below_then hC5 hC5.size hB6; have hX6 := (hB6.block _ (blk_lt hX5)).trans hX5; have hX7 := (heap_alloc_old w6 (.cells #[.slice A5 q.main.length c5, .slice B5 q.calls.length d5] 60) (blk_lt hX6)).trans hX6; have hQ7 := heap_alloc_new w6 (.cells #[.slice A5 q.main.length c5, .slice B5 q.calls.length d5] 60); have hC7 := hC6.alloc hC6.size (.cells #[.slice A5 q.main.length c5, .slice B5 q.calls.length d5] 60); have y0 := blk_cell hX7 0; have y1 := blk_cell hX7 1; have u0 := blk_cell hQ7 0; have u1 := blk_cell hQ7 1)
              have hqm8 := Kd.C_below hqm (below_alloc (Below.refl w6.heap.size w6) (.cells #[.slice A5 q.main.length c5, .slice B5 q.calls.length d5] 60))
              have hqc8 := Kd.C_below hqc (below_alloc (Below.refl w6.heap.size w6) (.cells #[.slice A5 q.main.length c5, .slice B5 q.calls.length d5] 60))
              clear hX6 hC6 hB6 hX5 hC5 hB hX4 hC4 hB4 hX3 hC3 hB3 hX2 hC2 hB2 hX1 hC1 hB1 y0 y1 u0 u1 hqm hqc haw
              generalize w6.alloc (.cells #[.slice A5 q.main.length c5, .slice B5 q.calls.length d5] 60) = w7 at *
              generalize w6.heap.size = gq at *
              go_loopw [14] (fun i wr => ∃ k : Nat, k ≤ q.main.length ∧ i = .int .i64 k ∧ Below w7.heap.size w7 wr) (fun i _ => q.main.length - (intOf i).toNat)
              case atStart => exact ⟨0, Nat.zero_le _, rfl, Below.refl _ _⟩
              case round =>
                obtain ⟨k, hk, rfl, hB⟩ := hrel
                have hpX := blk_below hX7 hB
                have hqX := blk_below hQ7 hB
                have hBw := below_then hC7 hC7.size hB
                have y0 := blk_cell hpX 0
                have u0 := blk_cell hqX 0
                have y1 := blk_cell hpX 1
                have u1 := blk_cell hqX 1
                by_cases hlt : k < q.main.length
                · obtain ⟨ad, x, rfl, HX, x0, x1, x2, x3, x4, x5⟩ := el_op (Kd.C_below hqm8 hB) k hlt
                  obtain ⟨bd, x', rfl, HY, v0, v1, v2, v3, v4, v5⟩ := el_op (Kd.C_below hm hBw) k (by omega)
                  have hkp : k < p.main.length := by omega
                  obtain rfl := pre_main HPR.out HX.out HY.out
                  have heq := eq_op_yes x
                  go_wp2
                  go_quiet (fail)
                  go_wp2
                  go_roundw
                  case rel => exact ⟨k + 1, by omega, by go_num, pw_below_drewN hB _⟩
                  case measure => simp [intOf]; omega
                · have hkn : ¬ (k : Int) < (q.main.length : Int) := by omega
                  go_wp2
                  clear hpX hqX y0 u0 y1 u1
                  have hX8 := blk_below hX7 hB
                  have hQ8 := blk_below hQ7 hB
                  have hC8 := hBw
                  have hqc9 := Kd.C_below hqc8 hB
                  have hqm9 := Kd.C_below hqm8 hB
                  clear hX7 hQ7 hC7 hqc8 hqm8 hBw hB
                  go_loopw [15, 16] (fun ic _ ws => ∃ t : Nat, t ≤ q.calls.length ∧ ic = .int .i64 t ∧ Below wr.heap.size wr ws) (fun ic _ _ => q.calls.length - (intOf ic).toNat)
                  case atStart => exact ⟨0, Nat.zero_le _, rfl, Below.refl _ _⟩
                  case round =>
                    obtain ⟨t, ht, rfl, hB⟩ := hrel
                    have hpX := blk_below hX8 hB
                    have hqX := blk_below hQ8 hB
                    have hBw := below_then hC8 hC8.size hB
                    have y0 := blk_cell hpX 0
                    have u0 := blk_cell hqX 0
                    have y1 := blk_cell hpX 1
                    have u1 := blk_cell hqX 1
                    have hwr : IntKind.i64.wrap ((q.calls.length : Int) - 1) = (q.calls.length : Int) - 1 := by rw [IntKind.wrap_i64]; omega
                    by_cases hlt : t < q.calls.length
                    · obtain ⟨bd, ys, Ay, cy, rfl, HX, x0, _, hys⟩ := el_call (Kd.C_below hqc9 hB) t hlt
                      obtain ⟨be, zs, Az, cz, rfl, HY, v0, _, hzs⟩ := el_call (Kd.C_below hc hBw) t (by omega)
                      have hkp : t < p.calls.length := by omega
                      obtain ⟨hyz, hyl⟩ := pre_call HPR.out HX.out HY.out
                      have hle := hyz.length_le
                      have HYZ := hide_ hyz
                      have hng : decide ((zs.length : Int) < (ys.length : Int)) = false := decide_eq_false (by omega)
                      have hng' : decide (zs.length < ys.length) = false := decide_eq_false (by omega)
                      have hyb : ys.length ≤ 1000 := by
                        have h1 := sumL_next HX.out
                        have h2 := sumL_le (l := q.calls) (t + 1)
                        rw [countP] at hqn'
                        omega
                      have hzb : zs.length ≤ 140737488355328 := hc47 zs (List.mem_of_getElem? HY.out)
                      clear hyz
                      by_cases hlast : t + 1 < q.calls.length
                      · have hl1 : decide ((t : Int) < (q.calls.length : Int) - 1) = true := decide_eq_true (by omega)
                        have hnl : ((ys.length : Int) != (zs.length : Int)) = false := by rw [hyl hlast]; simp
                        clear hyl
                        go_wp2
                        refine start_ (n := 36) (S := (fun W_ => Below wr.heap.size wr W_)) (ds := []) #[false, false, false, false, false, false, false, false, false, false, false, false, false, false, false, false, false, false, false, false, false, false, false, false, false, false, false, false, false, false, false, false, false, false, false, false] (by kernel_rfl) rfl rfl (below_drew (Below.refl _ _)) (fun hHeld => ?_)
                        refine pure_ (i := 0) (N := (some 114)) (v := ?_) (a' := ?_) #[true, false, false, false, false, false, false, false, false, false, false, false, false, false, false, false, false, false, false, false, false, false, false, false, false, false, false, false, false, false, false, false, false, false, false, false] rfl rfl (by kernel_rfl) (fun _ _ _ h => h) (Or.inl ⟨by rfl, ?_⟩) ?_ ?_
                        rotate_left
                        · intro w'
                          go_simp
                          with_reducible rfl
                        rotate_left
                        · simp only [Act.put, List.setIfInBounds_toArray, List.set_cons_zero, List.set_cons_succ]
                          rfl
                        refine take_ (i := 1) (N := (some 115)) (v := ?_) (a' := ?_) #[true, true, false, false, false, false, false, false, false, false, false, false, false, false, false, false, false, false, false, false, false, false, false, false, false, false, false, false, false, false, false, false, false, false, false, false] rfl rfl (by kernel_rfl) (fun _ _ _ h => h) (Or.inl ⟨by rfl, ?_⟩) hHeld ?_ ?_
                        rotate_left
                        · intro w' hSw
                          have u1 := blk_cell (blk_below hqX hSw) 1
                          go_simp
                          with_reducible rfl
                        rotate_left
                        · simp only [Act.put, List.setIfInBounds_toArray, List.set_cons_zero, List.set_cons_succ]
                          rfl
                        refine pure_ (i := 2) (N := (some 116)) (v := ?_) (a' := ?_) #[true, true, true, false, false, false, false, false, false, false, false, false, false, false, false, false, false, false, false, false, false, false, false, false, false, false, false, false, false, false, false, false, false, false, false, false] rfl rfl (by kernel_rfl) (fun _ _ _ h => h) (Or.inl ⟨by rfl, ?_⟩) ?_ ?_
                        rotate_left
                        · intro w'
                          go_simp
                          with_reducible rfl
                        rotate_left
                        · simp only [Act.put, List.setIfInBounds_toArray, List.set_cons_zero, List.set_cons_succ]
                          rfl
                        refine pure_ (i := 3) (N := (some 117)) (v := ?_) (a' := ?_) #[true, true, true, true, false, false, false, false, false, false, false, false, false, false, false, false, false, false, false, false, false, false, false, false, false, false, false, false, false, false, false, false, false, false, false, false] rfl rfl (by kernel_rfl) (fun _ _ _ h => h) (Or.inl ⟨by rfl, ?_⟩) ?_ ?_
                        rotate_left
                        · intro w'
                          go_simp
                          with_reducible rfl
                        rotate_left
                        · simp only [Act.put, List.setIfInBounds_toArray, List.set_cons_zero, List.set_cons_succ]
                          rfl
                        refine take_ (i := 4) (N := (some 118)) (v := ?_) (a' := ?_) #[true, true, true, true, true, false, false, false, false, false, false, false, false, false, false, false, false, false, false, false, false, false, false, false, false, false, false, false, false, false, false, false, false, false, false, false] rfl rfl (by kernel_rfl) (fun _ _ _ h => h) (Or.inl ⟨by rfl, ?_⟩) hHeld ?_ ?_
                        rotate_left
                        · intro w' hSw
                          have x1 := (hSw.cell (World.block_lt_of_cell? _ _ x0)).trans x0
                          go_simp
                          with_reducible rfl
                        rotate_left
                        · simp only [Act.put, List.setIfInBounds_toArray, List.set_cons_zero, List.set_cons_succ]
                          rfl
                        refine pure_ (i := 5) (N := (some 119)) (v := ?_) (a' := ?_) #[true, true, true, true, true, true, false, false, false, false, false, false, false, false, false, false, false, false, false, false, false, false, false, false, false, false, false, false, false, false, false, false, false, false, false, false] rfl rfl (by kernel_rfl) (fun _ _ _ h => h) (Or.inl ⟨by rfl, ?_⟩) ?_ ?_
                        rotate_left
                        · intro w'
                          go_simp
                          with_reducible rfl
                        rotate_left
                        · simp only [Act.put, List.setIfInBounds_toArray, List.set_cons_zero, List.set_cons_succ]
                          rfl
                        refine pure_ (i := 6) (N := (some 120)) (v := ?_) (a' := ?_) #[true, true, true, true, true, true, true, false, false, false, false, false, false, false, false, false, false, false, false, false, false, false, false, false, false, false, false, false, false, false, false, false, false, false, false, false] rfl rfl (by kernel_rfl) (fun _ _ _ h => h) (Or.inl ⟨by rfl, ?_⟩) ?_ ?_
                        rotate_left
                        · intro w'
                          go_simp
                          with_reducible rfl
                        rotate_left
                        · simp only [Act.put, List.setIfInBounds_toArray, List.set_cons_zero, List.set_cons_succ]
                          rfl
                        refine take_ (i := 7) (N := (some 121)) (v := ?_) (a' := ?_) #[true, true, true, true, true, true, true, true, false, false, false, false, false, false, false, false, false, false, false, false, false, false, false, false, false, false, false, false, false, false, false, false, false, false, false, false] rfl rfl (by kernel_rfl) (fun _ _ _ h => h) (Or.inl ⟨by rfl, ?_⟩) hHeld ?_ ?_
                        rotate_left
                        · intro w' hSw
                          have y1 := blk_cell (blk_below hpX hSw) 1
                          go_simp
                          with_reducible rfl
                        rotate_left
                        · simp only [Act.put, List.setIfInBounds_toArray, List.set_cons_zero, List.set_cons_succ]
                          rfl
                        refine pure_ (i := 8) (N := (some 122)) (v := ?_) (a' := ?_) #[true, true, true, true, true, true, true, true, true, false, false, false, false, false, false, false, false, false, false, false, false, false, false, false, false, false, false, false, false, false, false, false, false, false, false, false] rfl rfl (by kernel_rfl) (fun _ _ _ h => h) (Or.inl ⟨by rfl, ?_⟩) ?_ ?_
                        rotate_left
                        · intro w'
                          go_simp
                          with_reducible rfl
                        rotate_left
                        · simp only [Act.put, List.setIfInBounds_toArray, List.set_cons_zero, List.set_cons_succ]
                          rfl
                        refine pure_ (i := 9) (N := (some 123)) (v := ?_) (a' := ?_) #[true, true, true, true, true, true, true, true, true, true, false, false, false, false, false, false, false, false, false, false, false, false, false, false, false, false, false, false, false, false, false, false, false, false, false, false] rfl rfl (by kernel_rfl) (fun _ _ _ h => h) (Or.inl ⟨by rfl, ?_⟩) ?_ ?_
                        rotate_left
                        · intro w'
                          go_simp
                          with_reducible rfl
                        rotate_left
                        · simp only [Act.put, List.setIfInBounds_toArray, List.set_cons_zero, List.set_cons_succ]
                          rfl
                        refine take_ (i := 10) (N := (some 124)) (v := ?_) (a' := ?_) #[true, true, true, true, true, true, true, true, true, true, true, false, false, false, false, false, false, false, false, false, false, false, false, false, false, false, false, false, false, false, false, false, false, false, false, false] rfl rfl (by kernel_rfl) (fun _ _ _ h => h) (Or.inl ⟨by rfl, ?_⟩) hHeld ?_ ?_
                        rotate_left
                        · intro w' hSw
                          have v1 := (hSw.cell (World.block_lt_of_cell? _ _ v0)).trans v0
                          go_simp
                          with_reducible rfl
                        rotate_left
                        · simp only [Act.put, List.setIfInBounds_toArray, List.set_cons_zero, List.set_cons_succ]
                          rfl
                        refine pure_ (i := 11) (N := (some 125)) (v := ?_) (a' := ?_) #[true, true, true, true, true, true, true, true, true, true, true, true, false, false, false, false, false, false, false, false, false, false, false, false, false, false, false, false, false, false, false, false, false, false, false, false] rfl rfl (by kernel_rfl) (fun _ _ _ h => h) (Or.inl ⟨by rfl, ?_⟩) ?_ ?_
                        rotate_left
                        · intro w'
                          go_simp
                          with_reducible rfl
                        rotate_left
                        · simp only [Act.put, List.setIfInBounds_toArray, List.set_cons_zero, List.set_cons_succ]
                          rfl
                        refine pure_ (i := 12) (N := (some 126)) (v := ?_) (a' := ?_) #[true, true, true, true, true, true, true, true, true, true, true, true, true, false, false, false, false, false, false, false, false, false, false, false, false, false, false, false, false, false, false, false, false, false, false, false] rfl rfl (by kernel_rfl) (fun _ _ _ h => h) (Or.inl ⟨by rfl, ?_⟩) ?_ ?_
                        rotate_left
                        · intro w'
                          go_simp
                          with_reducible rfl
                        rotate_left
                        · simp only [Act.put, List.setIfInBounds_toArray, List.set_cons_zero, List.set_cons_succ]
                          rfl
                        refine pure_ (i := 13) (N := (some 127)) (v := ?_) (a' := ?_) #[true, true, true, true, true, true, true, true, true, true, true, true, true, true, false, false, false, false, false, false, false, false, false, false, false, false, false, false, false, false, false, false, false, false, false, false] rfl rfl (by kernel_rfl) (fun _ _ _ h => h) (Or.inl ⟨by rfl, ?_⟩) ?_ ?_
                        rotate_left
                        · intro w'
                          go_simp
                          with_reducible rfl
                        rotate_left
                        · simp only [Act.put, List.setIfInBounds_toArray, List.set_cons_zero, List.set_cons_succ]
                          rfl
                        refine pure_ (i := 14) (N := (some 128)) (v := ?_) (a' := ?_) #[true, true, true, true, true, true, true, true, true, true, true, true, true, true, true, false, false, false, false, false, false, false, false, false, false, false, false, false, false, false, false, false, false, false, false, false] rfl rfl (by kernel_rfl) (fun _ _ _ h => h) (Or.inl ⟨by rfl, ?_⟩) ?_ ?_
                        rotate_left
                        · intro w'
                          go_simp
                          with_reducible rfl
                        rotate_left
                        · simp only [Act.put, List.setIfInBounds_toArray, List.set_cons_zero, List.set_cons_succ]
                          rfl
                        refine pure_ (i := 15) (N := (some 129)) (v := ?_) (a' := ?_) #[true, true, true, true, true, true, true, true, true, true, true, true, true, true, true, true, false, false, false, false, false, false, false, false, false, false, false, false, false, false, false, false, false, false, false, false] rfl rfl (by kernel_rfl) (fun _ _ _ h => h) (Or.inl ⟨by rfl, ?_⟩) ?_ ?_
                        rotate_left
                        · intro w'
                          go_simp
                          with_reducible rfl
                        rotate_left
                        · simp only [Act.put, List.setIfInBounds_toArray, List.set_cons_zero, List.set_cons_succ]
                          rfl
                        refine take_ (i := 16) (N := (some 130)) (v := ?_) (a' := ?_) #[true, true, true, true, true, true, true, true, true, true, true, true, true, true, true, true, true, false, false, false, false, false, false, false, false, false, false, false, false, false, false, false, false, false, false, false] rfl rfl (by kernel_rfl) (fun _ _ _ h => h) (Or.inl ⟨by rfl, ?_⟩) hHeld ?_ ?_
                        rotate_left
                        · intro w' hSw
                          have u1 := blk_cell (blk_below hqX hSw) 1
                          go_simp
                          with_reducible rfl
                        rotate_left
                        · simp only [Act.put, List.setIfInBounds_toArray, List.set_cons_zero, List.set_cons_succ]
                          rfl
                        refine pure_ (i := 17) (N := (some 131)) (v := ?_) (a' := ?_) #[true, true, true, true, true, true, true, true, true, true, true, true, true, true, true, true, true, true, false, false, false, false, false, false, false, false, false, false, false, false, false, false, false, false, false, false] rfl rfl (by kernel_rfl) (fun _ _ _ h => h) (Or.inl ⟨by rfl, ?_⟩) ?_ ?_
                        rotate_left
                        · intro w'
                          go_simp
                          with_reducible rfl
                        rotate_left
                        · simp only [Act.put, List.setIfInBounds_toArray, List.set_cons_zero, List.set_cons_succ]
                          rfl
                        refine pure_ (i := 18) (N := (some 132)) (v := ?_) (a' := ?_) #[true, true, true, true, true, true, true, true, true, true, true, true, true, true, true, true, true, true, true, false, false, false, false, false, false, false, false, false, false, false, false, false, false, false, false, false] rfl rfl (by kernel_rfl) (fun _ _ _ h => h) (Or.inl ⟨by rfl, ?_⟩) ?_ ?_
                        rotate_left
                        · intro w'
                          go_simp
                          with_reducible rfl
                        rotate_left
                        · simp only [Act.put, List.setIfInBounds_toArray, List.set_cons_zero, List.set_cons_succ]
                          rfl
                        refine pure_ (i := 19) (N := (some 133)) (v := ?_) (a' := ?_) #[true, true, true, true, true, true, true, true, true, true, true, true, true, true, true, true, true, true, true, true, false, false, false, false, false, false, false, false, false, false, false, false, false, false, false, false] rfl rfl (by kernel_rfl) (fun _ _ _ h => h) (Or.inl ⟨by rfl, ?_⟩) ?_ ?_
                        rotate_left
                        · intro w'
                          go_simp
                          with_reducible rfl
                        rotate_left
                        · simp only [Act.put, List.setIfInBounds_toArray, List.set_cons_zero, List.set_cons_succ]
                          rfl
                        refine pure_ (i := 20) (N := (some 134)) (v := ?_) (a' := ?_) #[true, true, true, true, true, true, true, true, true, true, true, true, true, true, true, true, true, true, true, true, true, false, false, false, false, false, false, false, false, false, false, false, false, false, false, false] rfl rfl (by kernel_rfl) (fun _ _ _ h => h) (Or.inl ⟨by rfl, ?_⟩) ?_ ?_
                        rotate_left
                        · intro w'
                          go_simp
                          with_reducible rfl
                        rotate_left
                        · simp only [Act.put, List.setIfInBounds_toArray, List.set_cons_zero, List.set_cons_succ]
                          rfl
                        refine pure_ (i := 21) (N := (some 135)) (v := ?_) (a' := ?_) #[true, true, true, true, true, true, true, true, true, true, true, true, true, true, true, true, true, true, true, true, true, true, false, false, false, false, false, false, false, false, false, false, false, false, false, false] rfl rfl (by kernel_rfl) (fun _ _ _ h => h) (Or.inl ⟨by rfl, ?_⟩) ?_ ?_
                        rotate_left
                        · intro w'
                          go_simp
                          with_reducible rfl
                        rotate_left
                        · simp only [Act.put, List.setIfInBounds_toArray, List.set_cons_zero, List.set_cons_succ]
                          rfl
                        refine take_ (i := 22) (N := (some 136)) (v := ?_) (a' := ?_) #[true, true, true, true, true, true, true, true, true, true, true, true, true, true, true, true, true, true, true, true, true, true, true, false, false, false, false, false, false, false, false, false, false, false, false, false] rfl rfl (by kernel_rfl) (fun _ _ _ h => h) (Or.inl ⟨by rfl, ?_⟩) hHeld ?_ ?_
                        rotate_left
                        · intro w' hSw
                          have u1 := blk_cell (blk_below hqX hSw) 1
                          go_simp
                          with_reducible rfl
                        rotate_left
                        · simp only [Act.put, List.setIfInBounds_toArray, List.set_cons_zero, List.set_cons_succ]
                          rfl
                        refine pure_ (i := 23) (N := (some 137)) (v := ?_) (a' := ?_) #[true, true, true, true, true, true, true, true, true, true, true, true, true, true, true, true, true, true, true, true, true, true, true, true, false, false, false, false, false, false, false, false, false, false, false, false] rfl rfl (by kernel_rfl) (fun _ _ _ h => h) (Or.inl ⟨by rfl, ?_⟩) ?_ ?_
                        rotate_left
                        · intro w'
                          go_simp
                          with_reducible rfl
                        rotate_left
                        · simp only [Act.put, List.setIfInBounds_toArray, List.set_cons_zero, List.set_cons_succ]
                          rfl
                        refine pure_ (i := 24) (N := (some 138)) (v := ?_) (a' := ?_) #[true, true, true, true, true, true, true, true, true, true, true, true, true, true, true, true, true, true, true, true, true, true, true, true, true, false, false, false, false, false, false, false, false, false, false, false] rfl rfl (by kernel_rfl) (fun _ _ _ h => h) (Or.inl ⟨by rfl, ?_⟩) ?_ ?_
                        rotate_left
                        · intro w'
                          go_simp
                          with_reducible rfl
                        rotate_left
                        · simp only [Act.put, List.setIfInBounds_toArray, List.set_cons_zero, List.set_cons_succ]
                          rfl
                        refine take_ (i := 25) (N := (some 139)) (v := ?_) (a' := ?_) #[true, true, true, true, true, true, true, true, true, true, true, true, true, true, true, true, true, true, true, true, true, true, true, true, true, true, false, false, false, false, false, false, false, false, false, false] rfl rfl (by kernel_rfl) (fun _ _ _ h => h) (Or.inl ⟨by rfl, ?_⟩) hHeld ?_ ?_
                        rotate_left
                        · intro w' hSw
                          have x1 := (hSw.cell (World.block_lt_of_cell? _ _ x0)).trans x0
                          go_simp
                          with_reducible rfl
                        rotate_left
                        · simp only [Act.put, List.setIfInBounds_toArray, List.set_cons_zero, List.set_cons_succ]
                          rfl
                        refine pure_ (i := 26) (N := (some 140)) (v := ?_) (a' := ?_) #[true, true, true, true, true, true, true, true, true, true, true, true, true, true, true, true, true, true, true, true, true, true, true, true, true, true, true, false, false, false, false, false, false, false, false, false] rfl rfl (by kernel_rfl) (fun _ _ _ h => h) (Or.inl ⟨by rfl, ?_⟩) ?_ ?_
                        rotate_left
                        · intro w'
                          go_simp
                          with_reducible rfl
                        rotate_left
                        · simp only [Act.put, List.setIfInBounds_toArray, List.set_cons_zero, List.set_cons_succ]
                          rfl
                        refine pure_ (i := 27) (N := (some 141)) (v := ?_) (a' := ?_) #[true, true, true, true, true, true, true, true, true, true, true, true, true, true, true, true, true, true, true, true, true, true, true, true, true, true, true, true, false, false, false, false, false, false, false, false] rfl rfl (by kernel_rfl) (fun _ _ _ h => h) (Or.inl ⟨by rfl, ?_⟩) ?_ ?_
                        rotate_left
                        · intro w'
                          go_simp
                          with_reducible rfl
                        rotate_left
                        · simp only [Act.put, List.setIfInBounds_toArray, List.set_cons_zero, List.set_cons_succ]
                          rfl
                        refine take_ (i := 28) (N := (some 142)) (v := ?_) (a' := ?_) #[true, true, true, true, true, true, true, true, true, true, true, true, true, true, true, true, true, true, true, true, true, true, true, true, true, true, true, true, true, false, false, false, false, false, false, false] rfl rfl (by kernel_rfl) (fun _ _ _ h => h) (Or.inl ⟨by rfl, ?_⟩) hHeld ?_ ?_
                        rotate_left
                        · intro w' hSw
                          have y1 := blk_cell (blk_below hpX hSw) 1
                          go_simp
                          with_reducible rfl
                        rotate_left
                        · simp only [Act.put, List.setIfInBounds_toArray, List.set_cons_zero, List.set_cons_succ]
                          rfl
                        refine pure_ (i := 29) (N := (some 143)) (v := ?_) (a' := ?_) #[true, true, true, true, true, true, true, true, true, true, true, true, true, true, true, true, true, true, true, true, true, true, true, true, true, true, true, true, true, true, false, false, false, false, false, false] rfl rfl (by kernel_rfl) (fun _ _ _ h => h) (Or.inl ⟨by rfl, ?_⟩) ?_ ?_
                        rotate_left
                        · intro w'
                          go_simp
                          with_reducible rfl
                        rotate_left
                        · simp only [Act.put, List.setIfInBounds_toArray, List.set_cons_zero, List.set_cons_succ]
                          rfl
                        refine pure_ (i := 30) (N := (some 144)) (v := ?_) (a' := ?_) #[true, true, true, true, true, true, true, true, true, true, true, true, true, true, true, true, true, true, true, true, true, true, true, true, true, true, true, true, true, true, true, false, false, false, false, false] rfl rfl (by kernel_rfl) (fun _ _ _ h => h) (Or.inl ⟨by rfl, ?_⟩) ?_ ?_
                        rotate_left
                        · intro w'
                          go_simp
                          with_reducible rfl
                        rotate_left
                        · simp only [Act.put, List.setIfInBounds_toArray, List.set_cons_zero, List.set_cons_succ]
                          rfl
                        refine take_ (i := 31) (N := (some 145)) (v := ?_) (a' := ?_) #[true, true, true, true, true, true, true, true, true, true, true, true, true, true, true, true, true, true, true, true, true, true, true, true, true, true, true, true, true, true, true, true, false, false, false, false] rfl rfl (by kernel_rfl) (fun _ _ _ h => h) (Or.inl ⟨by rfl, ?_⟩) hHeld ?_ ?_
                        rotate_left
                        · intro w' hSw
                          have v1 := (hSw.cell (World.block_lt_of_cell? _ _ v0)).trans v0
                          go_simp
                          with_reducible rfl
                        rotate_left
                        · simp only [Act.put, List.setIfInBounds_toArray, List.set_cons_zero, List.set_cons_succ]
                          rfl
                        refine pure_ (i := 32) (N := (some 146)) (v := ?_) (a' := ?_) #[true, true, true, true, true, true, true, true, true, true, true, true, true, true, true, true, true, true, true, true, true, true, true, true, true, true, true, true, true, true, true, true, true, false, false, false] rfl rfl (by kernel_rfl) (fun _ _ _ h => h) (Or.inl ⟨by rfl, ?_⟩) ?_ ?_
                        rotate_left
                        · intro w'
                          go_simp
                          with_reducible rfl
                        rotate_left
                        · simp only [Act.put, List.setIfInBounds_toArray, List.set_cons_zero, List.set_cons_succ]
                          rfl
                        refine pure_ (i := 33) (N := (some 147)) (v := ?_) (a' := ?_) #[true, true, true, true, true, true, true, true, true, true, true, true, true, true, true, true, true, true, true, true, true, true, true, true, true, true, true, true, true, true, true, true, true, true, false, false] rfl rfl (by kernel_rfl) (fun _ _ _ h => h) (Or.inl ⟨by rfl, ?_⟩) ?_ ?_
                        rotate_left
                        · intro w'
                          go_simp
                          with_reducible rfl
                        rotate_left
                        · simp only [Act.put, List.setIfInBounds_toArray, List.set_cons_zero, List.set_cons_succ]
                          rfl
                        refine pure_ (i := 34) (N := (some 148)) (v := ?_) (a' := ?_) #[true, true, true, true, true, true, true, true, true, true, true, true, true, true, true, true, true, true, true, true, true, true, true, true, true, true, true, true, true, true, true, true, true, true, true, false] rfl rfl (by kernel_rfl) (fun _ _ _ h => h) (Or.inl ⟨by rfl, ?_⟩) ?_ ?_
                        rotate_left
                        · intro w'
                          go_simp
                          with_reducible rfl
                        rotate_left
                        · simp only [Act.put, List.setIfInBounds_toArray, List.set_cons_zero, List.set_cons_succ]
                          rfl
                        refine pure_ (i := 35) (N := (some 149)) (v := ?_) (a' := ?_) #[true, true, true, true, true, true, true, true, true, true, true, true, true, true, true, true, true, true, true, true, true, true, true, true, true, true, true, true, true, true, true, true, true, true, true, true] rfl rfl (by kernel_rfl) (fun _ _ _ h => h) (Or.inl ⟨by rfl, ?_⟩) ?_ ?_
                        rotate_left
                        · intro w'
                          go_simp
                          with_reducible rfl
                        rotate_left
                        · simp only [Act.put, List.setIfInBounds_toArray, List.set_cons_zero, List.set_cons_succ]
                          rfl
                        refine done_ (by kernel_rfl) ?_
                        go_wp2
                        go_loopw [16] (fun iv wt => ∃ i : Nat, i ≤ ys.length ∧ iv = .int .i64 i ∧ Below wr.heap.size wr wt) (fun iv _ => ys.length - (intOf iv).toNat)
                        case atStart => exact ⟨0, Nat.zero_le _, rfl, below_drew (Below.refl _ _)⟩
                        case round =>
                          obtain ⟨i, hi, rfl, hBt⟩ := hrel
                          have y1 := blk_cell (blk_below hpX hBt) 1
                          have u1 := blk_cell (blk_below hqX hBt) 1
                          have x0 := (hBt.cell (World.block_lt_of_cell? _ _ x0)).trans x0
                          have v0 := (hBt.cell (World.block_lt_of_cell? _ _ v0)).trans v0
                          by_cases hli : i < ys.length
                          · obtain ⟨ad, x, rfl, HX1, a0, a1, a2, a3, a4, a5⟩ := el_op (Kd.C_below hys hBt) i hli
                            obtain ⟨ae, x', rfl, HY1, b0, b1, b2, b3, b4, b5⟩ := el_op (Kd.C_below hzs hBt) i (by omega)
                            have hiz : i < zs.length := by omega
                            obtain rfl := pre_op HYZ.out HX1.out HY1.out
                            have heq := eq_op_yes x
                            go_wp2
                            go_quiet (fail)
                            go_wp2
                            go_roundw
                            case rel => exact ⟨i + 1, by omega, by go_num, pw_below_drewN hBt _⟩
                            case measure => simp [intOf]; omega
                          · have hin : ¬ (i : Int) < (ys.length : Int) := by omega
                            have hBs := below_then hB hB.size hBt
                            go_wp2
                            go_roundw
                            case rel => exact ⟨t + 1, by omega, by go_num, hBs⟩
                            case measure => simp [intOf]; omega
                      · have hl1 : decide ((t : Int) < (q.calls.length : Int) - 1) = false := decide_eq_false (by omega)
                        clear hyl
                        go_wp2
                        refine start_ (n := 36) (S := (fun W_ => Below wr.heap.size wr W_)) (ds := []) #[false, false, false, false, false, false, false, false, false, false, false, false, false, false, false, false, false, false, false, false, false, false, false, false, false, false, false, false, false, false, false, false, false, false, false, false] (by kernel_rfl) rfl rfl (below_drew (Below.refl _ _)) (fun hHeld => ?_)
                        refine pure_ (i := 0) (N := (some 114)) (v := ?_) (a' := ?_) #[true, false, false, false, false, false, false, false, false, false, false, false, false, false, false, false, false, false, false, false, false, false, false, false, false, false, false, false, false, false, false, false, false, false, false, false] rfl rfl (by kernel_rfl) (fun _ _ _ h => h) (Or.inl ⟨by rfl, ?_⟩) ?_ ?_
                        rotate_left
                        · intro w'
                          go_simp
                          with_reducible rfl
                        rotate_left
                        · simp only [Act.put, List.setIfInBounds_toArray, List.set_cons_zero, List.set_cons_succ]
                          rfl
                        refine take_ (i := 1) (N := (some 115)) (v := ?_) (a' := ?_) #[true, true, false, false, false, false, false, false, false, false, false, false, false, false, false, false, false, false, false, false, false, false, false, false, false, false, false, false, false, false, false, false, false, false, false, false] rfl rfl (by kernel_rfl) (fun _ _ _ h => h) (Or.inl ⟨by rfl, ?_⟩) hHeld ?_ ?_
                        rotate_left
                        · intro w' hSw
                          have u1 := blk_cell (blk_below hqX hSw) 1
                          go_simp
                          with_reducible rfl
                        rotate_left
                        · simp only [Act.put, List.setIfInBounds_toArray, List.set_cons_zero, List.set_cons_succ]
                          rfl
                        refine pure_ (i := 2) (N := (some 116)) (v := ?_) (a' := ?_) #[true, true, true, false, false, false, false, false, false, false, false, false, false, false, false, false, false, false, false, false, false, false, false, false, false, false, false, false, false, false, false, false, false, false, false, false] rfl rfl (by kernel_rfl) (fun _ _ _ h => h) (Or.inl ⟨by rfl, ?_⟩) ?_ ?_
                        rotate_left
                        · intro w'
                          go_simp
                          with_reducible rfl
                        rotate_left
                        · simp only [Act.put, List.setIfInBounds_toArray, List.set_cons_zero, List.set_cons_succ]
                          rfl
                        refine pure_ (i := 3) (N := (some 117)) (v := ?_) (a' := ?_) #[true, true, true, true, false, false, false, false, false, false, false, false, false, false, false, false, false, false, false, false, false, false, false, false, false, false, false, false, false, false, false, false, false, false, false, false] rfl rfl (by kernel_rfl) (fun _ _ _ h => h) (Or.inl ⟨by rfl, ?_⟩) ?_ ?_
                        rotate_left
                        · intro w'
                          go_simp
                          with_reducible rfl
                        rotate_left
                        · simp only [Act.put, List.setIfInBounds_toArray, List.set_cons_zero, List.set_cons_succ]
                          rfl
                        refine take_ (i := 4) (N := (some 118)) (v := ?_) (a' := ?_) #[true, true, true, true, true, false, false, false, false, false, false, false, false, false, false, false, false, false, false, false, false, false, false, false, false, false, false, false, false, false, false, false, false, false, false, false] rfl rfl (by kernel_rfl) (fun _ _ _ h => h) (Or.inl ⟨by rfl, ?_⟩) hHeld ?_ ?_
                        rotate_left
                        · intro w' hSw
                          have x1 := (hSw.cell (World.block_lt_of_cell? _ _ x0)).trans x0
                          go_simp
                          with_reducible rfl
                        rotate_left
                        · simp only [Act.put, List.setIfInBounds_toArray, List.set_cons_zero, List.set_cons_succ]
                          rfl
                        refine pure_ (i := 5) (N := (some 119)) (v := ?_) (a' := ?_) #[true, true, true, true, true, true, false, false, false, false, false, false, false, false, false, false, false, false, false, false, false, false, false, false, false, false, false, false, false, false, false, false, false, false, false, false] rfl rfl (by kernel_rfl) (fun _ _ _ h => h) (Or.inl ⟨by rfl, ?_⟩) ?_ ?_
                        rotate_left
                        · intro w'
                          go_simp
                          with_reducible rfl
                        rotate_left
                        · simp only [Act.put, List.setIfInBounds_toArray, List.set_cons_zero, List.set_cons_succ]
                          rfl
                        refine pure_ (i := 6) (N := (some 120)) (v := ?_) (a' := ?_) #[true, true, true, true, true, true, true, false, false, false, false, false, false, false, false, false, false, false, false, false, false, false, false, false, false, false, false, false, false, false, false, false, false, false, false, false] rfl rfl (by kernel_rfl) (fun _ _ _ h => h) (Or.inl ⟨by rfl, ?_⟩) ?_ ?_
                        rotate_left
                        · intro w'
                          go_simp
                          with_reducible rfl
                        rotate_left
                        · simp only [Act.put, List.setIfInBounds_toArray, List.set_cons_zero, List.set_cons_succ]
                          rfl
                        refine take_ (i := 7) (N := (some 121)) (v := ?_) (a' := ?_) #[true, true, true, true, true, true, true, true, false, false, false, false, false, false, false, false, false, false, false, false, false, false, false, false, false, false, false, false, false, false, false, false, false, false, false, false] rfl rfl (by kernel_rfl) (fun _ _ _ h => h) (Or.inl ⟨by rfl, ?_⟩) hHeld ?_ ?_
                        rotate_left
                        · intro w' hSw
                          have y1 := blk_cell (blk_below hpX hSw) 1
                          go_simp
                          with_reducible rfl
                        rotate_left
                        · simp only [Act.put, List.setIfInBounds_toArray, List.set_cons_zero, List.set_cons_succ]
                          rfl
                        refine pure_ (i := 8) (N := (some 122)) (v := ?_) (a' := ?_) #[true, true, true, true, true, true, true, true, true, false, false, false, false, false, false, false, false, false, false, false, false, false, false, false, false, false, false, false, false, false, false, false, false, false, false, false] rfl rfl (by kernel_rfl) (fun _ _ _ h => h) (Or.inl ⟨by rfl, ?_⟩) ?_ ?_
                        rotate_left
                        · intro w'
                          go_simp
                          with_reducible rfl
                        rotate_left
                        · simp only [Act.put, List.setIfInBounds_toArray, List.set_cons_zero, List.set_cons_succ]
                          rfl
                        refine pure_ (i := 9) (N := (some 123)) (v := ?_) (a' := ?_) #[true, true, true, true, true, true, true, true, true, true, false, false, false, false, false, false, false, false, false, false, false, false, false, false, false, false, false, false, false, false, false, false, false, false, false, false] rfl rfl (by kernel_rfl) (fun _ _ _ h => h) (Or.inl ⟨by rfl, ?_⟩) ?_ ?_
                        rotate_left
                        · intro w'
                          go_simp
                          with_reducible rfl
                        rotate_left
                        · simp only [Act.put, List.setIfInBounds_toArray, List.set_cons_zero, List.set_cons_succ]
                          rfl
                        refine take_ (i := 10) (N := (some 124)) (v := ?_) (a' := ?_) #[true, true, true, true, true, true, true, true, true, true, true, false, false, false, false, false, false, false, false, false, false, false, false, false, false, false, false, false, false, false, false, false, false, false, false, false] rfl rfl (by kernel_rfl) (fun _ _ _ h => h) (Or.inl ⟨by rfl, ?_⟩) hHeld ?_ ?_
                        rotate_left
                        · intro w' hSw
                          have v1 := (hSw.cell (World.block_lt_of_cell? _ _ v0)).trans v0
                          go_simp
                          with_reducible rfl
                        rotate_left
                        · simp only [Act.put, List.setIfInBounds_toArray, List.set_cons_zero, List.set_cons_succ]
                          rfl
                        refine pure_ (i := 11) (N := (some 125)) (v := ?_) (a' := ?_) #[true, true, true, true, true, true, true, true, true, true, true, true, false, false, false, false, false, false, false, false, false, false, false, false, false, false, false, false, false, false, false, false, false, false, false, false] rfl rfl (by kernel_rfl) (fun _ _ _ h => h) (Or.inl ⟨by rfl, ?_⟩) ?_ ?_
                        rotate_left
                        · intro w'
                          go_simp
                          with_reducible rfl
                        rotate_left
                        · simp only [Act.put, List.setIfInBounds_toArray, List.set_cons_zero, List.set_cons_succ]
                          rfl
                        refine pure_ (i := 12) (N := (some 126)) (v := ?_) (a' := ?_) #[true, true, true, true, true, true, true, true, true, true, true, true, true, false, false, false, false, false, false, false, false, false, false, false, false, false, false, false, false, false, false, false, false, false, false, false] rfl rfl (by kernel_rfl) (fun _ _ _ h => h) (Or.inl ⟨by rfl, ?_⟩) ?_ ?_
                        rotate_left
                        · intro w'
                          go_simp
                          with_reducible rfl
                        rotate_left
                        · simp only [Act.put, List.setIfInBounds_toArray, List.set_cons_zero, List.set_cons_succ]
                          rfl
                        refine pure_ (i := 13) (N := (some 127)) (v := ?_) (a' := ?_) #[true, true, true, true, true, true, true, true, true, true, true, true, true, true, false, false, false, false, false, false, false, false, false, false, false, false, false, false, false, false, false, false, false, false, false, false] rfl rfl (by kernel_rfl) (fun _ _ _ h => h) (Or.inl ⟨by rfl, ?_⟩) ?_ ?_
                        rotate_left
                        · intro w'
                          go_simp
                          with_reducible rfl
                        rotate_left
                        · simp only [Act.put, List.setIfInBounds_toArray, List.set_cons_zero, List.set_cons_succ]
                          rfl
                        refine pure_ (i := 14) (N := (some 128)) (v := ?_) (a' := ?_) #[true, true, true, true, true, true, true, true, true, true, true, true, true, true, true, false, false, false, false, false, false, false, false, false, false, false, false, false, false, false, false, false, false, false, false, false] rfl rfl (by kernel_rfl) (fun _ _ _ h => h) (Or.inl ⟨by rfl, ?_⟩) ?_ ?_
                        rotate_left
                        · intro w'
                          go_simp
                          with_reducible rfl
                        rotate_left
                        · simp only [Act.put, List.setIfInBounds_toArray, List.set_cons_zero, List.set_cons_succ]
                          rfl
                        refine pure_ (i := 15) (N := (some 129)) (v := ?_) (a' := ?_) #[true, true, true, true, true, true, true, true, true, true, true, true, true, true, true, true, false, false, false, false, false, false, false, false, false, false, false, false, false, false, false, false, false, false, false, false] rfl rfl (by kernel_rfl) (fun _ _ _ h => h) (Or.inl ⟨by rfl, ?_⟩) ?_ ?_
                        rotate_left
                        · intro w'
                          go_simp
                          with_reducible rfl
                        rotate_left
                        · simp only [Act.put, List.setIfInBounds_toArray, List.set_cons_zero, List.set_cons_succ]
                          rfl
                        refine take_ (i := 16) (N := (some 130)) (v := ?_) (a' := ?_) #[true, true, true, true, true, true, true, true, true, true, true, true, true, true, true, true, true, false, false, false, false, false, false, false, false, false, false, false, false, false, false, false, false, false, false, false] rfl rfl (by kernel_rfl) (fun _ _ _ h => h) (Or.inl ⟨by rfl, ?_⟩) hHeld ?_ ?_
                        rotate_left
                        · intro w' hSw
                          have u1 := blk_cell (blk_below hqX hSw) 1
                          go_simp
                          with_reducible rfl
                        rotate_left
                        · simp only [Act.put, List.setIfInBounds_toArray, List.set_cons_zero, List.set_cons_succ]
                          rfl
                        refine pure_ (i := 17) (N := (some 131)) (v := ?_) (a' := ?_) #[true, true, true, true, true, true, true, true, true, true, true, true, true, true, true, true, true, true, false, false, false, false, false, false, false, false, false, false, false, false, false, false, false, false, false, false] rfl rfl (by kernel_rfl) (fun _ _ _ h => h) (Or.inl ⟨by rfl, ?_⟩) ?_ ?_
                        rotate_left
                        · intro w'
                          go_simp
                          with_reducible rfl
                        rotate_left
                        · simp only [Act.put, List.setIfInBounds_toArray, List.set_cons_zero, List.set_cons_succ]
                          rfl
                        refine pure_ (i := 18) (N := (some 132)) (v := ?_) (a' := ?_) #[true, true, true, true, true, true, true, true, true, true, true, true, true, true, true, true, true, true, true, false, false, false, false, false, false, false, false, false, false, false, false, false, false, false, false, false] rfl rfl (by kernel_rfl) (fun _ _ _ h => h) (Or.inl ⟨by rfl, ?_⟩) ?_ ?_
                        rotate_left
                        · intro w'
                          go_simp
                          with_reducible rfl
                        rotate_left
                        · simp only [Act.put, List.setIfInBounds_toArray, List.set_cons_zero, List.set_cons_succ]
                          rfl
                        refine pure_ (i := 19) (N := (some 133)) (v := ?_) (a' := ?_) #[true, true, true, true, true, true, true, true, true, true, true, true, true, true, true, true, true, true, true, true, false, false, false, false, false, false, false, false, false, false, false, false, false, false, false, false] rfl rfl (by kernel_rfl) (fun _ _ _ h => h) (Or.inl ⟨by rfl, ?_⟩) ?_ ?_
                        rotate_left
                        · intro w'
                          go_simp
                          with_reducible rfl
                        rotate_left
                        · simp only [Act.put, List.setIfInBounds_toArray, List.set_cons_zero, List.set_cons_succ]
                          rfl
                        refine pure_ (i := 20) (N := (some 134)) (v := ?_) (a' := ?_) #[true, true, true, true, true, true, true, true, true, true, true, true, true, true, true, true, true, true, true, true, true, false, false, false, false, false, false, false, false, false, false, false, false, false, false, false] rfl rfl (by kernel_rfl) (fun _ _ _ h => h) (Or.inl ⟨by rfl, ?_⟩) ?_ ?_
                        rotate_left
                        · intro w'
                          go_simp
                          with_reducible rfl
                        rotate_left
                        · simp only [Act.put, List.setIfInBounds_toArray, List.set_cons_zero, List.set_cons_succ]
                          rfl
                        refine pure_ (i := 21) (N := (some 135)) (v := undef) (a' := ?_) #[true, true, true, true, true, true, true, true, true, true, true, true, true, true, true, true, true, true, true, true, true, true, false, false, false, false, false, false, false, false, false, false, false, false, false, false] rfl rfl (by kernel_rfl) (fun _ _ _ h => h) (Or.inr ⟨by rfl, rfl⟩) ?_ ?_
                        rotate_left
                        · simp only [Act.put, List.setIfInBounds_toArray, List.set_cons_zero, List.set_cons_succ]
                          rfl
                        refine pure_ (i := 22) (N := (some 136)) (v := undef) (a' := ?_) #[true, true, true, true, true, true, true, true, true, true, true, true, true, true, true, true, true, true, true, true, true, true, true, false, false, false, false, false, false, false, false, false, false, false, false, false] rfl rfl (by kernel_rfl) (fun _ _ _ h => h) (Or.inr ⟨by rfl, rfl⟩) ?_ ?_
                        rotate_left
                        · simp only [Act.put, List.setIfInBounds_toArray, List.set_cons_zero, List.set_cons_succ]
                          rfl
                        refine pure_ (i := 23) (N := (some 137)) (v := undef) (a' := ?_) #[true, true, true, true, true, true, true, true, true, true, true, true, true, true, true, true, true, true, true, true, true, true, true, true, false, false, false, false, false, false, false, false, false, false, false, false] rfl rfl (by kernel_rfl) (fun _ _ _ h => h) (Or.inr ⟨by rfl, rfl⟩) ?_ ?_
                        rotate_left
                        · simp only [Act.put, List.setIfInBounds_toArray, List.set_cons_zero, List.set_cons_succ]
                          rfl
                        refine pure_ (i := 24) (N := (some 138)) (v := undef) (a' := ?_) #[true, true, true, true, true, true, true, true, true, true, true, true, true, true, true, true, true, true, true, true, true, true, true, true, true, false, false, false, false, false, false, false, false, false, false, false] rfl rfl (by kernel_rfl) (fun _ _ _ h => h) (Or.inr ⟨by rfl, rfl⟩) ?_ ?_
                        rotate_left
                        · simp only [Act.put, List.setIfInBounds_toArray, List.set_cons_zero, List.set_cons_succ]
                          rfl
                        refine pure_ (i := 25) (N := (some 139)) (v := undef) (a' := ?_) #[true, true, true, true, true, true, true, true, true, true, true, true, true, true, true, true, true, true, true, true, true, true, true, true, true, true, false, false, false, false, false, false, false, false, false, false] rfl rfl (by kernel_rfl) (fun _ _ _ h => h) (Or.inr ⟨by rfl, rfl⟩) ?_ ?_
                        rotate_left
                        · simp only [Act.put, List.setIfInBounds_toArray, List.set_cons_zero, List.set_cons_succ]
                          rfl
                        refine pure_ (i := 26) (N := (some 140)) (v := undef) (a' := ?_) #[true, true, true, true, true, true, true, true, true, true, true, true, true, true, true, true, true, true, true, true, true, true, true, true, true, true, true, false, false, false, false, false, false, false, false, false] rfl rfl (by kernel_rfl) (fun _ _ _ h => h) (Or.inr ⟨by rfl, rfl⟩) ?_ ?_
                        rotate_left
                        · simp only [Act.put, List.setIfInBounds_toArray, List.set_cons_zero, List.set_cons_succ]
                          rfl
                        refine pure_ (i := 27) (N := (some 141)) (v := undef) (a' := ?_) #[true, true, true, true, true, true, true, true, true, true, true, true, true, true, true, true, true, true, true, true, true, true, true, true, true, true, true, true, false, false, false, false, false, false, false, false] rfl rfl (by kernel_rfl) (fun _ _ _ h => h) (Or.inr ⟨by rfl, rfl⟩) ?_ ?_
                        rotate_left
                        · simp only [Act.put, List.setIfInBounds_toArray, List.set_cons_zero, List.set_cons_succ]
                          rfl
                        refine pure_ (i := 28) (N := (some 142)) (v := undef) (a' := ?_) #[true, true, true, true, true, true, true, true, true, true, true, true, true, true, true, true, true, true, true, true, true, true, true, true, true, true, true, true, true, false, false, false, false, false, false, false] rfl rfl (by kernel_rfl) (fun _ _ _ h => h) (Or.inr ⟨by rfl, rfl⟩) ?_ ?_
                        rotate_left
                        · simp only [Act.put, List.setIfInBounds_toArray, List.set_cons_zero, List.set_cons_succ]
                          rfl
                        refine pure_ (i := 29) (N := (some 143)) (v := undef) (a' := ?_) #[true, true, true, true, true, true, true, true, true, true, true, true, true, true, true, true, true, true, true, true, true, true, true, true, true, true, true, true, true, true, false, false, false, false, false, false] rfl rfl (by kernel_rfl) (fun _ _ _ h => h) (Or.inr ⟨by rfl, rfl⟩) ?_ ?_
                        rotate_left
                        · simp only [Act.put, List.setIfInBounds_toArray, List.set_cons_zero, List.set_cons_succ]
                          rfl
                        refine pure_ (i := 30) (N := (some 144)) (v := undef) (a' := ?_) #[true, true, true, true, true, true, true, true, true, true, true, true, true, true, true, true, true, true, true, true, true, true, true, true, true, true, true, true, true, true, true, false, false, false, false, false] rfl rfl (by kernel_rfl) (fun _ _ _ h => h) (Or.inr ⟨by rfl, rfl⟩) ?_ ?_
                        rotate_left
                        · simp only [Act.put, List.setIfInBounds_toArray, List.set_cons_zero, List.set_cons_succ]
                          rfl
                        refine pure_ (i := 31) (N := (some 145)) (v := undef) (a' := ?_) #[true, true, true, true, true, true, true, true, true, true, true, true, true, true, true, true, true, true, true, true, true, true, true, true, true, true, true, true, true, true, true, true, false, false, false, false] rfl rfl (by kernel_rfl) (fun _ _ _ h => h) (Or.inr ⟨by rfl, rfl⟩) ?_ ?_
                        rotate_left
                        · simp only [Act.put, List.setIfInBounds_toArray, List.set_cons_zero, List.set_cons_succ]
                          rfl
                        refine pure_ (i := 32) (N := (some 146)) (v := undef) (a' := ?_) #[true, true, true, true, true, true, true, true, true, true, true, true, true, true, true, true, true, true, true, true, true, true, true, true, true, true, true, true, true, true, true, true, true, false, false, false] rfl rfl (by kernel_rfl) (fun _ _ _ h => h) (Or.inr ⟨by rfl, rfl⟩) ?_ ?_
                        rotate_left
                        · simp only [Act.put, List.setIfInBounds_toArray, List.set_cons_zero, List.set_cons_succ]
                          rfl
                        refine pure_ (i := 33) (N := (some 147)) (v := undef) (a' := ?_) #[true, true, true, true, true, true, true, true, true, true, true, true, true, true, true, true, true, true, true, true, true, true, true, true, true, true, true, true, true, true, true, true, true, true, false, false] rfl rfl (by kernel_rfl) (fun _ _ _ h => h) (Or.inr ⟨by rfl, rfl⟩) ?_ ?_
                        rotate_left
                        · simp only [Act.put, List.setIfInBounds_toArray, List.set_cons_zero, List.set_cons_succ]
                          rfl
                        refine pure_ (i := 34) (N := (some 148)) (v := ?_) (a' := ?_) #[true, true, true, true, true, true, true, true, true, true, true, true, true, true, true, true, true, true, true, true, true, true, true, true, true, true, true, true, true, true, true, true, true, true, true, false] rfl rfl (by kernel_rfl) (fun _ _ _ h => h) (Or.inl ⟨by rfl, ?_⟩) ?_ ?_
                        rotate_left
                        · intro w'
                          go_simp
                          with_reducible rfl
                        rotate_left
                        · simp only [Act.put, List.setIfInBounds_toArray, List.set_cons_zero, List.set_cons_succ]
                          rfl
                        refine pure_ (i := 35) (N := (some 149)) (v := ?_) (a' := ?_) #[true, true, true, true, true, true, true, true, true, true, true, true, true, true, true, true, true, true, true, true, true, true, true, true, true, true, true, true, true, true, true, true, true, true, true, true] rfl rfl (by kernel_rfl) (fun _ _ _ h => h) (Or.inl ⟨by rfl, ?_⟩) ?_ ?_
                        rotate_left
                        · intro w'
                          go_simp
                          with_reducible rfl
                        rotate_left
                        · simp only [Act.put, List.setIfInBounds_toArray, List.set_cons_zero, List.set_cons_succ]
                          rfl
                        refine done_ (by kernel_rfl) ?_
                        go_wp2
                        go_loopw [16] (fun iv wt => ∃ i : Nat, i ≤ ys.length ∧ iv = .int .i64 i ∧ Below wr.heap.size wr wt) (fun iv _ => ys.length - (intOf iv).toNat)
                        case atStart => exact ⟨0, Nat.zero_le _, rfl, below_drew (Below.refl _ _)⟩
                        case round =>
                          obtain ⟨i, hi, rfl, hBt⟩ := hrel
                          have y1 := blk_cell (blk_below hpX hBt) 1
                          have u1 := blk_cell (blk_below hqX hBt) 1
                          have x0 := (hBt.cell (World.block_lt_of_cell? _ _ x0)).trans x0
                          have v0 := (hBt.cell (World.block_lt_of_cell? _ _ v0)).trans v0
                          by_cases hli : i < ys.length
                          · obtain ⟨ad, x, rfl, HX1, a0, a1, a2, a3, a4, a5⟩ := el_op (Kd.C_below hys hBt) i hli
                            obtain ⟨ae, x', rfl, HY1, b0, b1, b2, b3, b4, b5⟩ := el_op (Kd.C_below hzs hBt) i (by omega)
                            have hiz : i < zs.length := by omega
                            obtain rfl := pre_op HYZ.out HX1.out HY1.out
                            have heq := eq_op_yes x
                            go_wp2
                            go_quiet (fail)
                            go_wp2
                            go_roundw
                            case rel => exact ⟨i + 1, by omega, by go_num, pw_below_drewN hBt _⟩
                            case measure => simp [intOf]; omega
                          · have hin : ¬ (i : Int) < (ys.length : Int) := by omega
                            have hBs := below_then hB hB.size hBt
                            go_wp2
                            go_roundw
                            case rel => exact ⟨t + 1, by omega, by go_num, hBs⟩
                            case measure => simp [intOf]; omega
                    · have hkn : ¬ (t : Int) < (q.calls.length : Int) := by omega
                      have HCE := hide_ (show (countP q : Int) + (q.calls.length : Int) = (j : Int) by have := HCN.out; omega)
                      go_wp2
                      refine start_ (n := 9) (S := (fun W_ => W_.heap[gq]? = some (.cells #[.slice A5 q.main.length c5, .slice B5 q.calls.length d5] 60 (0, 0)))) (ds := []) #[false, false, false, false, false, false, false, false, false] (by kernel_rfl) rfl rfl hqX (fun hHeld => ?_)
                      refine take_ (i := 0) (N := (some 177)) (v := ?_) (a' := ?_) #[true, false, false, false, false, false, false, false, false] rfl rfl (by kernel_rfl) (fun _ _ _ h => h) (Or.inl ⟨by rfl, ?_⟩) hHeld ?_ ?_
                      rotate_left
                      · intro w' hSw
                        have u0 := blk_cell hSw 0
                        have u1 := blk_cell hSw 1
                        go_simp
                        with_reducible rfl
                      rotate_left
                      · simp only [Act.put, List.setIfInBounds_toArray, List.set_cons_zero, List.set_cons_succ]
                        rfl
                      refine pure_ (i := 2) (N := (some 179)) (v := ?_) (a' := ?_) #[true, false, true, false, false, false, false, false, false] rfl rfl (by kernel_rfl) (fun _ _ _ h => h) (Or.inl ⟨by rfl, ?_⟩) ?_ ?_
                      rotate_left
                      · intro w'
                        go_simp
                        with_reducible rfl
                      rotate_left
                      · simp only [Act.put, List.setIfInBounds_toArray, List.set_cons_zero, List.set_cons_succ]
                        rfl
                      refine take_ (i := 3) (N := (some 180)) (v := ?_) (a' := ?_) #[true, false, true, true, false, false, false, false, false] rfl rfl (by kernel_rfl) (fun _ _ _ h => h) (Or.inl ⟨by rfl, ?_⟩) hHeld ?_ ?_
                      rotate_left
                      · intro w' hSw
                        have u1 := blk_cell hSw 1
                        go_simp
                        with_reducible rfl
                      rotate_left
                      · simp only [Act.put, List.setIfInBounds_toArray, List.set_cons_zero, List.set_cons_succ]
                        rfl
                      refine pure_ (i := 4) (N := (some 181)) (v := ?_) (a' := ?_) #[true, false, true, true, true, false, false, false, false] rfl rfl (by kernel_rfl) (fun _ _ _ h => h) (Or.inl ⟨by rfl, ?_⟩) ?_ ?_
                      rotate_left
                      · intro w'
                        go_simp
                        with_reducible rfl
                      rotate_left
                      · simp only [Act.put, List.setIfInBounds_toArray, List.set_cons_zero, List.set_cons_succ]
                        rfl
                      refine pure_ (i := 6) (N := (some 183)) (v := ?_) (a' := ?_) #[true, false, true, true, true, false, true, false, false] rfl rfl (by kernel_rfl) (fun _ _ _ h => h) (Or.inl ⟨by rfl, ?_⟩) ?_ ?_
                      rotate_left
                      · intro w'
                        go_simp
                        with_reducible rfl
                      rotate_left
                      · simp only [Act.put, List.setIfInBounds_toArray, List.set_cons_zero, List.set_cons_succ]
                        rfl
                      refine one_ (i := 1) (N := (some 178)) #[true, true, true, true, true, false, true, false, false] rfl rfl (by kernel_rfl) (by decide) (fun K hK => ?_)
                      refine goes_ Tryd.func51 (by kernel_rfl) rfl #[.agg #[.slice A5 q.main.length c5, .slice B5 q.calls.length d5]] (by rfl) rfl rfl (by try simp only [List.map_toArray, List.map_cons, List.map_nil]; first | done | rfl) ?_
                      refine (rcount_any _ _ q _ ⟨A5, c5, B5, d5, rfl, rfl, Kd.C_below hqm9 (below_drew hB), Kd.C_below hqc9 (below_drew hB)⟩ (by omega)).mono ?_
                      rintro e w9 ⟨rfl, hB9⟩
                      have hBz := below_then (below_drew hBw) (below_drew hBw).size hB9
                      refine ⟨_, rfl, ?_⟩
                      refine hK.out _ _ (blk_below hHeld hB9) (fun hHeld => ?_)
                      clear hK K
                      refine norm_ (a' := ?_) ?_ ?_
                      rotate_left
                      · show Act.put _ (some 178) _ = _
                        simp only [Act.put, List.setIfInBounds_toArray, List.set_cons_zero, List.set_cons_succ]
                        rfl
                      refine pure_ (i := 5) (N := (some 182)) (v := ?_) (a' := ?_) #[true, true, true, true, true, true, true, false, false] rfl rfl (by kernel_rfl) (fun _ _ _ h => h) (Or.inl ⟨by rfl, ?_⟩) ?_ ?_
                      rotate_left
                      · intro w'
                        go_simp
                        with_reducible rfl
                      rotate_left
                      · simp only [Act.put, List.setIfInBounds_toArray, List.set_cons_zero, List.set_cons_succ]
                        rfl
                      refine pure_ (i := 7) (N := (some 184)) (v := ?_) (a' := ?_) #[true, true, true, true, true, true, true, true, false] rfl rfl (by kernel_rfl) (fun _ _ _ h => h) (Or.inl ⟨by rfl, ?_⟩) ?_ ?_
                      rotate_left
                      · intro w'
                        go_simp
                        with_reducible rfl
                      rotate_left
                      · simp only [Act.put, List.setIfInBounds_toArray, List.set_cons_zero, List.set_cons_succ]
                        rfl
                      refine pure_ (i := 8) (N := (some 4)) (v := ?_) (a' := ?_) #[true, true, true, true, true, true, true, true, true] rfl rfl (by kernel_rfl) (fun _ _ _ h => h) (Or.inl ⟨by rfl, ?_⟩) ?_ ?_
                      rotate_left
                      · intro w'
                        go_simp
                        with_reducible rfl
                      rotate_left
                      · simp only [Act.put, List.setIfInBounds_toArray, List.set_cons_zero, List.set_cons_succ]
                        rfl
                      refine done_ (by kernel_rfl) ?_
                      go_wp2
                      go_ret
                      exact ⟨by rw [HCE.out]; simp [show IntKind.i64.wrap (j : Int) = (j : Int) by rw [IntKind.wrap_i64]; omega], hBz⟩
    · have q300 : (300 : Int) < (countP p : Int) := by omega
      obtain ⟨A, c, B, d, rfl, rfl, hm, hc⟩ := h
      go_enter Tryd.func14, Tryd.ntmps14
      go_wp2_with (first
        | (go_at_call 47; refine (haw _ (hbo _)).mono ?_; rintro e w1 ⟨rfl, hB1⟩; have hC1 := below_then (hbo _) (hbo _).size hB1; have hX1 := (hB1.block _ (blk_lt (hX0 _))).trans (hX0 _); have z0 := blk_cell hX1 0; have z1 := blk_cell hX1 1)
        | (go_at_call 51; refine (hcn _ hC1).mono ?_; rintro e w2 ⟨rfl, hB2⟩; have hC2 := below_then hC1 hC1.size hB2))
      go_ret
      exact ⟨rfl, hC2⟩
  · have q80 : (80 : Int) < (p.calls.length : Int) := by omega
    obtain ⟨A, c, B, d, rfl, rfl, hm, hc⟩ := h
    go_enter Tryd.func14, Tryd.ntmps14
    go_wp2_with (go_at_call 47; refine (haw _ (hbo _)).mono ?_; rintro e w1 ⟨rfl, hB1⟩; have hC1 := below_then (hbo _) (hbo _).size hB1; have hX1 := (hB1.block _ (blk_lt (hX0 _))).trans (hX0 _); have z0 := blk_cell hX1 0; have z1 := blk_cell hX1 1)
    go_ret
    exact ⟨rfl, hC1⟩
end Go.Proofs.YtmjedjhgomlfiaaDoor
