/- arena.Put, walked. -/
import Derived.Test.YtmjedjhgomlfiaaForPutAs
set_option linter.unusedSimpArgs false
set_option linter.unusedVariables false
namespace Go.Proofs.Ytmjedjhgomlfiaa
open Go.RowKit Go.Proofs.YtmjedjhgomlfiaaW.PrintWords Go.Proofs.YtmjedjhgomlfiaaW.PrintLast Go.Proofs.Ytmjedjhgomlfiaa.PAuditLeaks

set_option maxRecDepth 100000 in
set_option maxHeartbeats 6400000 in
theorem put_any (F : Nat) (p : Int) (ks : List Int) (A2 : Option Addr) (c2 : Nat) (l : List S61) (w0 w : World) (h : FoO w0 w F l) (hks : (Kd.int .i64).C w0 A2 ks.length ks) (hc2 : ks.length ≤ c2) (hkl : ks.length ≤ 100000)
    (hL : linksOk l) (hE : ∀ id, EndsO l l.length id) (hK : ∀ x ∈ l, ∀ k ∈ x.f8, ∃ y, nodeF l k = some y) (hk8 : ∀ x ∈ l, x.f8.length ≤ 100000) :
    Calls Try.prog 29 #[.pointer (some ⟨F, 0, none⟩), .int .i64 p, .slice A2 ks.length c2] w fun e w' => ∃ v, e = .returned v ∧ FoO w0 w' F (putF l p ks) := by
  cases hn : nodeF l p with
  | none =>
    have H : Hd (putF l p ks = l) := ⟨by unfold putF; rw [hn]⟩
    have hat := at_none F p l w h.read hn
    clear hn
    go_enter Try.func29, Try.ntmps29
    go_wp2_with (go_at_call 45; refine hat.mono ?_; rintro e w2 ⟨rfl, hw2⟩; obtain rfl := hw2.symm)
    go_ret
    exact ⟨_, rfl, by rw [H.out]; exact h⟩
  | some x =>
    have hjp := nodeF_get hn
    have hp128 := h.2.2.1
    have hplen : 1 ≤ p ∧ p ≤ l.length := by obtain ⟨j, rfl, hj, _⟩ := nodeF_some hn; omega
    obtain ⟨g, cap, hF, hg0, hgs, hgF, hN⟩ := h.nodes (by omega)
    obtain ⟨jp, hjpp⟩ : ∃ jp, jp = (p - 1).toNat := ⟨_, rfl⟩
    have hatp := at_id F p l w g cap x hF hn hp128
    rw [← hjpp] at hatp hjp
    have HJP := hd_ hjpp
    clear hjpp
    have hksw := Kd.C_below hks h.base
    go_enter Try.func29, Try.ntmps29
    go_wp2_with (go_at_call 45; refine hatp.mono ?_; rintro e w2 ⟨rfl, hw2⟩; obtain rfl := hw2.symm)
    go_loopw [24, 8, 9] (fun i _ _ wr => ∃ (j : Nat), j ≤ ks.length ∧ i = .int .i64 j ∧ Hd (okIds l [] ks = okIds l (ks.take j) (ks.drop j)) ∧ wr = w) (fun i _ _ _ => ks.length - (intOf i).toNat)
    case atStart => exact ⟨0, Nat.zero_le _, rfl, ⟨rfl⟩, rfl⟩
    case round =>
      obtain ⟨j, hj, rfl, HI, rfl⟩ := hrel
      by_cases hlt : j < ks.length
      · obtain ⟨k, hk⟩ : ∃ k, ks[j]? = some k := ⟨_, List.getElem?_eq_getElem (by omega)⟩
        obtain ⟨b, o, rfl, hcell⟩ := ints_at hksw hk
        have hd : ks.drop j = k :: ks.drop (j + 1) := by rw [List.drop_eq_getElem_cons (by omega), (List.getElem?_eq_some_iff.1 hk).2]
        have hI2 := HI.out
        rw [hd, okIds] at hI2
        cases hm : nodeF l k with
        | none =>
          have H : Hd (putF l p ks = l) := ⟨putF_bad hn (by rw [hI2, hm]; rfl)⟩
          have hat := at_none F k l wr h.read hm
          clear hI2 hm hd hk hn hjp hL hE hK hk8 hatp hN HI
          go_wp2_with (go_at_call 45; refine hat.mono ?_; rintro e w2 ⟨rfl, hw2⟩; obtain rfl := hw2.symm)
          go_ret
          exact ⟨_, rfl, by rw [H.out]; exact h⟩
        | some y =>
          have hat := at_id F k l wr g cap y hF hm hp128
          have hlen : (ks.take j).length = j := by rw [List.length_take]; omega
          have hct := contains_any (ks.take j) k (some ⟨b, o, none⟩) c2 wr (ints_take hksw hc2 j (by omega)) (by omega)
          rw [hlen] at hct
          have hjc : (j : Int) ≤ (c2 : Int) := by omega
          rw [hm] at hI2
          cases hc : (ks.take j).contains k with
          | true =>
            have H : Hd (putF l p ks = l) := ⟨putF_bad hn (by rw [hI2, hc]; rfl)⟩
            rw [hc] at hct
            clear hI2 hm hd hk hn hjp hL hE hK hk8 hatp hN HI hc hlen
            go_wp2_with (first
              | (go_at_call 45; refine hat.mono ?_; rintro e w2 ⟨rfl, hw2⟩; obtain rfl := hw2.symm)
              | (go_at_call 26; refine hct.mono ?_; rintro e w2 ⟨rfl, hw2⟩; obtain rfl := hw2.symm))
            go_ret
            exact ⟨_, rfl, by rw [H.out]; exact h⟩
          | false =>
            have H : Hd (okIds l [] ks = okIds l (ks.take (j + 1)) (ks.drop (j + 1))) := ⟨by rw [hI2, hc, List.take_add_one, hk]; rfl⟩
            rw [hc] at hct
            clear hI2 hm hd hk hn hjp hL hE hK hk8 hatp hN HI hc hlen
            go_wp2_with (first
              | (go_at_call 45; refine hat.mono ?_; rintro e w2 ⟨rfl, hw2⟩; obtain rfl := hw2.symm)
              | (go_at_call 26; refine hct.mono ?_; rintro e w2 ⟨rfl, hw2⟩; obtain rfl := hw2.symm))
            go_roundw
            case rel => exact ⟨j + 1, by omega, by go_num, H, by trivial⟩
            case measure => simp [intOf]; omega
      · have hok : okIds l [] ks = true := by
          rw [HI.out, List.drop_eq_nil_of_le (by omega)]; rfl
        have hmem := okIds_mem hok
        clear HI
        go_wp2
        go_loopw [43, 11, 12] (fun i _ _ wr' => ∃ (j : Nat), j ≤ ks.length ∧ i = .int .i64 j ∧ Hd (okKids l p ks = okKids l p (ks.drop j)) ∧ wr' = wr) (fun i _ _ _ => ks.length - (intOf i).toNat)
        case atStart => exact ⟨0, Nat.zero_le _, rfl, ⟨rfl⟩, rfl⟩
        case round =>
          clear hj hlt
          obtain ⟨j, hj, rfl, HI, rfl⟩ := hrel
          by_cases hlt : j < ks.length
          · obtain ⟨k, hk⟩ : ∃ k, ks[j]? = some k := ⟨_, List.getElem?_eq_getElem (by omega)⟩
            obtain ⟨b, o, rfl, hcell⟩ := ints_at hksw hk
            have hd : ks.drop j = k :: ks.drop (j + 1) := by rw [List.drop_eq_getElem_cons (by omega), (List.getElem?_eq_some_iff.1 hk).2]
            obtain ⟨y, hm⟩ := hmem k (List.mem_of_getElem? hk)
            have hI2 := HI.out
            rw [hd, okKids_cons hm] at hI2
            have hat := at_id F k l wr g cap y hF hm hp128
            have hNy := hN wr l h rfl rfl _ y (nodeF_get hm)
            obtain ⟨jk, hjk⟩ : ∃ jk, jk = (k - 1).toNat := ⟨_, rfl⟩
            rw [← hjk] at hat hNy
            have k0 := hNy.k0
            have k1 := hNy.k1
            have hro := rooted_any g (jk * 9) y wr k0
            clear hjk
            have hov := over_any F k p l wr h.read hL (hE p) (by omega) hplen.2
            by_cases hr : rootedF y = true
            · have H : Hd (putF l p ks = l) := ⟨putF_bad2 hn (by rw [hI2, if_pos hr])⟩
              rw [hr] at hro
              clear hI2 hm hd hk hn hjp hL hE hK hk8 hatp hN HI hmem hok hr hNy hov k0
              go_wp2_with (first
                | (go_at_call 45; refine hat.mono ?_; rintro e w2 ⟨rfl, hw2⟩; obtain rfl := hw2.symm)
                | (go_at_call 46; refine hro.mono ?_; rintro e w2 ⟨rfl, hw2⟩; obtain rfl := hw2.symm))
              go_ret
              exact ⟨_, rfl, by rw [H.out]; exact h⟩
            · rw [if_neg hr] at hI2
              rw [Bool.not_eq_true] at hr
              rw [hr] at hro
              by_cases ho : k ∈ overL l l.length p
              · have H : Hd (putF l p ks = l) := ⟨putF_bad2 hn (by rw [hI2, if_pos ho])⟩
                rw [decide_eq_true ho] at hov
                clear hI2 hm hd hk hn hjp hL hE hK hk8 hatp hN HI hmem hok hr hNy ho k0
                go_wp2_with (first
                  | (go_at_call 45; refine hat.mono ?_; rintro e w2 ⟨rfl, hw2⟩; obtain rfl := hw2.symm)
                  | (go_at_call 46; refine hro.mono ?_; rintro e w2 ⟨rfl, hw2⟩; obtain rfl := hw2.symm)
                  | (go_at_call 47; refine hov.mono ?_; rintro e w2 ⟨rfl, hw2⟩; obtain rfl := hw2.symm))
                go_ret
                exact ⟨_, rfl, by rw [H.out]; exact h⟩
              · rw [if_neg ho] at hI2
                rw [decide_eq_false ho] at hov
                by_cases h0 : y.f1 = 0
                · rw [if_pos h0] at hI2
                  rw [h0] at k1
                  have HI2 := hd_ hI2
                  clear hI2 hm hd hk hn hjp hL hE hK hk8 hatp hN HI hmem hok hr hNy ho k0 h0
                  go_wp2_with (first
                    | (go_at_call 45; refine hat.mono ?_; rintro e w2 ⟨rfl, hw2⟩; obtain rfl := hw2.symm)
                    | (go_at_call 46; refine hro.mono ?_; rintro e w2 ⟨rfl, hw2⟩; obtain rfl := hw2.symm)
                    | (go_at_call 47; refine hov.mono ?_; rintro e w2 ⟨rfl, hw2⟩; obtain rfl := hw2.symm))
                  go_roundw
                  case rel => exact ⟨j + 1, by omega, by go_num, HI2, by trivial⟩
                  case measure => simp [intOf]; omega
                · rw [if_neg h0] at hI2
                  have q0 : (y.f1 == 0) = false := by simpa using h0
                  by_cases hpp : y.f1 = p
                  · rw [if_pos hpp] at hI2
                    rw [hpp] at k1 q0
                    have HI2 := hd_ hI2
                    clear hI2 hm hd hk hn hjp hL hE hK hk8 hatp hN HI hmem hok hr hNy ho k0 h0 hpp
                    go_wp2_with (first
                      | (go_at_call 45; refine hat.mono ?_; rintro e w2 ⟨rfl, hw2⟩; obtain rfl := hw2.symm)
                      | (go_at_call 46; refine hro.mono ?_; rintro e w2 ⟨rfl, hw2⟩; obtain rfl := hw2.symm)
                      | (go_at_call 47; refine hov.mono ?_; rintro e w2 ⟨rfl, hw2⟩; obtain rfl := hw2.symm))
                    go_roundw
                    case rel => exact ⟨j + 1, by omega, by go_num, HI2, by trivial⟩
                    case measure => simp [intOf]; omega
                  · have H : Hd (putF l p ks = l) := ⟨putF_bad2 hn (by rw [hI2, if_neg hpp])⟩
                    have q1 : (y.f1 == p) = false := by simpa using hpp
                    have q2 : (y.f1 != p) = true := by simpa using hpp
                    have q3 : (y.f1 != 0) = true := by simpa using h0
                    have q4 : (p == y.f1) = false := by simpa using Ne.symm hpp
                    clear hI2 hm hd hk hn hjp hL hE hK hk8 hatp hN HI hmem hok hr hNy ho k0
                    go_wp2_with (first
                      | (go_at_call 45; refine hat.mono ?_; rintro e w2 ⟨rfl, hw2⟩; obtain rfl := hw2.symm)
                      | (go_at_call 46; refine hro.mono ?_; rintro e w2 ⟨rfl, hw2⟩; obtain rfl := hw2.symm)
                      | (go_at_call 47; refine hov.mono ?_; rintro e w2 ⟨rfl, hw2⟩; obtain rfl := hw2.symm))
                    go_ret
                    exact ⟨_, rfl, by rw [H.out]; exact h⟩
          · have hok2 : okKids l p ks = true := by
              rw [HI.out, List.drop_eq_nil_of_le (by omega)]; rfl
            clear HI
            have hxl : x ∈ l := List.mem_of_getElem? hjp
            obtain ⟨A8, c8, kc8, l8, F8⟩ := (hN wr l h rfl rfl jp x hjp).k8
            have hK8 := hk8 x hxl
            go_wp2
            go_loopw [78, 14] (fun i _ wr' => ∃ (j : Nat), j ≤ x.f8.length ∧ i = .int .i64 j ∧ FoO w0 wr' F (setPar 0 l (x.f8.take j)) ∧ wr'.heap[F]? = wr.heap[F]? ∧ (Kd.int .i64).F wr' (fun k => (w0.heap.size ≤ k ∧ k ≠ F) ∧ k ≠ g) A8 x.f8.length x.f8) (fun i _ _ => x.f8.length - (intOf i).toNat)
            case atStart => exact ⟨0, Nat.zero_le _, rfl, by rw [List.take_zero]; exact h, rfl, F8⟩
            case round =>
              rename World => wr2
              clear hj hlt kc8
              obtain ⟨j, hj, rfl, hFo, hFe, hF8⟩ := hrel
              by_cases hlt : j < x.f8.length
              · obtain ⟨k, hk⟩ : ∃ k, x.f8[j]? = some k := ⟨_, List.getElem?_eq_getElem hlt⟩
                obtain ⟨b, o, rfl, hcell⟩ := ints_at (Kd.F_now hF8) hk
                obtain ⟨y0, hy0⟩ := hK x hxl k (List.mem_of_getElem? hk)
                obtain ⟨y, hm⟩ := nodeF_len (setPar_length 0 (x.f8.take j) l) hy0
                have hat := at_id F k _ wr2 g cap y (by rw [setPar_length, hFe, hF]) hm (by rw [setPar_length]; exact hp128)
                have hNy := hN wr2 _ hFo (setPar_length _ _ _) hFe _ y (nodeF_get hm)
                have hst := hd_ ((setPar_step (v := 0) (l := l) hk).trans (setPar1_some hm))
                obtain ⟨jk, hjk⟩ : ∃ jk, jk = (k - 1).toNat := ⟨_, rfl⟩
                rw [← hjk] at hat hNy hst
                have k1 := hNy.k1
                have f1 := hNy.fr 1
                have s1 := hNy.s1 0
                rw [← hst.out] at s1
                have hFe2 : Hd ((wr2.setCell ⟨g, jk * 9 + 1, none⟩ (.int .i64 0)).heap[F]? = wr.heap[F]?) := ⟨(Below.heap_setCell wr2 _ _ F (Ne.symm hgF)).trans hFe⟩
                have hF82 := Kd.F_far hF8 (p := ⟨g, jk * 9 + 1, none⟩) (fun k hk => hk.2) (.int .i64 0)
                clear hst hm hk hn hjp hL hE hK hk8 hatp hN hmem hok hNy hjk hFe hy0 hFo hF8
                go_wp2_with (go_at_call 45; refine hat.mono ?_; rintro e w2 ⟨rfl, hw2⟩; obtain rfl := hw2.symm)
                go_roundw
                case rel => exact ⟨j + 1, by omega, by go_num, s1, hFe2.out, hF82⟩
                case measure => simp [intOf]; omega
              · have h3 : FoO w0 wr2 F (setPar 0 l x.f8) := by rwa [List.take_of_length_le (by omega)] at hFo
                clear hF8 F8 hFo
                go_wp2
                go_loopw [90, 16] (fun i _ wr' => ∃ (j : Nat), j ≤ ks.length ∧ i = .int .i64 j ∧ FoO w0 wr' F (setPar p (setPar 0 l x.f8) (ks.take j)) ∧ wr'.heap[F]? = wr.heap[F]?) (fun i _ _ => ks.length - (intOf i).toNat)
                case atStart => exact ⟨0, Nat.zero_le _, rfl, by rw [List.take_zero]; exact h3, hFe⟩
                case round =>
                  rename World => wr3
                  clear hj hlt hFe
                  obtain ⟨j, hj, rfl, hFo, hFe⟩ := hrel
                  have hks3 := Kd.C_below hks hFo.base
                  by_cases hlt : j < ks.length
                  · obtain ⟨k, hk⟩ : ∃ k, ks[j]? = some k := ⟨_, List.getElem?_eq_getElem hlt⟩
                    obtain ⟨b, o, rfl, hcell⟩ := ints_at hks3 hk
                    obtain ⟨y0, hy0⟩ := hmem k (List.mem_of_getElem? hk)
                    have hlen2 : (setPar p (setPar 0 l x.f8) (ks.take j)).length = l.length := by rw [setPar_length, setPar_length]
                    obtain ⟨y, hm⟩ := nodeF_len hlen2 hy0
                    have hat := at_id F k _ wr3 g cap y (by rw [hlen2, hFe, hF]) hm (by rw [hlen2]; exact hp128)
                    have hNy := hN wr3 _ hFo hlen2 hFe _ y (nodeF_get hm)
                    have hst := hd_ ((setPar_step (v := p) (l := setPar 0 l x.f8) hk).trans (setPar1_some hm))
                    obtain ⟨jk, hjk⟩ : ∃ jk, jk = (k - 1).toNat := ⟨_, rfl⟩
                    rw [← hjk] at hat hNy hst
                    have k1 := hNy.k1
                    have f1 := hNy.fr 1
                    have s1 := hNy.s1 p
                    rw [← hst.out] at s1
                    have hFe2 : Hd ((wr3.setCell ⟨g, jk * 9 + 1, none⟩ (.int .i64 p)).heap[F]? = wr.heap[F]?) := ⟨(Below.heap_setCell wr3 _ _ F (Ne.symm hgF)).trans hFe⟩
                    clear hst hm hk hn hjp hL hE hK hk8 hatp hN hmem hok hNy hjk hFe hy0 hFo hlen2
                    go_wp2_with (go_at_call 45; refine hat.mono ?_; rintro e w2 ⟨rfl, hw2⟩; obtain rfl := hw2.symm)
                    go_roundw
                    case rel => exact ⟨j + 1, by omega, by go_num, s1, hFe2.out⟩
                    case measure => simp [intOf]; omega
                  · have h4 : FoO w0 wr3 F (setPar p (setPar 0 l x.f8) ks) := by rwa [List.take_of_length_le (by omega)] at hFo
                    have hlen3 : (setPar p (setPar 0 l x.f8) ks).length = l.length := by rw [setPar_length, setPar_length]
                    obtain ⟨y, hy⟩ := nodeF_len hlen3 hn
                    have H := hd_ (putF_ok hn hok hok2 hy)
                    have hjy := nodeF_get hy
                    rw [← HJP.out] at H hjy
                    generalize setPar p (setPar 0 l x.f8) ks = l3 at *
                    have hF4 : wr3.heap[F]? = some (.cells #[.slice (some ⟨g, 0, none⟩) l3.length cap] 87 (0, 0)) := by rw [hFe, hF, hlen3]
                    obtain ⟨cs, hgc⟩ : ∃ cs, wr3.heap[g]? = some (.cells cs 61 (0, 0)) := by
                      obtain ⟨-, -, -, -, v, hv, hN4⟩ := h4
                      rw [hF4] at hv
                      simp only [Option.some.injEq, Obj.cells.injEq, Array.mk.injEq, List.cons.injEq, and_true] at hv
                      subst hv
                      exact Kd.N_typed hN4 g rfl
                    have hNy := hN wr3 l3 h4 hlen3 hFe jp y hjy
                    obtain ⟨A9, c9, kc9, -, -⟩ := hNy.k8
                    have hu := (blk_cell hgc _).symm.trans kc9
                    have hgs4 := blk_lt hgc
                    have hn4 : ∀ (V : World) (l' : List S61), FoO w0 V F l' → l'.length = l3.length → V.heap[F]? = wr3.heap[F]? → ∀ j x, l'[j]? = some x → NodeAt w0 V F l' j x g := fun V l' a b c => hN V l' a (b.trans hlen3) (c.trans hFe)
                    have hbase4 := h4.base
                    clear hn hjp hL hE hK hk8 hatp hN hmem hok hok2 hNy hFe hFo hy kc9 h3 hks3
                    go_wp2_with (first
                      | (refine gate_ (.makeSlice 29 (.tmp 103) (.tmp 103)) rfl ?_; refine Kd.R_make (Kd.int .i64) (w0 := wr3) wr3.heap.size 3 rfl (N := 104) rfl 29 (.tmp 103) (.tmp 103) rfl (ks.length : Int) rfl rfl Try.underlying29 (.int .i64 0) 8 info3 rfl (by decide) (by decide) (0 : Int) (ok := fun _ => True) (okp := fun _ => False) rfl (fun _ h => h.elim) trivial (by omega) (by rw [Int.toNat_natCast]; omega) (Below.refl _ _) (Nat.le_refl _) ?_; intro v1 w1 hR1 hB1 hg1 hat1; obtain ⟨A10, c10, e9, l9, -⟩ := Kd.R_reads hR1; rw [List.length_replicate, Int.toNat_natCast] at e9; subst e9; have hg1' := blk_below hgc hB1; have z1 := (blk_cell hg1' (jp * 9 + 8)).trans hu; have zf := blk_frozen hg1' (jp * 9 + 8); have hg2 := blk_put hg1' (jp * 9 + 8) (.slice A10 ks.length c10) rfl; have z2 := (blk_cell hg2 (jp * 9 + 8)).trans (Array.getElem?_setIfInBounds_self_of_lt (Array.getElem?_eq_some_iff.1 hu).1))
                      | (refine gate_builtin (b := .copy) (xs := #[.tmp 110, .tmp 111]) rfl ?_; refine Kd.R_copy (0 : Int) (w0 := w1.setCell ⟨g, jp * 9 + 8, none⟩ (.slice A10 ks.length c10)) wr3.heap.size rfl (.tmp 110) (.tmp 111) 29 29 3 rfl Try.underlying29 rfl (.slice A10 ks.length c10) (List.replicate (ks.length : Int).toNat 0) ks A2 ks.length c2 _ rfl rfl (Kd.R_far (p := ⟨g, jp * 9 + 8, none⟩) (Kd.R_tight rfl hR1) (fun k hk e => by have h1 := Kd.R_base hR1 k hk.symm; have h2 : k = g := e; omega) (.slice A10 ks.length c10)) (Kd.C_below hks (below_set_cell (below_then hbase4 hbase4.size hB1) hg0 _ _)) (Below.refl _ _) (Nat.le_trans hB1.size (Nat.le_of_eq (by simp))) ?_; intro w3 hR3 hB3 hg3))
                    go_ret
                    rw [List.length_replicate, Int.toNat_natCast, Nat.min_self, List.take_length, List.drop_replicate, Nat.sub_self, List.replicate_zero, List.append_nil] at hR3
                    refine ⟨_, rfl, ?_⟩
                    rw [H.out]
                    refine h4.setKids hjy hF4 hg0 hgs4 hgF hn4 hR3 (fun k hk hkg => ?_) hgc ((hB3.block g hgs4).trans hg2) ?_
                    · exact (hB3.block k hk).trans ((Below.heap_setCell w1 _ _ k hkg).trans (hB1.block k hk))
                    · exact (below_set_cell (below_then hbase4 hbase4.size hB1) hg0 _ _).trans (hB3.mono hbase4.size)
end Go.Proofs.Ytmjedjhgomlfiaa
