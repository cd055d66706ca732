/- The law PlaySilent holds: for every input the call returns true, and each argument reads behind the call as it read before. -/
import Derived.Test.YtgopddjmmoohdaaGreatDoorSl01
import Derived.Test.YtgopddjmmoohdaaGreatDoorSl24
import Derived.Test.YtgopddjmmoohdaaGreatDoorSl14
import Derived.Test.YtgopddjmmoohdaaGreatDoorRows
import Derived.Stop.LaidErr
import Derived.LaidSub
import Derived.Lib.LaidTab
import Derived.Test.YtgopddjmmoohdaaGreatDoorSl15
import Derived.ChangeOld
import Derived.ChangeAgain
import Derived.ShapedOpen
import Derived.Test.YtgopddjmmoohdaaGreatDoorProg
import Derived.ChangeAt2
import Derived.ShutString
import Derived.Lay
import Derived.LaidMore
import Derived.Stop.Joined
import Derived.SizedLaws
import Derived.SevenTiedAt
import Derived.Deep.Slices
import Derived.Deep.Fields
import Derived.OpenShut
import Derived.ProofKit
import Derived.Test.YtgopddjmmoohdaaGreatDoorSl02
import Derived.Test.YtgopddjmmoohdaaGreatDoorSl23
import Derived.Test.YtgopddjmmoohdaaGreatDoorCards
import Derived.Test.YtgopddjmmoohdaaGreatDoorTie
import Derived.ChangeMaps5
/- The law PlaySilent. -/
set_option linter.unusedSimpArgs false
set_option linter.unusedVariables false
set_option maxRecDepth 100000
set_option maxHeartbeats 3200000
namespace Go.Proofs.YtgopddjmmoohdaaGreatDoor
open Go.RowKit Go.Proofs.YtgopddjmmoohdaaGreatDoorW.PrintWords Go.Proofs.YtgopddjmmoohdaaGreatDoorW.PrintLast Go.Proofs.YtgopddjmmoohdaaGreatDoor.PPlaySilent

/-- A play in which nothing is sent. -/
theorem silent_run {calls : Nat} : ∀ (l : List S39) (s : Pl), (∀ x ∈ l, x.f0 ≠ 13) → s.out = false → 0 ≤ s.fuel →
    ∃ es : List S37, (runF SF0 calls 0 0 l s).tr = s.tr ++ es ∧ es.length = min l.length (s.fuel.toNat + 1) ∧ ∀ (i : Nat) (e : S37), es[i]? = some e → e.f0 = 0 ∧ e.f2 = 0 ∧ ∃ x, l[i]? = some x ∧ e.f9 = x.f0
  | [], s, _, _, _ => ⟨[], by simp [runF], by simp, fun i e h => by simp at h⟩
  | x :: l, s, hn, ho, hf => by
    by_cases h0 : s.fuel = 0
    · refine ⟨[opE x.f0 10 0 0], ?_, ?_, fun i e h => ?_⟩
      · show (l.foldl (opF SF0 calls 0 0) (opF SF0 calls 0 0 s x)).tr = _
        rw [show opF SF0 calls 0 0 s x = { s with tr := s.tr ++ [opE x.f0 10 0 0], out := true } from (if_neg (by rw [ho]; decide)).trans (if_pos h0), runF_out rfl]
      · simp [h0]
      · cases i with
        | zero => obtain rfl : opE x.f0 10 0 0 = e := Option.some.inj h; exact ⟨rfl, rfl, x, rfl, rfl⟩
        | succ i => simp at h
    · have hx : x.f0 ≠ 13 := hn x (List.mem_cons_self ..)
      have hs : opF SF0 calls 0 0 s x = ⟨(doW calls s.st x 0).1, s.fuel - 1, false, s.sent, s.tr ++ [opE x.f0 (doW calls s.st x 0).2.2 (doW calls s.st x 0).2.1 0]⟩ := by
        rw [show opF SF0 calls 0 0 s x = noteF (stepF SF0 calls 0 s x).1 (opE x.f0 (stepF SF0 calls 0 s x).2.2 (stepF SF0 calls 0 s x).2.1 0) from (if_neg (by rw [ho]; decide)).trans (if_neg h0)]
        rw [show stepF SF0 calls 0 s x = ({ s with fuel := s.fuel - 1, st := (doW calls s.st x 0).1 }, (doW calls s.st x 0).2.1, (doW calls s.st x 0).2.2) from if_neg hx]
        obtain ⟨st, fu, ou, se, tr⟩ := s
        obtain rfl : ou = false := ho
        rfl
      obtain ⟨es, h1, h2, h3⟩ := silent_run (calls := calls) l ⟨(doW calls s.st x 0).1, s.fuel - 1, false, s.sent, s.tr ++ [opE x.f0 (doW calls s.st x 0).2.2 (doW calls s.st x 0).2.1 0]⟩ (fun y hy => hn y (List.mem_cons_of_mem _ hy)) rfl (by show 0 ≤ s.fuel - 1; omega)
      refine ⟨opE x.f0 (doW calls s.st x 0).2.2 (doW calls s.st x 0).2.1 0 :: es, ?_, ?_, fun i e h => ?_⟩
      · show (l.foldl (opF SF0 calls 0 0) (opF SF0 calls 0 0 s x)).tr = _
        rw [hs]
        refine Eq.trans h1 ?_
        simp
      · rw [List.length_cons, List.length_cons, h2]
        dsimp only
        omega
      · cases i with
        | zero => obtain rfl := Option.some.inj h; exact ⟨rfl, rfl, x, rfl, rfl⟩
        | succ i => exact h3 i e h
/-- The operations that are none of sending. -/
def quietL (l : List S39) : List S39 := l.filter (fun x => decide (x.f0 ≠ 13))
theorem quietL_next {l : List S39} {j : Nat} {x : S39} (h : l[j]? = some x) : quietL (l.take (j + 1)) = if x.f0 = 13 then quietL (l.take j) else quietL (l.take j) ++ [x] := by
  unfold quietL
  rw [List.take_add_one, h, List.filter_append]
  by_cases h13 : x.f0 = 13 <;> simp [h13]
theorem quietL_le (l : List S39) : (quietL l).length ≤ l.length := List.length_filter_le _ _
theorem quietL_mem {l : List S39} : ∀ x ∈ quietL l, x.f0 ≠ 13 := fun x hx => by simpa using (List.mem_filter.1 hx).2
/-- What PlaySilent reads of a trace. -/
theorem silent_play (p : ProgV) (f : Int) (hn : ∀ x ∈ p.main, x.f0 ≠ 13) (hf : f ≤ 65536) : ((playF SF0 p f).tr.length : Int) = (if min (p.main.length : Int) (max f 0) < p.main.length then min (p.main.length : Int) (max f 0) + 1 else min (p.main.length : Int) (max f 0)) ∧
    ∀ (i : Nat) (e : S37), (playF SF0 p f).tr[i]? = some e → e.f0 = 0 ∧ e.f2 = 0 ∧ ∃ x, p.main[i]? = some x ∧ e.f9 = x.f0 := by
  obtain ⟨es, h1, h2, h3⟩ := silent_run (calls := p.calls.length) p.main (startPl f) hn rfl (startOk f).f0
  have h4 : (playF SF0 p f).tr = es := h1
  rw [h4]
  refine ⟨?_, h3⟩
  have h5 : (startPl f).fuel = max (min f 65536) 0 := rfl
  rw [h5] at h2
  split <;> omega
theorem silent_any (vm vc : Value) (p : ProgV) (f : Int) (w : World) (hO : LayO w) (h : ReadsP w vm vc p) (hb : p.calls.length ≤ 70 → countP p ≤ 9223372036854775807) :
    Calls Tryz.prog 4 #[.agg #[vm, vc], .int .i64 f] w fun e w' => e = .returned (.bool true) ∧ Below w.heap.size w w' := by
  have haw := fun W (hB : Below w.heap.size w W) => awake_any W (hO.below hB)
  have hsm := fun W (hB : Below w.heap.size w W) => rsmall_any vm vc p f W (h.below hB) hb
  obtain ⟨Am, cm, Ac, cc, rfl, rfl, hm, hc⟩ := h
  have hX0 := blk_new w (.cells #[.slice Am p.main.length cm, .slice Ac p.calls.length cc] 25)
  have hB0 : Below w.heap.size w (w.alloc (.cells #[.slice Am p.main.length cm, .slice Ac p.calls.length cc] 25)) := below_alloc (Below.refl _ _) _
  clear hb
  by_cases hs : p.calls.length ≤ 70 ∧ countP p ≤ 400 ∧ f ≤ 400
  · obtain ⟨h70, h400, hf4⟩ := hs
    have hbm : p.main.length ≤ 4294967296 := by have : p.main.length + sumL p.calls ≤ 400 := h400; omega
    have hbc : Hd (countP p ≤ 4294967296) := ⟨by omega⟩
    have hh4 := hd_ h400
    have hh7 := hd_ h70
    clear h400 h70
    go_enter Tryz.func4, Tryz.ntmps4
    go_wp2_with (first
      | (go_at_call 6; (with_reducible refine (haw _ hB0).mono ?_); rintro e w1 ⟨rfl, hB1⟩; have hC1 := below_then hB0 hB0.size hB1; have hX1 := blk_below hX0 hB1; have z0 := (blk_cell hX1 0).trans rfl; have z1 := (blk_cell hX1 1).trans rfl)
      | (go_at_call 7; (with_reducible refine (hsm _ hC1).mono ?_); rintro e w2 ⟨b, rfl, -, hB2⟩; have hC2 := below_then hC1 hC1.size hB2; have hX2 := blk_below hX1 hB2; have y0 := (blk_cell hX2 0).trans rfl; have y1 := (blk_cell hX2 1).trans rfl))
    · go_ret
      exact ⟨rfl, hC2⟩
    have hb5 : w.heap.size ≤ w2.heap.size := hC2.size
    have hX3 := blk_alloc hX2 (.cells #[.slice none 0 0, .slice Ac p.calls.length cc] 25)
    have hY3 := blk_new w2 (.cells #[.slice none 0 0, .slice Ac p.calls.length cc] 25)
    have hB3 := below_alloc hC2 (.cells #[.slice none 0 0, .slice Ac p.calls.length cc] 25)
    have hne : w.heap.size ≠ w2.heap.size := by have := blk_lt hX2; omega
    generalize w2.alloc (.cells #[.slice none 0 0, .slice Ac p.calls.length cc] 25) = w3 at *
    generalize w2.heap.size = b5 at *
    clear haw hsm hC1 hX1 z0 z1 hC2 hX2 y0 y1 hB2 hB1
    go_loopw [6] (fun i wr => ∃ (j : Nat) (v : Value), j ≤ p.main.length ∧ i = .int .i64 j ∧ Below w.heap.size w wr ∧ wr.heap[w.heap.size]? = some (.cells #[.slice Am p.main.length cm, .slice Ac p.calls.length cc] 25 (0, 0)) ∧ wr.heap[b5]? = some (.cells #[v, .slice Ac p.calls.length cc] 25 (0, 0)) ∧ k39.R 39 wr w.heap.size (fun _ => True) v (quietL (p.main.take j))) (fun i _ => p.main.length - (intOf i).toNat)
    case atStart => exact ⟨0, .slice none 0 0, Nat.zero_le _, rfl, hB3, hX3, hY3, Kd.R_nil _ _ _ _ _⟩
    case round =>
      obtain ⟨j, v, hj, rfl, hB, hX, hY, hR⟩ := hrel
      have z0 := (blk_cell hX 0).trans rfl
      by_cases hlt : j < p.main.length
      · obtain ⟨ad, x, rfl, HX, x0, x1, x2, x3, x4, x5⟩ := el_op (Kd.C_below hm hB) j hlt
        have HN := hd_ (quietL_next HX.out)
        have hyl := hd_ (quietL_le (p.main.take j))
        by_cases h13 : x.f0 = 13
        · have HN' := hd_ (HN.out.trans (if_pos h13))
          have q13 : (x.f0 != 13) = false := by simp [h13]
          replace hR := hd_ (HN'.out ▸ hR : k39.R 39 wr w.heap.size (fun _ => True) v (quietL (p.main.take (j + 1))))
          clear HN HN' h13 hm hc
          go_wp2
          go_roundw
          case rel => exact ⟨j + 1, v, by omega, by go_num, hB, hX, hY, hR.out⟩
          case measure => simp [intOf]; omega
        · have HN' := hd_ (HN.out.trans (if_neg h13))
          have q13 : (x.f0 != 13) = true := by simp [h13]
          have hyl2 := hd_ (by have := hyl.out; rw [List.length_take] at this; omega : (quietL (p.main.take j)).length ≤ 4294967296)
          clear HN h13 hm hc hyl
          replace hyl := hyl2
          clear hyl2
          generalize quietL (p.main.take j) = ys at *
          go_wp2
          refine start_ (n := 11) (S := (fun W_ => W_.heap[w.heap.size]? = some (.cells #[.slice (some ad) p.main.length cm, .slice Ac p.calls.length cc] 25 (0, 0)) ∧ W_.heap[b5]? = some (.cells #[v, .slice Ac p.calls.length cc] 25 (0, 0)) ∧ W_.cell? (ad.add (j * 6)) = some (.int .i64 x.f0) ∧ W_.cell? ⟨(ad.add (j * 6)).block, (ad.add (j * 6)).off + 1, none⟩ = some (.int .i64 x.f1) ∧ W_.cell? ⟨(ad.add (j * 6)).block, (ad.add (j * 6)).off + 2, none⟩ = some (.int .i64 x.f2) ∧ W_.cell? ⟨(ad.add (j * 6)).block, (ad.add (j * 6)).off + 3, none⟩ = some (.int .i64 x.f3) ∧ W_.cell? ⟨(ad.add (j * 6)).block, (ad.add (j * 6)).off + 4, none⟩ = some (.int .i64 x.f4) ∧ W_.cell? ⟨(ad.add (j * 6)).block, (ad.add (j * 6)).off + 5, none⟩ = some (.string x.f5))) (ds := [8, 10]) (bm 11 0) (by kernel_rfl) rfl (by kernel_rfl) ⟨hX, hY, x0, x1, x2, x3, x4, x5⟩ (fun hHeld => ?_)
          refine pu_ 0 (some 34) (bm 11 1) ?_
          refine ta_ 1 (some 35) (bm 11 3) hHeld (fun _ hSw => (blk_cell hSw.2.1 0).trans rfl) ?_
          refine pu_ 2 (some 36) (bm 11 7) ?_
          refine ta_ 3 (some 37) (bm 11 15) hHeld (fun _ hSw => (blk_cell hSw.1 0).trans rfl) ?_
          refine pu_ 4 (some 38) (bm 11 31) ?_
          refine pu_ 5 (some 39) (bm 11 63) ?_
          refine tb_ 6 (some 40) (bm 11 127) hHeld ?_ (hy := by intro w' hSw; obtain ⟨-, -, z0, z1, z2, z3, z4, z5⟩ := hSw; go_simp; with_reducible rfl)
          refine one_ (i := 7) (N := (some 41)) (bm 11 255) rfl rfl (by kernel_rfl) (by decide) (fun K hK => ?_)
          refine value_ (w1 := wr.drew.alloc (.cells #[.int .i64 x.f0, .int .i64 x.f1, .int .i64 x.f2, .int .i64 x.f3, .int .i64 x.f4, .string x.f5] 39)) (v := .slice (some ⟨wr.drew.heap.size, 0, none⟩) 1 1) (by rfl) rfl ?_ ?_
          · go_simp
          refine hK.out _ _ ⟨alloc_at hHeld.1 _, alloc_at hHeld.2.1 _, cell_alloc_at hHeld.2.2.1 _, cell_alloc_at hHeld.2.2.2.1 _, cell_alloc_at hHeld.2.2.2.2.1 _, cell_alloc_at hHeld.2.2.2.2.2.1 _, cell_alloc_at hHeld.2.2.2.2.2.2.1 _, cell_alloc_at hHeld.2.2.2.2.2.2.2 _⟩ (fun hHeld7 => ?_)
          clear hK K
          refine norm_ (a' := ?_) ?_ ?_
          rotate_left
          · show Act.put _ (some 41) _ = _
            simp only [Act.put, List.setIfInBounds_toArray, List.set_cons_zero, List.set_cons_succ]
            rfl
          refine last_ (i := 8) (N := (some 42)) (bm 11 511) rfl rfl (by kernel_rfl) (by decide) (fun K hK => ?_)
          refine Kd.R_append_step k39 (w0 := w) w.heap.size (by rfl) (.tmp 35) (.tmp 41) 22 39 (.agg #[.int .i64 0, .int .i64 0, .int .i64 0, .int .i64 0, .int .i64 0, .string ⟨#[]⟩]) 56 rfl Tryz.underlying22 info39 rfl (by decide) (by decide) v ys x [.int .i64 x.f0, .int .i64 x.f1, .int .i64 x.f2, .int .i64 x.f3, .int .i64 x.f4, .string x.f5] (fun _ => True) (fun _ => False) rfl rfl (k39_mkM _ _ _ x) (fun _ hk => hk.elim) (fun _ _ => trivial) (Kd.R_below hR (below_drew (Below.refl _ _))) (below_drew hB) (below_drew hB).size (by have := hyl.out; omega) ?_
          intro v1 w1 hR1 hB1 hg1 hat1
          have hY1 := blk_grown (show wr.drew.heap[b5]? = _ from hHeld.2.1) hg1 (Kd.R_ne hR hY (by decide))
          have hX1 := blk_grown (show wr.drew.heap[w.heap.size]? = _ from hHeld.1) hg1 (Kd.R_ne hR hX (by decide))
          obtain ⟨A1, c1, rfl⟩ := Kd.R_slice hR1
          refine hK.out _ _ ?_
          clear hK K
          refine norm_ (a' := ?_) ?_ ?_
          rotate_left
          · show Act.put _ (some 42) _ = _
            simp only [Act.put, List.setIfInBounds_toArray, List.set_cons_zero, List.set_cons_succ]
            rfl
          refine pu_ 9 (some 43) (bm 11 1023) ?_
          refine last_ (i := 10) (N := none) (bm 11 2047) rfl rfl (by kernel_rfl) (by decide) (fun K hK => ?_)
          refine skip_ (w1 := w1.setCell ⟨b5, 0, none⟩ (.slice A1 (ys ++ [x]).length c1)) (by rfl) rfl ?_ ?_
          · have z6 : w1.cell? ⟨b5, 0, none⟩ = some v := (blk_cell hY1 0).trans rfl
            have f6 := blk_frozen hY1 0
            go_simp
          refine hK.out _ _ ?_
          clear hK K
          refine done_ (by kernel_rfl) ?_
          go_wp2
          go_roundw
          case rel => exact ⟨j + 1, _, by omega, by go_num, hB1.setCell hb5 _, blk_far hX1 (by simpa using hne) _, blk_put hY1 0 _ rfl, by rw [HN'.out]; simpa using Kd.R_set hR1 hY1 (by decide) 0 (.slice A1 (ys ++ [x]).length c1)⟩
          case measure => simp [intOf]; omega
      · have HP := hd_ (show p.main.take j = p.main from List.take_of_length_le (by omega))
        rw [HP.out] at hR
        obtain ⟨Aq, cq, rfl, -, hQ⟩ := Kd.R_reads hR
        have hlq := quietL_le p.main
        have hrun := playsilent_any (.slice Aq (quietL p.main).length cq) (.slice Ac p.calls.length cc) ⟨quietL p.main, p.calls⟩ f wr (hO.below hB) ⟨Aq, cq, Ac, cc, rfl, rfl, hQ, Kd.C_below hc hB⟩ (by have e : p.main.length + sumL p.calls ≤ 4294967296 := hbc.out; show (quietL p.main).length + sumL p.calls ≤ 4294967296; omega) quietL_mem
        have hsp := silent_play ⟨quietL p.main, p.calls⟩ f quietL_mem (by omega)
        dsimp only at hrun hsp
        have y0 := (blk_cell hY 0).trans rfl
        have y1 := (blk_cell hY 1).trans rfl
        clear hm hc HP hO
        generalize quietL p.main = q at *
        obtain ⟨ck, hck⟩ : ∃ ck, ck = checkC ⟨q, p.calls⟩ := ⟨_, rfl⟩
        rw [← hck] at hrun
        by_cases hq : ck = 0
        · have hrun' := hrun.mono (fun e w' hh => (⟨hh.1, hh.2.2 hq⟩ : _ ∧ _))
          clear hrun hck
          generalize (playF SF0 ⟨q, p.calls⟩ f).tr = tr at *
          obtain ⟨hl1, hl2⟩ := hsp
          by_cases hmin : min (q.length : Int) (max f 0) < q.length
          · rw [if_pos hmin] at hl1
            have q71 : ((tr.length : Int) != min (q.length : Int) (max f 0) + 1) = false := by simp [hl1]
            replace hl1 := hd_ hl1
            go_wp2_with (go_at_call 8; (with_reducible refine hrun'.mono ?_); rintro e w4 ⟨hB4, A4, c4, _, _, _, _, Wb4, _, _, _, rfl, hT4, -, -⟩; have hC4 := below_then hB hB.size hB4; have hY4 := blk_below hY hB4; have u0 := (blk_cell hY4 0).trans rfl; have u1 := (blk_cell hY4 1).trans rfl)
            clear hrun'
            go_loopw [10] (fun v wr' => ∃ (k : Nat), k ≤ tr.length ∧ v = .int .i64 k ∧ Below w.heap.size w wr' ∧ Below w4.heap.size w4 wr') (fun v _ => tr.length - (intOf v).toNat)
            case atStart => exact ⟨0, Nat.zero_le _, rfl, hC4, Below.refl _ _⟩
            case round =>
              obtain ⟨k, hk, rfl, hBr, hB4r⟩ := hrel
              by_cases hlk : k < tr.length
              · obtain ⟨ae, e, rfl, HE, e0, e2, e16, -⟩ := el_37 (Kd.C_below hT4 hB4r) k hlk
                obtain ⟨h0, h2, x, hx, h9⟩ := hl2 k e HE.out
                have hkq : k < q.length := (List.getElem?_eq_some_iff.1 hx).1
                obtain ⟨aq, y, rfl, HY, x0, -, -, -, -, -⟩ := el_op (Kd.C_below (Kd.C_below hQ hB4) hB4r) k hkq
                obtain rfl : x = y := Option.some.inj (hx.symm.trans HY.out)
                rw [h0] at e0
                rw [h2] at e2
                rw [h9] at e16
                have hYr := blk_below hY4 hB4r
                clear h0 h2 hx h9 HE HY hl2
                go_wp2
                refine start_ (n := 28) (S := (fun W_ => W_.cell? (ae.add (k * 19)) = some (.int .i64 0) ∧ W_.cell? ⟨(ae.add (k * 19)).block, (ae.add (k * 19)).off + 2, none⟩ = some (.int .i64 0) ∧ W_.cell? ⟨(ae.add (k * 19)).block, (ae.add (k * 19)).off + 16, none⟩ = some (.int .i64 x.f0) ∧ W_.heap[b5]? = some (.cells #[.slice (some aq) q.length cq, .slice Ac p.calls.length cc] 25 (0, 0)) ∧ W_.cell? (aq.add (k * 6)) = some (.int .i64 x.f0))) (ds := []) (bm 28 0) (by kernel_rfl) rfl (by kernel_rfl) ⟨e0, e2, e16, hYr, x0⟩ (fun hHeld => ?_)
                refine pu_ 0 (some 78) (bm 28 1) ?_
                refine pu_ 1 (some 79) (bm 28 3) ?_
                refine pu_ 2 (some 80) (bm 28 7) ?_
                refine pu_ 3 (some 81) (bm 28 15) ?_
                refine ta_ 4 (some 82) (bm 28 31) hHeld (fun _ hSw => hSw.1) ?_
                refine pu_ 5 (some 83) (bm 28 63) ?_
                refine pu_ 6 (some 84) (bm 28 127) ?_
                refine pu_ 7 (some 85) (bm 28 255) ?_
                refine pu_ 8 (some 86) (bm 28 511) ?_
                refine pu_ 9 (some 87) (bm 28 1023) ?_
                refine pu_ 10 (some 88) (bm 28 2047) ?_
                refine ta_ 11 (some 89) (bm 28 4095) hHeld (fun _ hSw => hSw.2.1) ?_
                refine pu_ 12 (some 90) (bm 28 8191) ?_
                refine pu_ 13 (some 91) (bm 28 16383) ?_
                refine pu_ 14 (some 92) (bm 28 32767) ?_
                refine pu_ 15 (some 93) (bm 28 65535) ?_
                refine pu_ 16 (some 94) (bm 28 131071) ?_
                refine pu_ 17 (some 95) (bm 28 262143) ?_
                refine pu_ 18 (some 96) (bm 28 524287) ?_
                refine ta_ 19 (some 97) (bm 28 1048575) hHeld (fun _ hSw => hSw.2.2.1) ?_
                refine pu_ 20 (some 98) (bm 28 2097151) ?_
                refine ta_ 21 (some 99) (bm 28 4194303) hHeld (fun _ hSw => (blk_cell hSw.2.2.2.1 0).trans rfl) ?_
                refine pu_ 22 (some 100) (bm 28 8388607) ?_
                refine pu_ 23 (some 101) (bm 28 16777215) ?_
                refine pu_ 24 (some 102) (bm 28 33554431) ?_
                refine ta_ 25 (some 103) (bm 28 67108863) hHeld (fun _ hSw => hSw.2.2.2.2) ?_
                refine pu_ 26 (some 104) (bm 28 134217727) ?_
                refine pu_ 27 (some 105) (bm 28 268435455) ?_
                refine done_ (by kernel_rfl) ?_
                go_wp2
                go_roundw
                case rel => exact ⟨k + 1, by omega, by go_num, below_drew hBr, below_drew hB4r⟩
                case measure => first | (simp [intOf]; done) | (simp [intOf]; omega)
              · go_wp2
                go_ret
                exact ⟨rfl, hBr⟩
          · rw [if_neg hmin] at hl1
            have q71 : ((tr.length : Int) != min (q.length : Int) (max f 0)) = false := by simp [hl1]
            replace hl1 := hd_ hl1
            go_wp2_with (go_at_call 8; (with_reducible refine hrun'.mono ?_); rintro e w4 ⟨hB4, A4, c4, _, _, _, _, Wb4, _, _, _, rfl, hT4, -, -⟩; have hC4 := below_then hB hB.size hB4; have hY4 := blk_below hY hB4; have u0 := (blk_cell hY4 0).trans rfl; have u1 := (blk_cell hY4 1).trans rfl)
            clear hrun'
            go_loopw [10] (fun v wr' => ∃ (k : Nat), k ≤ tr.length ∧ v = .int .i64 k ∧ Below w.heap.size w wr' ∧ Below w4.heap.size w4 wr') (fun v _ => tr.length - (intOf v).toNat)
            case atStart => exact ⟨0, Nat.zero_le _, rfl, hC4, Below.refl _ _⟩
            case round =>
              obtain ⟨k, hk, rfl, hBr, hB4r⟩ := hrel
              by_cases hlk : k < tr.length
              · obtain ⟨ae, e, rfl, HE, e0, e2, e16, -⟩ := el_37 (Kd.C_below hT4 hB4r) k hlk
                obtain ⟨h0, h2, x, hx, h9⟩ := hl2 k e HE.out
                have hkq : k < q.length := (List.getElem?_eq_some_iff.1 hx).1
                obtain ⟨aq, y, rfl, HY, x0, -, -, -, -, -⟩ := el_op (Kd.C_below (Kd.C_below hQ hB4) hB4r) k hkq
                obtain rfl : x = y := Option.some.inj (hx.symm.trans HY.out)
                rw [h0] at e0
                rw [h2] at e2
                rw [h9] at e16
                have hYr := blk_below hY4 hB4r
                clear h0 h2 hx h9 HE HY hl2
                go_wp2
                refine start_ (n := 28) (S := (fun W_ => W_.cell? (ae.add (k * 19)) = some (.int .i64 0) ∧ W_.cell? ⟨(ae.add (k * 19)).block, (ae.add (k * 19)).off + 2, none⟩ = some (.int .i64 0) ∧ W_.cell? ⟨(ae.add (k * 19)).block, (ae.add (k * 19)).off + 16, none⟩ = some (.int .i64 x.f0) ∧ W_.heap[b5]? = some (.cells #[.slice (some aq) q.length cq, .slice Ac p.calls.length cc] 25 (0, 0)) ∧ W_.cell? (aq.add (k * 6)) = some (.int .i64 x.f0))) (ds := []) (bm 28 0) (by kernel_rfl) rfl (by kernel_rfl) ⟨e0, e2, e16, hYr, x0⟩ (fun hHeld => ?_)
                refine pu_ 0 (some 78) (bm 28 1) ?_
                refine pu_ 1 (some 79) (bm 28 3) ?_
                refine pu_ 2 (some 80) (bm 28 7) ?_
                refine pu_ 3 (some 81) (bm 28 15) ?_
                refine ta_ 4 (some 82) (bm 28 31) hHeld (fun _ hSw => hSw.1) ?_
                refine pu_ 5 (some 83) (bm 28 63) ?_
                refine pu_ 6 (some 84) (bm 28 127) ?_
                refine pu_ 7 (some 85) (bm 28 255) ?_
                refine pu_ 8 (some 86) (bm 28 511) ?_
                refine pu_ 9 (some 87) (bm 28 1023) ?_
                refine pu_ 10 (some 88) (bm 28 2047) ?_
                refine ta_ 11 (some 89) (bm 28 4095) hHeld (fun _ hSw => hSw.2.1) ?_
                refine pu_ 12 (some 90) (bm 28 8191) ?_
                refine pu_ 13 (some 91) (bm 28 16383) ?_
                refine pu_ 14 (some 92) (bm 28 32767) ?_
                refine pu_ 15 (some 93) (bm 28 65535) ?_
                refine pu_ 16 (some 94) (bm 28 131071) ?_
                refine pu_ 17 (some 95) (bm 28 262143) ?_
                refine pu_ 18 (some 96) (bm 28 524287) ?_
                refine ta_ 19 (some 97) (bm 28 1048575) hHeld (fun _ hSw => hSw.2.2.1) ?_
                refine pu_ 20 (some 98) (bm 28 2097151) ?_
                refine ta_ 21 (some 99) (bm 28 4194303) hHeld (fun _ hSw => (blk_cell hSw.2.2.2.1 0).trans rfl) ?_
                refine pu_ 22 (some 100) (bm 28 8388607) ?_
                refine pu_ 23 (some 101) (bm 28 16777215) ?_
                refine pu_ 24 (some 102) (bm 28 33554431) ?_
                refine ta_ 25 (some 103) (bm 28 67108863) hHeld (fun _ hSw => hSw.2.2.2.2) ?_
                refine pu_ 26 (some 104) (bm 28 134217727) ?_
                refine pu_ 27 (some 105) (bm 28 268435455) ?_
                refine done_ (by kernel_rfl) ?_
                go_wp2
                go_roundw
                case rel => exact ⟨k + 1, by omega, by go_num, below_drew hBr, below_drew hB4r⟩
                case measure => first | (simp [intOf]; done) | (simp [intOf]; omega)
              · go_wp2
                go_ret
                exact ⟨rfl, hBr⟩
        · have hrun' := hrun.mono (fun e w' hh => (⟨hh.1, hh.2.1 hq⟩ : _ ∧ _))
          clear hrun hsp hck hq
          go_wp2_with (go_at_call 8; (with_reducible refine hrun'.mono ?_); rintro e w4 ⟨hB4, A4, c4, rfl, -⟩; have hC4 := below_then hB hB.size hB4)
          go_ret
          exact ⟨rfl, hC4⟩
  · have hsm' := fun W hB => (hsm W hB).mono (fun e w' hh => (by obtain ⟨b, h1, h2, h3⟩ := hh; cases b with | true => exact absurd (h2 rfl) hs | false => exact ⟨h1, h3⟩ : e = .returned (.bool false) ∧ Below W.heap.size W w'))
    clear hsm hs hm hc
    go_enter Tryz.func4, Tryz.ntmps4
    go_wp2_with (first
      | (go_at_call 6; (with_reducible refine (haw _ hB0).mono ?_); rintro e w1 ⟨rfl, hB1⟩; have hC1 := below_then hB0 hB0.size hB1; have hX1 := blk_below hX0 hB1; have z0 := (blk_cell hX1 0).trans rfl; have z1 := (blk_cell hX1 1).trans rfl)
      | (go_at_call 7; (with_reducible refine (hsm' _ hC1).mono ?_); rintro e w2 ⟨rfl, hB2⟩; have hC2 := below_then hC1 hC1.size hB2))
    go_ret
    exact ⟨rfl, hC2⟩
end Go.Proofs.YtgopddjmmoohdaaGreatDoor

/- What the listed variables lay. -/
namespace Go.Proofs.YtgopddjmmoohdaaGreatDoor
open Go.RowKit Go.Lib

theorem cells9' : Tryz.prog.cellsOf 9 = 1 := by kernel_rfl
/-- An array that reads as these data holds these values. -/
theorem cells_of_row {α : Type} {H : Type} {enc : TypeId × Value → H} {P : Program} {w : World} {base : Nat} {sp : Nat → Bool} {held : Bool} {fuel : Nat} {t e : TypeId} {n : Nat} {cs : List Value} {zs : List α} {p : List MemPlace} (f : α → Value) (g : α → DataW H)
    (ht : P.underlying t = some (.array n e)) (hce : P.cellsOf e = 1) (hct : P.cellsOf t = n)
    (hel : ∀ (fuel : Nat) (cs : List Value) (x : DataW H × List MemPlace) (z : α), DataW.trod enc P w base sp held fuel e cs = some x → x.1 = g z → cs = [f z])
    (h : DataW.trod enc P w base sp held fuel t cs = some (.agg (zs.map g), p)) : cs = zs.map f := by
  cases fuel with
  | zero => simp [DataW.trod] at h
  | succ fuel =>
    simp only [DataW.trod, ht, hce, hct, Nat.mul_one] at h
    split at h
    · rename_i hl
      obtain ⟨xs, hm, hx⟩ := Option.map_eq_some_iff.1 h
      have hxs : xs.map (·.1) = zs.map g := by
        have := congrArg Prod.fst hx
        simpa using this
      have hxl : xs.length = n := by simpa using mapM_length hm
      have hzl : zs.length = n := by
        have := congrArg List.length hxs
        simp at this
        omega
      apply List.ext_getElem?
      intro i
      by_cases hi : i < n
      · obtain ⟨b, hb, hf⟩ := mapM_at hm i i (by simp [hi])
        have hz : zs[i]? = some (zs[i]'(by omega)) := List.getElem?_eq_getElem (by omega)
        have h2 : (xs.map (·.1))[i]? = some b.1 := by simp [hb]
        rw [hxs, List.getElem?_map, hz] at h2
        have hc := hel _ _ _ _ hf (Option.some.inj h2).symm
        have h1 : cs[i]? = some (f (zs[i]'(by omega))) := by
          have := congrArg (·[0]?) hc
          simpa [List.getElem?_take, List.getElem?_drop] using this
        rw [h1, List.getElem?_map, hz]; rfl
      · rw [List.getElem?_eq_none (by omega), List.getElem?_eq_none (by simp; omega)]
    · cases h
theorem var_of_head {α : Type} {P : Program} {W : World} {name : String} {zs : List α} {rest : List (String × DataW Unit)} {k : Nat} {t e : TypeId} {n : Nat} (f : α → Value) (g : α → DataW Unit)
    (hg : P.globalNamed name = some k) (hty : (P.globals[k]?).map (·.type) = some t) (ht : P.underlying t = some (.array n e)) (hce : P.cellsOf e = 1) (hct : P.cellsOf t = n)
    (hel : ∀ (enc : TypeId × Value → Unit) (w : World) (base : Nat) (sp : Nat → Bool) (held : Bool) (fuel : Nat) (cs : List Value) (x : DataW Unit × List MemPlace) (z : α), DataW.trod enc P w base sp held fuel e cs = some x → x.1 = g z → cs = [f z])
    (h : laidMet P ((name, .agg (zs.map g)) :: rest) W) : W.var? P name = some (zs.map f).toArray := by
  obtain ⟨ps, ⟨g', t', cs, fuel, p, q, hg', ht', hvar, hd, _, _⟩, _⟩ := h
  obtain rfl := Option.some.inj (hg.symm.trans hg')
  obtain rfl := Option.some.inj (hty.symm.trans ht')
  rw [hvar, ← cells_of_row f g ht hce hct (hel _ _ _ _ _) hd]

theorem tNames : (Tryz.prog.globals[0]?).map (·.type) = some 88 := by kernel_rfl
theorem tNumbers : (Tryz.prog.globals[2]?).map (·.type) = some 124 := by kernel_rfl
theorem tWorded : (Tryz.prog.globals[1]?).map (·.type) = some 123 := by kernel_rfl
theorem cells3' : Tryz.prog.cellsOf 3 = 1 := by kernel_rfl
theorem cells4' : Tryz.prog.cellsOf 4 = 1 := by kernel_rfl
theorem namesData : (Rows.laid_towncrier_op_names : DataW Unit) = .agg (opNames.map fun x => .lit (.string x.data.toList)) := by kernel_rfl
theorem numbersData : (Rows.laid_towncrier_op_numbers : DataW Unit) = .agg (opNumbers.map fun x => .lit (.int .i64 x)) := by kernel_rfl
theorem wordedData : (Rows.laid_towncrier_op_worded : DataW Unit) = .agg (opWorded.map fun x => .lit (.bool x)) := by kernel_rfl

theorem names_of_laid {l : List (String × DataW Unit)} {W : World} (h : laidMet Tryz.prog l W)
    (h1 : l.filter (fun x => x.1 == "towncrier/op.names") = [("towncrier/op.names", Rows.laid_towncrier_op_names)]) : W.var? Tryz.prog "towncrier/op.names" = some (opNames.map Value.string).toArray := by
  have k1 := h.filter (fun x => x.1 == "towncrier/op.names")
  rw [h1, namesData] at k1
  refine var_of_head Value.string _ gNames tNames Tryz.underlying88 cells9' (by kernel_rfl) ?_ k1
  intro enc w base sp held fuel cs x z hx hz
  obtain ⟨s, hs, hx2, _⟩ := DataW.trod_string Tryz.underlying9 hx
  subst hx2
  have : s.data.toList = z.data.toList := by simpa using hz
  obtain rfl : s = z := ByteArray.ext (Array.toList_inj.1 this)
  exact hs
theorem layO_of_laid {l : List (String × DataW Unit)} {W : World} (h : laidMet Tryz.prog l W)
    (h4 : l.filter (fun x => x.1 == "towncrier/op.names") = [("towncrier/op.names", Rows.laid_towncrier_op_names)])
    (h5 : l.filter (fun x => x.1 == "towncrier/op.numbers") = [("towncrier/op.numbers", Rows.laid_towncrier_op_numbers)])
    (h6 : l.filter (fun x => x.1 == "towncrier/op.worded") = [("towncrier/op.worded", Rows.laid_towncrier_op_worded)]) : LayO W := by
  refine ⟨names_of_laid h h4, ?_, ?_⟩
  · have k1 := h.filter (fun x => x.1 == "towncrier/op.numbers")
    rw [h5, numbersData] at k1
    refine var_of_head (Value.int .i64) _ gNumbers tNumbers Tryz.underlying124 cells3' (by kernel_rfl) ?_ k1
    intro enc w base sp held fuel cs x z hx hz
    obtain ⟨n, hn, hx2, _⟩ := DataW.trod_int Tryz.underlying3 hx
    subst hx2
    obtain rfl : n = z := by simpa using hz
    exact hn
  · have k1 := h.filter (fun x => x.1 == "towncrier/op.worded")
    rw [h6, wordedData] at k1
    refine var_of_head Value.bool _ gWorded tWorded Tryz.underlying123 cells4' (by kernel_rfl) ?_ k1
    intro enc w base sp held fuel cs x z hx hz
    obtain ⟨b, hb, hx2⟩ := DataW.trod_bool Tryz.underlying4 hx
    subst hx2
    obtain rfl : b = z := by simpa using hz
    exact hb
end Go.Proofs.YtgopddjmmoohdaaGreatDoor

/- The frame of a row with listed variables. -/
namespace Go.Proofs.YtgopddjmmoohdaaGreatDoor
open Go.ChangeShapes Go.WideShapes Go.ChangeAt Go.RowKit

/-- The wrap of a row that lists variables, the world's shape handed on. -/
theorem inHanded_sa {H : Type} {enc : TypeId × Value → H} {a : Assume} {C : Checked} {os : Os} {f : FuncId} {fn : Func} {s : ChangeSpec} {conds : List PathCond} {apart fresh handsOn again : Bool} {X : World → Array Value → Prop}
    (hX : ∀ (w w' : World) (args : Array Value), w.heap = w'.heap → X w args → X w' args)
    (own : ownKnob C.prog.godebug = none) (started : os.Started) (noInit : C.prog.inits.idxOf? f = none) (hfn : C.prog.funcs[f]? = some fn)
    (witness : ∃ (w : World) (tape : Tape) (i : Input), w.os = os ∧ (w.forCall tape i).Shaped C.prog ∧ i.vars = [] ∧ Input.okWide C.prog (w.forCall tape i) .any w.heap.size f i ∧
      ((s.pre enc C.prog fn conds apart (w.forCall tape i).memory i.args ∧ X (w.forCall tape i).memory i.args) ∧ sizedMet enc C.prog fn (OpenSpec.ofChange s) apart (w.forCall tape i).memory i.args) ∧ a.holds C.prog (lone (Frame.enter C.prog f i.args .normal) [] (w.forCall tape i)))
    (contract : ∀ (W : World) (base : Nat) (args : Array Value) (ds gs : List (DataW H)) (before : List MemPlace),
      (∀ (j : Nat) t v, fn.params[j]? = some t → args[j]? = some v → Value.okWide C.prog W .any base t v) →
      DataW.Whole enc C.prog fn.params.toList s.vars apart W args.toList ds gs before →
      conds.all (PathCond.test C.prog ⟨fn.params.toList, ds, s.plain.varTypes C.prog, gs⟩) = true →
      (DataW.weightsEach C.prog (fn.params.toList ++ s.plain.varTypes C.prog) (ds ++ gs)).all (· ≤ reachBytes) = true → X W args → W.ShapedOpen C.prog →
      Calls C.prog f args W fun e W' => ∃ v, e = .returned v ∧ s.post enc C.prog fn apart fresh handsOn again W args v W') :
    ReturnsInHanded a C os f .any (fun w args => (s.pre enc C.prog fn conds apart w args ∧ X w args) ∧ sizedMet enc C.prog fn (OpenSpec.ofChange s) apart w args) (s.post enc C.prog fn apart fresh handsOn again) := by
  refine returnsInHanded_of_calls own started noInit witness ?_
  intro w tape i _ hsh _ hok hpre _
  obtain ⟨_, _, _, fn', hfn', _, _, _, _, hval⟩ := hok
  have e : fn' = fn := Option.some.inj (hfn'.symm.trans hfn)
  subst e
  obtain ⟨⟨⟨ds, gs, before, hw, hc⟩, hx⟩, hz⟩ := hpre
  have hw' := DataW.Whole.of_heap (w' := w.forCall tape i) (by rfl) hw
  refine (contract (w.forCall tape i) w.heap.size i.args ds gs before hval hw' hc (hz.weights hw) (hX _ _ _ (by rfl) hx) hsh).mono fun e W' ⟨v, he, hp⟩ => ?_
  subst he
  exact ChangeSpec.post_blind hp

theorem ownK : ownKnob Tryz.prog.godebug = none := by kernel_rfl
theorem laidOutK : laidOutB Tryz.prog = true := by kernel_rfl
end Go.Proofs.YtgopddjmmoohdaaGreatDoor

/- What an argument reads as: from the reader's own data down to the kinds of the printed words. -/
namespace Go.Proofs.YtgopddjmmoohdaaGreatDoor
open Go.RowKit Go.ChangeShapes Go.WideShapes Go.Deep Go.Proofs.YtgopddjmmoohdaaGreatDoorW.PrintWords

/-- Whatever can be read at the type t is of the kind k, and has the property I. -/
def Opens {α : Type} (P : Program) (t : TypeId) (k : Kd α) (I : α → Prop) : Prop :=
  ∀ (H : Type) (enc : TypeId × Value → H) (w : World) (base : Nat) (spare : Nat → Bool) (held : Bool) (fuel : Nat) (cs : List Value) (x : DataW H × List MemPlace),
    DataW.trod enc P w base spare held fuel t cs = some x → ∃ v, k.K w v cs ∧ I v

section
variable {P : Program} {t e : TypeId} {α β : Type}
theorem opens_int {k : IntKind} (ht : P.underlying t = some (.int k)) : Opens P t (Kd.int k) (fun n => (Lit.int k n).wf = true) := by
  intro H enc w base spare held fuel cs x h
  obtain ⟨n, rfl, _, hw⟩ := DataW.trod_int ht h
  exact ⟨n, rfl, hw⟩
theorem opens_string (ht : P.underlying t = some .string) : Opens P t Kd.string (fun s => s.size ≤ maxLen) := by
  intro H enc w base spare held fuel cs x h
  obtain ⟨s, rfl, _, hs⟩ := DataW.trod_string ht h
  exact ⟨s, rfl, hs⟩
theorem opens_imp {k : Kd α} {I J : α → Prop} (h : Opens P t k I) (hI : ∀ x, I x → J x) : Opens P t k J := by
  intro H enc w base spare held fuel cs x hx
  obtain ⟨v, hv, hi⟩ := h H enc w base spare held fuel cs x hx
  exact ⟨v, hv, hI v hi⟩

theorem choose_below {n : Nat} {p : Nat → α → Prop} (h : ∀ i, i < n → ∃ x, p i x) : ∃ xs : List α, xs.length = n ∧ ∀ i x, xs[i]? = some x → p i x := by
  induction n with
  | zero => exact ⟨[], rfl, fun i x hx => by simp at hx⟩
  | succ n ih =>
    obtain ⟨xs, hl, hx⟩ := ih (fun i hi => h i (by omega))
    obtain ⟨y, hy⟩ := h n (by omega)
    refine ⟨xs ++ [y], by simp [hl], fun i x hi => ?_⟩
    rcases Nat.lt_or_ge i xs.length with hlt | hge
    · rw [List.getElem?_append_left hlt] at hi
      exact hx i x hi
    · rw [List.getElem?_append_right hge] at hi
      have h0 : i - xs.length = 0 := by
        rcases Nat.eq_zero_or_pos (i - xs.length) with h0 | h0
        · exact h0
        · rw [List.getElem?_eq_none (by simp; omega)] at hi
          cases hi
      rw [h0] at hi
      have he : y = x := by simpa using hi
      subst he
      have : i = n := by omega
      subst this
      exact hy

/-- The fields of a struct from a place on: `start` is the first one's offset, `total` how many cells they have. -/
def FieldsOpen (P : Program) (fs : List Field) (start total : Nat) (k : Kd β) (I : β → Prop) : Prop :=
  ∀ (H : Type) (enc : TypeId × Value → H) (w : World) (base : Nat) (spare : Nat → Bool) (held : Bool) (n : Nat) (cs : List Value), cs.length = total →
    (∀ (i : Nat) (f : Field), fs[i]? = some f → ∃ x, DataW.trod enc P w base spare held n f.type ((cs.drop (f.offset - start)).take (P.cellsOf f.type)) = some x ∧ start ≤ f.offset) → ∃ v, k.K w v cs ∧ I v
theorem fields_one {f : Field} {k : Kd α} {I : α → Prop} {start total : Nat} (h : Opens P f.type k I) (hs : f.offset = start) (ht : P.cellsOf f.type = total) : FieldsOpen P [f] start total k I := by
  intro H enc w base spare held n cs hl hf
  obtain ⟨x, hx, _⟩ := hf 0 f rfl
  rw [hs, Nat.sub_self, List.drop_zero, ht, List.take_of_length_le (by omega)] at hx
  exact h H enc w base spare held n cs x hx
theorem fields_cons {f : Field} {fs : List Field} {k : Kd α} {k' : Kd β} {I : α → Prop} {J : β → Prop} {start c total : Nat} (h : Opens P f.type k I) (hs : f.offset = start) (hc : P.cellsOf f.type = c) (hf : FieldsOpen P fs (start + c) total k' J)
    (ho : ∀ g ∈ fs, start + c ≤ g.offset) : FieldsOpen P (f :: fs) start (c + total) (Kd.pair k k') (fun p => I p.1 ∧ J p.2) := by
  intro H enc w base spare held n cs hl hx
  obtain ⟨x, h0, _⟩ := hx 0 f rfl
  rw [hs, Nat.sub_self, List.drop_zero, hc] at h0
  obtain ⟨v, hv, hI⟩ := h H enc w base spare held n _ x h0
  obtain ⟨v', hv', hJ⟩ := hf H enc w base spare held n (cs.drop c) (by rw [List.length_drop]; omega) (fun i g hg => by
    obtain ⟨y, hy, _⟩ := hx (i + 1) g (by simpa using hg)
    have hle := ho g (List.mem_of_getElem? hg)
    refine ⟨y, ?_, hle⟩
    rw [List.drop_drop, show c + (g.offset - (start + c)) = g.offset - start from by omega]
    exact hy)
  exact ⟨(v, v'), ⟨cs.take c, cs.drop c, (List.take_append_drop c cs).symm, hv, hv'⟩, hI, hJ⟩
theorem opens_struct {fs : Array Field} {k : Kd β} {I : β → Prop} {total : Nat} (ht : P.underlying t = some (.struct fs)) (hc : P.cellsOf t = total) (hf : FieldsOpen P fs.toList 0 total k I) (f : α → β) (g : β → α) (hfg : ∀ v, f (g v) = v) :
    Opens P t (Kd.iso k f) (fun x => I (f x)) := by
  intro H enc w base spare held fuel cs x hx
  obtain ⟨xs, n, _, _, hlen, hl, hi⟩ := DataW.trod_struct ht hx
  obtain ⟨v, hv, hI⟩ := hf H enc w base spare held n cs (by rw [hlen, hc]) (fun i fd hfd => by
    have hfd' : fs[i]? = some fd := by simpa using hfd
    have h1 := hi i fd hfd'
    have hlt : i < xs.length := by rw [hl]; exact (Array.getElem?_eq_some_iff.1 hfd').1
    rw [List.getElem?_eq_getElem hlt] at h1
    exact ⟨_, h1, Nat.zero_le _⟩)
  refine ⟨g v, ?_, ?_⟩
  · show k.K w (f (g v)) cs
    rw [hfg]
    exact hv
  · show I (f (g v))
    rw [hfg]
    exact hI
end
end Go.Proofs.YtgopddjmmoohdaaGreatDoor

/- A program as an argument, opened: what it reads as, and how long its slices are at most. -/
namespace Go.Proofs.YtgopddjmmoohdaaGreatDoor
open Go.RowKit Go.ChangeShapes Go.WideShapes Go.Deep Go.Proofs.YtgopddjmmoohdaaGreatDoorW.PrintWords Go.Proofs.YtgopddjmmoohdaaGreatDoor.PPlaySilent

/-- None of the strings, slices and maps of a datum is greater than the form's reach. -/
def Light {H : Type} (P : Program) (t : TypeId) (d : DataW H) : Prop := (d.weights P t).all (· ≤ reachBytes) = true
def OpensW {α : Type} (P : Program) (t : TypeId) (k : Kd α) (I : α → Prop) : Prop :=
  ∀ (H : Type) (enc : TypeId × Value → H) (w : World) (base : Nat) (spare : Nat → Bool) (held : Bool) (fuel : Nat) (cs : List Value) (x : DataW H × List MemPlace),
    DataW.trod enc P w base spare held fuel t cs = some x → Light P t x.1 → ∃ v, k.K w v cs ∧ I v
theorem OpensW.of {α : Type} {P : Program} {t : TypeId} {k : Kd α} {I : α → Prop} (h : Opens P t k I) : OpensW P t k I := fun H enc w base spare held fuel cs x hx _ => h H enc w base spare held fuel cs x hx
theorem light_all {H : Type} {P : Program} {e : TypeId} : ∀ {l : List (DataW H)}, (DataW.weightsAll P e l).all (· ≤ reachBytes) = true → ∀ d ∈ l, Light P e d
  | [], _, d, hd => by cases hd
  | a :: r, h, d, hd => by
    rw [DataW.weightsAll, List.all_append, Bool.and_eq_true] at h
    rcases List.mem_cons.1 hd with e1 | hd
    · subst e1; exact h.1
    · exact light_all h.2 d hd
theorem light_slice {H : Type} {P : Program} {t e : TypeId} (ht : P.underlying t = some (.slice e)) {l s : List (DataW H)} (h : Light P t (.slice l s)) : (l.length + s.length) * P.bytesOf e ≤ reachBytes ∧ ∀ d ∈ l, Light P e d := by
  rw [Light, DataW.weights, ht] at h
  simp only [List.all_cons, List.all_append, Bool.and_eq_true, decide_eq_true_eq] at h
  exact ⟨h.1, light_all h.2.1⟩
theorem opens_sliceW {α : Type} {P : Program} {t e : TypeId} {d : Kd α} {I : α → Prop} (ht : P.underlying t = some (.slice e)) (hc : P.cellsOf e = d.sz) (hb : 0 < P.bytesOf e) (h : OpensW P e d I) :
    OpensW P t (Kd.slice e d) (fun xs => xs.length ≤ reachBytes ∧ ∀ (i : Nat) (x : α), xs[i]? = some x → I x) := by
  intro H enc w base spare held fuel cs x hx hw
  rcases open_slice ht hx with ⟨rfl, _⟩ | ⟨a, len, cap, m, n, D, Pl, rfl, hbb, hl, hcap, hmm, rfl, hi⟩
  · refine ⟨[], ⟨none, 0, rfl, Nat.le_refl _, ⟨rfl, by simp, fun h => absurd h (by simp)⟩⟩, Nat.zero_le _, fun i x hx => by simp at hx⟩
  · have hlm : len ≤ m := by rw [hmm]; split <;> omega
    obtain ⟨hwl, hwd⟩ := light_slice ht hw
    obtain ⟨xs, hlen, hxs⟩ := choose_below (α := α) (n := len) (p := fun i v => I v ∧ ∃ c, c.length = d.sz ∧ d.K w v c ∧ ∀ j u, c[j]? = some u → w.cell? (a.add (i * d.sz + j)) = some u) (fun i hil => by
      obtain ⟨cs', h1, h2⟩ := hi i (by omega)
      obtain ⟨v, hv, hI⟩ := h H enc w base spare held n cs' _ h2 (hwd _ (List.mem_map.2 ⟨i, List.mem_range.2 hil, rfl⟩))
      obtain ⟨_, hlc, hcell⟩ := World.cells?_some h1
      refine ⟨v, hI, cs', by rw [hlc, hc], hv, fun j u hu => ?_⟩
      have hj : j < P.cellsOf e := by rw [← hlc]; exact (List.getElem?_eq_some_iff.1 hu).1
      have := hcell j hj
      rw [Go.Deep.add_add, hc, hu] at this
      exact this)
    unfold maxLen at hcap
    have hll : len ≤ reachBytes := by
      rw [List.length_map, List.length_range] at hwl
      refine Nat.le_trans ?_ hwl
      exact Nat.le_trans (Nat.le_add_right len _) (Nat.le_mul_of_pos_right _ hb)
    refine ⟨xs, ⟨some a, cap, by rw [hlen], by omega, ⟨rfl, by omega, fun _ => ⟨a, rfl, fun j p hp => ?_⟩⟩⟩, by rw [hlen]; exact hll, fun i v hv => (hxs i v hv).1⟩
    obtain ⟨_, c, h1, h2, h3⟩ := hxs j p hp
    exact ⟨c, h1, h2, h3⟩
theorem cells3P : Tryz.prog.cellsOf 3 = 1 := by kernel_rfl
theorem cells9P : Tryz.prog.cellsOf 9 = 1 := by kernel_rfl
theorem cells39P : Tryz.prog.cellsOf 39 = 6 := by kernel_rfl
theorem cells57P : Tryz.prog.cellsOf 22 = 1 := by kernel_rfl
theorem cells60P : Tryz.prog.cellsOf 25 = 2 := by kernel_rfl
theorem bytes39P : 0 < Tryz.prog.bytesOf 39 := of_decide_eq_true (by kernel_rfl)
theorem bytes57P : 0 < Tryz.prog.bytesOf 22 := of_decide_eq_true (by kernel_rfl)
def S39.tup (x : S39) : Int × Int × Int × Int × Int × ByteArray := (x.f0, x.f1, x.f2, x.f3, x.f4, x.f5)
def S39.ofTup (t : Int × Int × Int × Int × Int × ByteArray) : S39 := ⟨t.1, t.2.1, t.2.2.1, t.2.2.2.1, t.2.2.2.2.1, t.2.2.2.2.2⟩
theorem fields_consT {α β : Type} {P : Program} {f : Field} {fs : List Field} {k : Kd α} {k' : Kd β} (start total : Nat) (h : Opens P f.type k (fun _ => True)) (hs : f.offset = start) (hc : P.cellsOf f.type = 1) (hf : FieldsOpen P fs (start + 1) total k' (fun _ => True))
    (ho : ∀ g ∈ fs, start + 1 ≤ g.offset) : FieldsOpen P (f :: fs) start (1 + total) (Kd.pair k k') (fun _ => True) := by
  intro H enc w base spare held n cs hl hx
  obtain ⟨v, hv, _⟩ := fields_cons h hs hc hf ho H enc w base spare held n cs hl hx
  exact ⟨v, hv, trivial⟩
set_option maxRecDepth 100000 in
theorem opens_k39 : Opens Tryz.prog 39 k39 (fun _ => True) := by
  have oi : Opens Tryz.prog 3 (Kd.int .i64) (fun _ => True) := opens_imp (opens_int Tryz.underlying3) (fun _ _ => trivial)
  have os : Opens Tryz.prog 9 Kd.string (fun _ => True) := opens_imp (opens_string Tryz.underlying9) (fun _ _ => trivial)
  refine opens_imp (opens_struct (I := fun _ => True) Tryz.underlying39 cells39P ?_ S39.tup S39.ofTup (fun _ => rfl)) (fun _ h => h)
  refine fields_consT 0 5 oi rfl cells3P ?_ (by simp)
  refine fields_consT 1 4 oi rfl cells3P ?_ (by simp)
  refine fields_consT 2 3 oi rfl cells3P ?_ (by simp)
  refine fields_consT 3 2 oi rfl cells3P ?_ (by simp)
  refine fields_consT 4 1 oi rfl cells3P ?_ (by simp)
  exact fields_one os rfl cells9P
theorem opens_ops : OpensW Tryz.prog 22 (Kd.slice 39 k39) (fun xs => xs.length ≤ reachBytes) := fun H enc w base spare held fuel cs x hx hw => by
  obtain ⟨v, hv, h, _⟩ := opens_sliceW Tryz.underlying22 cells39P bytes39P (OpensW.of opens_k39) H enc w base spare held fuel cs x hx hw
  exact ⟨v, hv, h⟩
theorem opens_calls : OpensW Tryz.prog 23 (Kd.slice 22 (Kd.slice 39 k39)) (fun xs => xs.length ≤ reachBytes ∧ ∀ (i : Nat) (x : List S39), xs[i]? = some x → x.length ≤ reachBytes) := opens_sliceW Tryz.underlying23 cells57P bytes57P opens_ops
set_option maxRecDepth 100000 in
theorem prog_of_trod {H : Type} {enc : TypeId × Value → H} {w : World} {base : Nat} {spare : Nat → Bool} {held : Bool} {fuel : Nat} {cs : List Value} {x : DataW H × List MemPlace} (h : DataW.trod enc Tryz.prog w base spare held fuel 25 cs = some x) (hw : Light Tryz.prog 25 x.1) :
    ∃ (p : ProgV) (vm vc : Value), cs = [vm, vc] ∧ ReadsP w vm vc p ∧ p.main.length ≤ 140737488355328 ∧ ∀ l ∈ p.calls, l.length ≤ 140737488355328 := by
  obtain ⟨xs, n, _, hxe, hlen, hl, hi⟩ := DataW.trod_struct Tryz.underlying25 h
  rw [cells60P] at hlen
  match cs, hlen with
  | [vm, vc], _ =>
    match xs, hl with
    | [y, z], _ =>
      have h0 := hi 0 _ rfl
      have h1 := hi 1 _ rfl
      have hw2 : (DataW.weightsEach Tryz.prog [22, 23] [y.1, z.1]).all (· ≤ reachBytes) = true := by
        rw [hxe, Light, DataW.weights, Tryz.underlying25] at hw
        exact hw
      rw [DataW.weightsEach, DataW.weightsEach, List.all_append, List.all_append, Bool.and_eq_true, Bool.and_eq_true] at hw2
      obtain ⟨m, hm, hml⟩ := opens_ops H enc w base spare held n [vm] y h0 hw2.1
      obtain ⟨cl, hc, hcl, hcx⟩ := opens_calls H enc w base spare held n [vc] z h1 hw2.2.1
      obtain ⟨A, c, e1, hle1, hC1⟩ := hm
      obtain ⟨B, d, e2, hle2, hC2⟩ := hc
      have hr : reachBytes ≤ 140737488355328 := by decide
      injection e1 with e1 _
      injection e2 with e2 _
      refine ⟨⟨m, cl⟩, vm, vc, rfl, ⟨A, c, B, d, e1, e2, hC1, hC2⟩, Nat.le_trans hml hr, fun l hl => ?_⟩
      obtain ⟨k, hk⟩ := List.getElem?_of_mem hl
      exact Nat.le_trans (hcx k l hk) hr
theorem light_head {H : Type} {P : Program} {t : TypeId} {ts : List TypeId} {d : DataW H} {r : List (DataW H)} (h : (DataW.weightsEach P (t :: ts) (d :: r)).all (· ≤ reachBytes) = true) : Light P t d := by
  rw [DataW.weightsEach, List.all_append, Bool.and_eq_true] at h
  exact h.1
end Go.Proofs.YtgopddjmmoohdaaGreatDoor

/- The law PlaySilent holds: for every input the call returns true, and each argument reads behind the call as it read before. -/
namespace Go.Proofs.YtgopddjmmoohdaaGreatDoor
open Go.ChangeShapes Go.WideShapes Go.ChangeAt Go.RowKit Go.Proofs.YtgopddjmmoohdaaGreatDoorW.PrintWords Go.Proofs.YtgopddjmmoohdaaGreatDoor.PPlaySilent

theorem count_small {p : ProgV} (hm : p.main.length ≤ 140737488355328) (hc : ∀ l ∈ p.calls, l.length ≤ 140737488355328) (h : p.calls.length ≤ 70) : countP p ≤ 9223372036854775807 := by
  have hs : ∀ (ls : List (List S39)), (∀ l ∈ ls, l.length ≤ 140737488355328) → sumL ls ≤ ls.length * 140737488355328 := fun ls => by
    induction ls with
    | nil => intro _; exact Nat.le_refl _
    | cons a r ih =>
      intro hl
      have h1 := hl a (List.mem_cons_self ..)
      have h2 := ih (fun l hl' => hl l (List.mem_cons_of_mem _ hl'))
      rw [show sumL (a :: r) = a.length + sumL r from by simp [sumL], List.length_cons, Nat.succ_mul]
      omega
  have h3 := hs _ hc
  have h4 : p.calls.length * 140737488355328 ≤ 70 * 140737488355328 := Nat.mul_le_mul_right _ h
  show p.main.length + sumL p.calls ≤ _
  omega
set_option maxRecDepth 100000 in
theorem silent_lifted (os : Os) (started : os.Started) (H : Type) (enc : TypeId × Value → H) :
    ReturnsInHanded {} Tryz.checked os 4 .any (fun w args => (Rows.playSilentSpec.pre enc Tryz.prog Tryz.f4 Rows.playSilentRow.domain false w args ∧ laidMetH Tryz.prog Rows.playSilentRow.laid w) ∧ sizedMet enc Tryz.prog Tryz.f4 (OpenSpec.ofChange Rows.playSilentSpec) false w args)
      (Rows.playSilentSpec.post enc Tryz.prog Tryz.f4 false true false false) := by
  refine inHanded_sa (C := Tryz.checked) (X := fun w _ => laidMetH Tryz.prog Rows.playSilentRow.laid w) (fun _ _ _ hh h => h.of_heap hh) ownK started (by kernel_rfl) Tryz.func4
    (ChangeSpec.witness_shaped (enc := enc) (C := Tryz.checked) (os := os) (X := fun w _ => laidMetH Tryz.prog Rows.playSilentRow.laid w) false (World.laidAll Tryz.prog os Rows.playSilentRow.laid) #[.agg #[.slice none 0 0, .slice none 0 0], .int .i64 0] 8 (World.laidAll_os _ _ _)
      (World.shaped_of_ZipB (by kernel_rfl) (by kernel_rfl)) (by kernel_rfl) (by kernel_rfl) (by kernel_rfl)
      (by rw [MakeChecks.laidMetH_plain _ _ _ (by kernel_rfl)]; exact laidMet_laidAll _ (by kernel_rfl) (by kernel_rfl))) ?_
  intro W base args ds gs before hval0 hW hcnd hwt hL _hsh0
  have hval : ∀ (j : Nat) t v, Tryz.f4.params[j]? = some t → args[j]? = some v → Value.okWide Tryz.prog W .any base t v := hval0
  have hW' := hW
  obtain ⟨p, q, hA0, hV, rfl, hfz, hnd⟩ := hW
  have hA : DataW.TrodAll enc Tryz.prog W 0 (fun _ => true) true Tryz.f4.params.toList args.toList ds p := hA0
  rw [Tryz.params4] at hA hval hwt
  obtain ⟨v0, vs0, d0, ds0, p0, q0, hargs, rfl, rfl, h0, r0⟩ := trodAll_cons hA
  obtain ⟨v1, vs1, d1, ds1, p1, q1, rfl, rfl, rfl, h1, r1⟩ := trodAll_cons r0
  obtain ⟨rfl, rfl, rfl⟩ := trodAll_nil r1
  obtain rfl : args = #[v0, v1] := by cases args; simp_all
  obtain ⟨rfl, rfl⟩ := trodVars_none hV
  have k0 := h0
  have lt0 : ∀ x ∈ p0, x.block < W.heap.size := by obtain ⟨m, hm⟩ := k0; exact DataW.trod_lt m _ _ _ hm
  obtain ⟨cs0, rfl, _⟩ := okWide_struct Tryz.underlying25 (hval 0 25 v0 rfl rfl)
  obtain ⟨n1, rfl, rfl, rfl, wx1⟩ := open_int Tryz.underlying3 (hval 1 3 v1 rfl rfl) h1
  obtain ⟨f0, hf0⟩ := h0
  obtain ⟨x0, vm0, vc0, hx0, hR0, hm0, hc0⟩ := prog_of_trod hf0 (light_head hwt)
  obtain rfl : cs0 = #[vm0, vc0] := Array.toList_inj.1 hx0
  clear hA0 hval0
  have hLay : LayO W := by
    rw [MakeChecks.laidMetH_plain _ _ _ (by kernel_rfl)] at hL
    exact layO_of_laid hL rfl rfl rfl
  refine (silent_any vm0 vc0 x0 n1 W hLay hR0 (count_small hm0 hc0)).mono fun e W' ⟨he, bel⟩ => ?_
  subst he
  exact ⟨_, rfl, _, _, _, [], _, [], hW', trodAll_mk1 (shut_bool Tryz.underlying4 _), (trodAll_cons_mk (Below.trod laidOutK (by kernel_rfl) (of_decide_eq_true (by kernel_rfl)) k0 bel lt0) (trodAll_cons_mk (shut_int Tryz.underlying3 wx1) trodAll_mk0)), rfl, bel.frame _, fun h => by cases h⟩

theorem silent_over : Rows.PlaySilentSaid :=
  OpenClaim.holds_of_wide 4 Tryz.f4 rfl rfl rfl rfl rfl rfl rfl ⟨rfl, rfl, rfl, rfl, rfl⟩ rfl rfl rfl rfl rfl (by kernel_rfl) Tryz.func4 (by kernel_rfl)
    (of_decide_eq_true (by kernel_rfl)) (by unfold Func.isWrapper; first | (rw [if_pos (by decide +kernel)]; kernel_rfl) | (rw [if_neg (by decide +kernel)]; exact ⟨rfl, rfl⟩))
    (fun os started H enc _ => silent_lifted os started H enc)

/-- The statement. -/
theorem silent_proved : Rows.PlaySilentCardSaid :=
  Claim7.holds_tied_plain_at .later [] [.data, .data, .data] true _ false silent_over (fun _ h => by cases h) (by kernel_rfl) (fun _ h => by cases h) playSilent_row_tie rfl ⟨rfl, rfl⟩ (by kernel_rfl) rfl
    (fun f fn hf hfn => by
      obtain rfl : f = 4 := Option.some.inj ((show Tryz.prog.funcNamed "towncrier/towncrierlaw23.PlaySilent" = some 4 by kernel_rfl).symm.trans hf) |>.symm
      obtain rfl : fn = Tryz.f4 := (Option.some.inj (Tryz.func4.symm.trans hfn)).symm
      exact ⟨by kernel_rfl, fun j t ht => by
        rw [Tryz.params4] at ht
        have hm : t ∈ [25, 3] := by simpa using Array.mem_of_getElem? ht
        have hall : ([25, 3].all fun u => !Tryz.prog.wantsStandIn u) = true := by kernel_rfl
        exact (show Tryz.prog.wantsStandIn t = false by simpa using List.all_eq_true.1 hall t hm)⟩)
    (by kernel_rfl)
#print axioms silent_proved
end Go.Proofs.YtgopddjmmoohdaaGreatDoor
