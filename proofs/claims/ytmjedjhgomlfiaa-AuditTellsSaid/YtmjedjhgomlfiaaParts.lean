/- The Go function towncrierlaw25.AuditParts answers true at every input, and writes nothing that was there. -/
import Derived.Test.YtmjedjhgomlfiaaWithin
namespace Go.Proofs.Ytmjedjhgomlfiaa
open Go.RowKit Go.Proofs.YtmjedjhgomlfiaaW.PrintWords

theorem pairs_of_cells {w : World} {ad : Addr} {xs : List (Int × Int)} (hl : xs.length ≤ 9223372036854775807)
    (h : ∀ j x, xs[j]? = some x → w.cell? (ad.add (j * 2)) = some (.int .i64 x.1) ∧ w.cell? (ad.add (j * 2 + 1)) = some (.int .i64 x.2)) : kPair.C w (some ad) xs.length xs := by
  refine ⟨rfl, hl, fun _ => ⟨ad, rfl, fun j p hp => ?_⟩⟩
  obtain ⟨h0, h1⟩ := h j p hp
  refine ⟨[.int .i64 p.1, .int .i64 p.2], rfl, ⟨[.int .i64 p.1], [.int .i64 p.2], rfl, rfl, rfl⟩, fun i u hu => ?_⟩
  match i, hu with
  | 0, hu => simp at hu; subst hu; exact h0
  | 1, hu => simp at hu; subst hu; exact h1
  | i + 2, hu => simp at hu

theorem awake_any (w : World) : Calls Try.prog 6 #[] w fun e w' => e = .returned (.bool true) ∧ Below w.heap.size w w' := by
  have h1 : kPair.C ((w.alloc (.cells #[.int .i64 1, .int .i64 1] 24)).alloc (.cells #[.int .i64 2, .int .i64 2, .int .i64 1, .int .i64 1] 24)) (some ⟨w.heap.size, 0, none⟩) [((1 : Int), (1 : Int))].length [(1, 1)] := by
    refine pairs_of_cells (by decide) fun j x hx => ?_
    match j, hx with
    | 0, hx => simp at hx; subst hx; simp [Addr.add]
    | j + 1, hx => simp at hx
  have h2 : kPair.C ((w.alloc (.cells #[.int .i64 1, .int .i64 1] 24)).alloc (.cells #[.int .i64 2, .int .i64 2, .int .i64 1, .int .i64 1] 24)) (some ⟨w.heap.size + 1, 0, none⟩) [((2 : Int), (2 : Int)), (1, 1)].length [(2, 2), (1, 1)] := by
    refine pairs_of_cells (by decide) fun j x hx => ?_
    match j, hx with
    | 0, hx => simp at hx; subst hx; simp [Addr.add]
    | 1, hx => simp at hx; subst hx; simp [Addr.add]
    | j + 2, hx => simp at hx
  have hc := within_any [(1, 1)] [(2, 2), (1, 1)] _ _ 1 2 _ h1 h2 (by decide) (by decide) (by decide)
  rw [show within [(1, 1)] [(2, 2), (1, 1)] = true from by decide] at hc
  have HC := hide_ hc
  clear hc h1 h2
  go_enter Try.func6, Try.ntmps6
  go_wp2_with fail
  refine (HC.out).mono ?_
  rintro e w' ⟨rfl, hB⟩
  go_wp2
  go_ret
  exact ⟨rfl, below_then ((below_alloc (below_alloc (Below.refl _ _) _) _)) (by simp; omega) hB⟩

/-- What the law puts together in i rounds. -/
def cAt (a b : List (Int × Int)) (k : Int) : Nat → List (Int × Int)
  | 0 => []
  | i + 1 => cAt a b k i ++ ([a.getD i (0, 0)] ++ (if (i : Int) % k = 0 ∧ i < b.length then [b.getD i (0, 0)] else []))
theorem cAt_length (a b : List (Int × Int)) (k : Int) (i : Nat) : (cAt a b k i).length ≤ 2 * i := by
  induction i with
  | zero => simp [cAt]
  | succ i ih => simp only [cAt, List.length_append, List.length_singleton]; split <;> simp <;> omega

theorem cAt_both {a b : List (Int × Int)} {m : Int} {k : Nat} {x y : Int × Int} (hx : a[k]? = some x) (hy : b[k]? = some y) (hm : (k : Int) % m = 0) : cAt a b m (k + 1) = cAt a b m k ++ [x] ++ [y] := by
  have hb : k < b.length := (List.getElem?_eq_some_iff.1 hy).1
  rw [cAt, if_pos ⟨hm, hb⟩, List.getD_eq_getElem?_getD, List.getD_eq_getElem?_getD, hx, hy]
  simp
theorem cAt_one {a b : List (Int × Int)} {m : Int} {k : Nat} {x : Int × Int} (hx : a[k]? = some x) (h : ¬((k : Int) % m = 0 ∧ k < b.length)) : cAt a b m (k + 1) = cAt a b m k ++ [x] := by
  rw [cAt, if_neg h, List.getD_eq_getElem?_getD, hx]
  simp
theorem wstep_sub {a c : List (Int × Int)} {x : Int × Int} (h : a.Sublist (x :: c)) : (wstep a x).Sublist c := by
  cases a with
  | nil => exact List.nil_sublist _
  | cons y r =>
    simp only [wstep]
    split
    · rename_i e
      subst e
      exact (List.cons_sublist_cons.1 h)
    · rename_i e
      cases h with
      | cons _ h => exact h
      | cons_cons _ h => exact absurd rfl e
theorem fold_sub {a c : List (Int × Int)} (h : a.Sublist c) : c.foldl wstep a = [] := by
  induction c generalizing a with
  | nil => simpa using h
  | cons x c ih => exact ih (wstep_sub h)
theorem within_sub {a c : List (Int × Int)} (h : a.Sublist c) : within a c = true := by rw [within, fold_sub h]; rfl
theorem wstep_len (a : List (Int × Int)) (x : Int × Int) : a.length ≤ (wstep a x).length + 1 := by
  cases a with
  | nil => simp
  | cons y r => simp only [wstep]; split <;> simp
theorem fold_len (a c : List (Int × Int)) : a.length ≤ (c.foldl wstep a).length + c.length := by
  induction c generalizing a with
  | nil => simp
  | cons x c ih =>
    have h1 := wstep_len a x
    have h2 := ih (wstep a x)
    simp only [List.foldl_cons, List.length_cons]
    omega
theorem not_within {a c : List (Int × Int)} (h : c.length < a.length) : within a c = false := by
  have h1 := fold_len a c
  rw [within]
  cases hc : c.foldl wstep a with
  | nil => rw [hc] at h1; simp at h1; omega
  | cons _ _ => rfl
theorem sub_cAt (a b : List (Int × Int)) (m : Int) (k : Nat) (hk : k ≤ a.length) : (a.take k).Sublist (cAt a b m k) := by
  induction k with
  | zero => simp
  | succ k ih =>
    have h := ih (by omega)
    rw [List.take_add_one, cAt, List.getD_eq_getElem?_getD, List.getElem?_eq_getElem (by omega)]
    refine List.Sublist.append h ?_
    simp
theorem info24 : (Try.prog.info? 24).map (fun i => (i.zero, i.size, i.bytes)) = some (some (.agg #[.int .i64 0, .int .i64 0]), 2, 16) := by kernel_rfl
theorem kPair_M {w : World} {base : Nat} {ok : Nat → Prop} (x y : Int) : kPair.M w base ok (x, y) [.int .i64 x, .int .i64 y] := ⟨[.int .i64 x], [.int .i64 y], rfl, rfl, rfl⟩

set_option maxRecDepth 100000 in
set_option maxHeartbeats 1000000 in
theorem parts_any (a b : List (Int × Int)) (A B : Option Addr) (c d : Nat) (e : Int) (w : World) (ha : kPair.C w A a.length a) (hb : kPair.C w B b.length b) (hac : a.length ≤ c) (he0 : 0 ≤ e) (he1 : e ≤ 255) :
    Calls Try.prog 3 #[.slice A a.length c, .slice B b.length d, .int .u8 e] w fun e w' => e = .returned (.bool true) ∧ Below w.heap.size w w' := by
  by_cases hs : a.length ≤ 100 ∧ b.length ≤ 100
  · obtain ⟨ha1, hb1⟩ := hs
    go_enter Try.func3, Try.ntmps3
    go_wp2_with (go_at_call 6; refine (awake_any _).mono ?_; rintro e w1 ⟨rfl, hB1⟩)
    go_loopw [7, 9] (fun v i wr => ∃ (k : Nat) (v0 : Value), k ≤ a.length ∧ i = .int .i64 k ∧ v0 = v ∧ kPair.R 24 wr w.heap.size (fun _ => True) v0 (cAt a b (1 + e % 5) k) ∧ Below w.heap.size w wr)
      (fun _ i _ => a.length - (intOf i).toNat)
    case atStart => exact ⟨0, _, Nat.zero_le _, rfl, rfl, Kd.R_nil _ _ _ _ _, hB1⟩
    case round =>
      obtain ⟨k, v, hk, rfl, rfl, hR, hB⟩ := hrel
      by_cases hlt : k < a.length
      · obtain ⟨ad, x, y, rfl, HX, hc0, hc1⟩ := pair_at (Kd.C_below ha hB) k hlt
        have hcl := cAt_length a b (1 + e % 5) k
        by_cases hm : (k : Int) % (1 + e % 5) = 0
        · have hmb : ((k : Int) % (1 + e % 5) == 0) = true := by simpa using hm
          have HM := hide_ hm
          clear hm
          by_cases hkb : k < b.length
          · obtain ⟨bd, x', y', rfl, HX', hc2, hc3⟩ := pair_at hb k hkb
            have HC3 := hide_ hc3
            have HC2 := hide_ hc2
            clear hc2 hc3
            go_wp2_with (first
              | (at_builtin; refine Kd.R_append kPair (w0 := w) w.heap.size rfl (.tmp 30) (.tmp 35) 22 24 _ 16 rfl Try.underlying22 info24 rfl (by decide) (by decide) v _ (x, y) _ (fun _ => True) (fun j => True ∧ some j ≠ v.ownBlock) rfl rfl (kPair_M x y) (fun _ h => h) (fun _ _ => trivial) hR hB hB.size (by omega) ?_; intro v1 w2 hR1 hB2 hg2 hat2; clear hg2 hat2 hR hc0 hc1; have hc2 := pw_cell_below hB2 HC2.out; have hc3 := pw_cell_below hB2 HC3.out)
              | (at_builtin; refine Kd.R_append kPair (w0 := w) w.heap.size rfl (.tmp 47) (.tmp 52) 22 24 _ 16 rfl Try.underlying22 info24 rfl (by decide) (by decide) v1 _ (x', y') _ (fun _ => True) (fun j => True ∧ some j ≠ v1.ownBlock) rfl rfl (kPair_M x' y') (fun _ h => h) (fun _ _ => trivial) hR1 hB2 hB2.size (by simp; omega) ?_; intro v2 w3 hR2 hB3 hg3 hat3; clear hg3 hat3 hR1 hc2 hc3))
            go_roundw
            case rel => exact ⟨k + 1, v2, by omega, by go_num, rfl, by rw [cAt_both HX.out HX'.out HM.out]; exact hR2, hB3⟩
            case measure => simp [intOf]; omega
          · go_wp2_with (first
              | (at_builtin; refine Kd.R_append kPair (w0 := w) w.heap.size rfl (.tmp 30) (.tmp 35) 22 24 _ 16 rfl Try.underlying22 info24 rfl (by decide) (by decide) v _ (x, y) _ (fun _ => True) (fun j => True ∧ some j ≠ v.ownBlock) rfl rfl (kPair_M x y) (fun _ h => h) (fun _ _ => trivial) hR hB hB.size (by omega) ?_; intro v1 w2 hR1 hB2 hg2 hat2; clear hg2 hat2 hR hc0 hc1))
            go_roundw
            case rel => exact ⟨k + 1, v1, by omega, by go_num, rfl, by rw [cAt_one HX.out (fun h => hkb h.2)]; exact hR1, hB2⟩
            case measure => simp [intOf]; omega
        · have hmb : ((k : Int) % (1 + e % 5) == 0) = false := by simpa using hm
          have HM := hide_ hm
          clear hm
          go_wp2_with (first
              | (at_builtin; refine Kd.R_append kPair (w0 := w) w.heap.size rfl (.tmp 30) (.tmp 35) 22 24 _ 16 rfl Try.underlying22 info24 rfl (by decide) (by decide) v _ (x, y) _ (fun _ => True) (fun j => True ∧ some j ≠ v.ownBlock) rfl rfl (kPair_M x y) (fun _ h => h) (fun _ _ => trivial) hR hB hB.size (by omega) ?_; intro v1 w2 hR1 hB2 hg2 hat2; clear hg2 hat2 hR hc0 hc1))
          go_roundw
          case rel => exact ⟨k + 1, v1, by omega, by go_num, rfl, by rw [cAt_one HX.out (fun h => HM.out h.1)]; exact hR1, hB2⟩
          case measure => simp [intOf]; omega
      · have hke : k = a.length := by omega
        obtain ⟨A', c', rfl, hcl', hC⟩ := Kd.R_reads hR
        have hcl := cAt_length a b (1 + e % 5) k
        have hsub := sub_cAt a b (1 + e % 5) k hk
        rw [List.take_of_length_le (by omega)] at hsub
        have HW := hide_ (within_sub hsub)
        generalize cAt a b (1 + e % 5) k = cs at *
        subst hke
        clear hsub hR
        go_wp2_with fail
        refine (within_any a a A A c c _ (Kd.C_below ha hB) (Kd.C_below ha hB) hac (by omega) (by omega)).mono ?_
        rintro e2 w2 ⟨rfl, hB2⟩
        rw [within_sub (List.Sublist.refl a)]
        have hB2' := below_then hB hB.size hB2
        go_wp2_with fail
        refine (within_any a cs A A' c c' _ (Kd.C_below ha hB2') (Kd.C_below hC hB2) hac (by omega) (by omega)).mono ?_
        rintro e3 w3 ⟨rfl, hB3⟩
        rw [HW.out]
        have hB3' := below_then hB2' hB2'.size hB3
        go_wp2_with fail
        refine (within_any [] a none A 0 c _ ⟨rfl, by simp, fun h => absurd h (by simp)⟩ (Kd.C_below ha hB3') (by simp) (by omega) (by simp)).mono ?_
        rintro e4 w4 ⟨rfl, hB4⟩
        rw [within_sub (List.nil_sublist a)]
        have hB4' := below_then hB3' hB3'.size hB4
        by_cases h0 : a.length = 0
        · go_wp2_with fail
          go_ret
          exact ⟨rfl, hB4'⟩
        · have hT := Kd.C_drop (c := c) ha (m := 1) (by omega) hac
          have hI := Kd.C_take ha (m := a.length - 1) (by omega)
          have hn1 := not_within (a := a) (c := a.drop 1) (by rw [List.length_drop]; omega)
          have hn2 := not_within (a := a) (c := a.take (a.length - 1)) (by rw [List.length_take]; omega)
          have HN1 := hide_ hn1
          have HN2 := hide_ hn2
          have hl1 : (a.drop 1).length = a.length - 1 := by rw [List.length_drop]
          have hl2 : (a.take (a.length - 1)).length = a.length - 1 := by rw [List.length_take]; omega
          have HT := hide_ hT
          have HI := hide_ hI
          have HL1 := hide_ hl1
          have HL2 := hide_ hl2
          clear hn1 hn2 hT hI hl1 hl2
          by_cases hc1 : c = 1
          · subst hc1
            have hT2 : kPair.C w A (a.length - 1) (a.drop 1) := by
              have := HT.out
              rw [if_pos rfl, HL1.out] at this
              exact this
            have hcl := within_any a (a.drop 1) A A 1 0 w4 (Kd.C_below ha hB4') (by rw [HL1.out]; exact Kd.C_below hT2 hB4') hac (by rw [HL1.out]; omega) (by omega)
            have h10 : a.length - 1 = 0 := by omega
            rw [HL1.out, HN1.out, h10] at hcl
            have HC := hide_ hcl
            clear hcl hT2 h10
            go_wp2_with fail
            refine HC.out.mono ?_
            rintro e5 w5 ⟨rfl, hB5⟩
            have hB5' := below_then hB4' hB4'.size hB5
            go_wp2_with fail
            have hcl2 := within_any a (a.take (a.length - 1)) A A 1 1 w5 (Kd.C_below ha hB5') (Kd.C_below HI.out hB5') hac (by rw [HL2.out]; omega) (by omega)
            have h10 : a.length - 1 = 0 := by omega
            rw [HL2.out, HN2.out, h10] at hcl2
            clear h10
            have HC2 := hide_ hcl2
            clear hcl2
            refine HC2.out.mono ?_
            rintro e6 w6 ⟨rfl, hB6⟩
            have hB6' := below_then hB5' hB5'.size hB6
            go_wp2_with fail
            go_ret
            exact ⟨rfl, hB6'⟩
          · have hT2 : kPair.C w (A.map fun x => ({ block := x.block, off := x.off + 2 } : Addr)) (a.length - 1) (a.drop 1) := by
              have := HT.out
              rw [if_neg hc1, HL1.out] at this
              exact this
            have hcl := within_any a (a.drop 1) A (A.map fun x => ({ block := x.block, off := x.off + 2 } : Addr)) c (c - 1) w4 (Kd.C_below ha hB4') (by rw [HL1.out]; exact Kd.C_below hT2 hB4') hac (by rw [HL1.out]; omega) (by omega)
            rw [HL1.out, HN1.out] at hcl
            have HC := hide_ hcl
            clear hcl hT2
            go_wp2_with fail
            refine HC.out.mono ?_
            rintro e5 w5 ⟨rfl, hB5⟩
            have hB5' := below_then hB4' hB4'.size hB5
            go_wp2_with fail
            have hcl2 := within_any a (a.take (a.length - 1)) A A c c w5 (Kd.C_below ha hB5') (Kd.C_below HI.out hB5') hac (by rw [HL2.out]; omega) (by omega)
            rw [HL2.out, HN2.out] at hcl2
            have HC2 := hide_ hcl2
            clear hcl2
            refine HC2.out.mono ?_
            rintro e6 w6 ⟨rfl, hB6⟩
            have hB6' := below_then hB5' hB5'.size hB6
            go_wp2_with fail
            go_ret
            exact ⟨rfl, hB6'⟩
  · go_enter Try.func3, Try.ntmps3
    go_wp2_with (go_at_call 6; refine (awake_any _).mono ?_; rintro e w1 ⟨rfl, hB1⟩)
    all_goals first
      | (go_ret; exact ⟨rfl, hB1⟩)
      | (exfalso; omega)
end Go.Proofs.Ytmjedjhgomlfiaa
