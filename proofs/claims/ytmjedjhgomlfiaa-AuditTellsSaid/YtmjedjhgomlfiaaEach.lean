/- walk.Each's closure: for every loop body that keeps its word. -/
import Derived.Test.YtmjedjhgomlfiaaBack
import Derived.Test.YtmjedjhgomlfiaaRange
import Derived.Shelf.Abstract
set_option linter.unusedSimpArgs false
namespace Go.Proofs.Ytmjedjhgomlfiaa
open Go.RowKit Go.Shelf Go.Proofs.YtmjedjhgomlfiaaW.PrintWords Go.Proofs.Ytmjedjhgomlfiaa.PAuditTells

theorem phase_any (e : S57) (o : Int) (w : World) :
    Calls Try.prog 38 #[v57 e, .int .i64 o] w fun x w' => x = .returned (.int .i64 (if e.f1 = 0 then o else 2)) ∧ Below w.heap.size w w' := by
  dsimp only [v57]
  by_cases h1 : e.f1 = 0
  · have h1b : (e.f1 != 0) = false := by simp [h1]
    rw [if_pos h1]
    clear h1
    go_enter Try.func38, Try.ntmps38
    go_wp2
    go_ret
    exact ⟨rfl, below_alloc (Below.refl _ _) _⟩
  · have h1b : (e.f1 != 0) = true := by simp [h1]
    rw [if_neg h1]
    clear h1
    go_enter Try.func38, Try.ntmps38
    go_wp2
    go_ret
    exact ⟨rfl, below_alloc (Below.refl _ _) _⟩

attribute [local go_sem] Oper.semAt_some
/-- slices.Backward makes the iterator. -/
theorem backward_any (A : Option Addr) (n c : Nat) (w : World) :
    Calls Try.prog 37 #[.slice A n c] w fun e w' => e = .returned (.func (.func 58) #[] #[.pointer (some ⟨w.heap.size, 0, none⟩)]) ∧ w' = w.alloc (.cells #[.slice A n c] 28) := by
  go_enter Try.func37, Try.ntmps37
  go_wp2
  go_ret
  exact ⟨rfl, rfl⟩

set_option maxRecDepth 100000 in
set_option maxHeartbeats 2000000 in
theorem each_in (l B2 B3 : Nat) (A : Option Addr) (c : Nat) (zs : List S57) (b : Bool) (hzl : zs.length ≤ 1000000) (J : List S55 → World → Prop) (W : World) (hlW : l < W.heap.size)
    (hA : ∀ ts X Y, J ts X → Quiet W.heap.size X Y → J ts Y)
    (hJ : ∀ ts X, J ts X → X.cell? ⟨B2, 0, none⟩ = some (.slice A zs.length c) ∧ X.cell? ⟨B3, 0, none⟩ = some (.bool b) ∧ Kd.C k57 X A zs.length zs)
    (hY : ∀ m ts (t : S55) X, ts.length < 2 * zs.length → 0 ≤ t.f0 → t.f0 < zs.length → J ts X → YieldAt Fence.wide m Try.prog l #[v55 t] X fun e Y => e = .returned (.bool true) ∧ J (ts ++ [t]) Y ∧ Keeps l X Y)
    (h0 : J [] W) :
    Calls Try.prog 36 #[.func (.yield l) #[] #[], .pointer (some ⟨B2, 0, none⟩), .pointer (some ⟨B3, 0, none⟩)] W fun e Y => (∃ v, e = .returned v) ∧ J (turnsW zs b) Y := by
  refine (callsIn_wide (n := 0)).1 (callsIn_of_wp_marks Try.func36 rfl trivial (wpIn_mono (Q := noPanic _) ?_ noPanic_le) rfl)
  simp only [Try.ntmps36, List.size_toArray, List.length_cons, List.length_nil, Nat.reduceAdd, Nat.reduceSub, Array.replicate_succ, Array.replicate_zero, List.push_toArray, List.append_toArray, List.nil_append, List.cons_append]
  obtain ⟨g2, g3, gC⟩ := hJ _ _ h0
  have g2' : (W.alloc (.cells #[.func (.yield l) #[] #[]] 75)).cell? ⟨B2, 0, none⟩ = some (.slice A zs.length c) := pw_cell_below (below_alloc (Below.refl _ _) _) g2
  gi_wp2
  refine ⟨trivial, rfl, (callsIn_wide.2 (backward_any A zs.length c _)).mono ?_⟩
  rintro _ _ ⟨rfl, rfl⟩
  gi_wp2
  obtain ⟨w3, hw3⟩ : ∃ w3, (W.alloc (.cells #[.func (.yield l) #[] #[]] 75)).alloc (.cells #[.slice A zs.length c] 28) = w3 := ⟨_, rfl⟩
  have hs3 : w3.heap.size = W.heap.size + 2 := by rw [← hw3]; simp
  have hq3 : Quiet W.heap.size W w3 := by rw [← hw3]; exact .of_below (below_alloc (below_alloc (Below.refl _ _) _) _) (Nat.le_refl _)
  have p75 : w3.heap[W.heap.size]? = some (.cells #[.func (.yield l) #[] #[]] 75 (0, 0)) := by
    rw [← hw3, Below.heap_alloc _ _ _ (by simp)]; exact World.alloc_heap_new _ _
  have p28 : w3.heap[W.heap.size + 1]? = some (.cells #[.slice A zs.length c] 28 (0, 0)) := by
    rw [← hw3]; have := World.alloc_heap_new (W.alloc (.cells #[.func (.yield l) #[] #[]] 75)) (.cells #[.slice A zs.length c] 28); rwa [World.size_alloc] at this
  rw [hw3]
  have hJ3 := hA _ _ _ h0 hq3
  clear hw3 h0 g2' g2 g3 gC
  refine rangeFunc_plain rfl (fun _ => trivial) rfl (gf := 58) (lb := #[.pointer (some ⟨W.heap.size + 1, 0, none⟩)]) rfl (enters_of Try.func58 (by kernel_rfl) rfl) ?_
  intro fn
  generalize hR : recAt fn _ _ _ _ w3.heap.size = R
  obtain ⟨l2, hl2⟩ : ∃ l2, w3.heap.size + 1 = l2 := ⟨_, rfl⟩
  rw [hl2]
  refine (back_in 0 l2 (W.heap.size + 1) A c zs hzl (fun k X => ∃ done, done ++ downT zs k = downT zs zs.length ∧ done.length + k = zs.length ∧ J done X ∧ X.heap[l2]? = some (.loop (R .ready)) ∧
    X.heap[W.heap.size]? = some (.cells #[.func (.yield l) #[] #[]] 75 (0, 0)) ∧ X.heap[W.heap.size + 1]? = some (.cells #[.slice A zs.length c] 28 (0, 0)) ∧ X.heap[w3.heap.size]? = some (.deferred (some []))) ?_ ?_ _ ?_).mono ?_
  · rintro k X ⟨done, _, _, hJx, _, _, h28, _⟩
    exact ⟨by rw [blk_cell h28]; rfl, (hJ _ _ hJx).2.2⟩
  · rintro k x X hx ⟨done, hd, hdl, hJx, hl, h75, h28, hD⟩
    refine round_plain (fun _ => trivial) hR hl rfl ?_
    clear hR
    dsimp only [v57]
    gi_wp2
    refine ⟨(alloc_at hl _), ?_⟩
    have hsz := (Array.getElem?_eq_some_iff.1 hl).1
    have hW3 : W.heap.size ≤ X.heap.size := by omega
    have hqX : Quiet W.heap.size X ((X.alloc (.cells #[.int .i64 x.f0, .int .i64 x.f1, .int .i64 x.f2, .bool x.f3, .bool x.f4] 57)).putObj l2 (.loop (R .busy))) :=
      (Quiet.of_below (below_alloc (Below.refl _ _) _) hW3).trans (quiet_putObj (alloc_at hl _) (by omega) _)
    have k75 : ((X.alloc (.cells #[.int .i64 x.f0, .int .i64 x.f1, .int .i64 x.f2, .bool x.f3, .bool x.f4] 57)).putObj l2 (.loop (R .busy))).heap[W.heap.size]? = some (.cells #[.func (.yield l) #[] #[]] 75 (0, 0)) := (World.putObj_heap_other (by omega)).trans (alloc_at h75 _)
    have k28 : ((X.alloc (.cells #[.int .i64 x.f0, .int .i64 x.f1, .int .i64 x.f2, .bool x.f3, .bool x.f4] 57)).putObj l2 (.loop (R .busy))).heap[W.heap.size + 1]? = some (.cells #[.slice A zs.length c] 28 (0, 0)) := (World.putObj_heap_other (by omega)).trans (alloc_at h28 _)
    have kD : ((X.alloc (.cells #[.int .i64 x.f0, .int .i64 x.f1, .int .i64 x.f2, .bool x.f3, .bool x.f4] 57)).putObj l2 (.loop (R .busy))).heap[w3.heap.size]? = some (.deferred (some [])) := (World.putObj_heap_other (by omega)).trans (alloc_at hD _)
    have k57' : ((X.alloc (.cells #[.int .i64 x.f0, .int .i64 x.f1, .int .i64 x.f2, .bool x.f3, .bool x.f4] 57)).putObj l2 (.loop (R .busy))).heap[X.heap.size]? = some (.cells #[.int .i64 x.f0, .int .i64 x.f1, .int .i64 x.f2, .bool x.f3, .bool x.f4] 57 (0, 0)) := (World.putObj_heap_other (by omega)).trans (World.alloc_heap_new _ _)
    have kl : ((X.alloc (.cells #[.int .i64 x.f0, .int .i64 x.f1, .int .i64 x.f2, .bool x.f3, .bool x.f4] 57)).putObj l2 (.loop (R .busy))).heap[l2]? = some (.loop (R .busy)) := World.putObj_heap_same (by simp; omega)
    have hJ1 := hA _ _ _ hJx hqX
    have hsX : W.heap.size ≤ ((X.alloc (.cells #[.int .i64 x.f0, .int .i64 x.f1, .int .i64 x.f2, .bool x.f3, .bool x.f4] 57)).putObj l2 (.loop (R .busy))).heap.size := by simp; omega
    generalize ((X.alloc (.cells #[.int .i64 x.f0, .int .i64 x.f1, .int .i64 x.f2, .bool x.f3, .bool x.f4] 57)).putObj l2 (.loop (R .busy))) = X1 at *
    generalize X.heap.size = B57 at *
    gi_wp2
    refine wpIn_region_R (S := fun Y => Y.heap[W.heap.size]? = some (.cells #[.func (.yield l) #[] #[]] 75 (0, 0)) ∧ Y.heap[B57]? = some (.cells #[.int .i64 x.f0, .int .i64 x.f1, .int .i64 x.f2, .bool x.f3, .bool x.f4] 57 (0, 0))) (by kernel_rfl) ⟨k75, k57'⟩ (fun hSx => ?_)
    refine wpAnyR_take (i := 0) (v := ?v0) (fun _ => trivial) (by kernel_rfl) rfl (by kernel_rfl) (by kernel_rfl) (by kernel_rfl) (fun _ _ _ h => h) (Or.inl ⟨by rfl, ?hy0⟩) (by assumption) ?rest0
    case hy0 =>
      intro w' hSw
      obtain ⟨z75, _⟩ := hSw
      have z0 := blk_cell z75 0
      dsimp only [List.getElem_toArray, List.getElem_cons_zero, List.getElem_cons_succ]
      go_simp
      try (with_reducible rfl)
    try simp only [Act.put, List.getElem_toArray, List.getElem_cons_zero, List.getElem_cons_succ, List.setIfInBounds_toArray, List.set_cons_zero, List.set_cons_succ]
    refine wpAnyR_take (i := 1) (v := ?v1) (fun _ => trivial) (by kernel_rfl) rfl (by kernel_rfl) (by kernel_rfl) (by kernel_rfl) (fun _ _ _ h => h) (Or.inl ⟨by rfl, ?hy1⟩) (by assumption) ?rest1
    case hy1 =>
      intro w' hSw
      dsimp only [List.getElem_toArray, List.getElem_cons_zero, List.getElem_cons_succ]
      go_simp
      try (with_reducible rfl)
    try simp only [Act.put, List.getElem_toArray, List.getElem_cons_zero, List.getElem_cons_succ, List.setIfInBounds_toArray, List.set_cons_zero, List.set_cons_succ]
    refine wpAnyR_take (i := 2) (v := ?v2) (fun _ => trivial) (by kernel_rfl) rfl (by kernel_rfl) (by kernel_rfl) (by kernel_rfl) (fun _ _ _ h => h) (Or.inl ⟨by rfl, ?hy2⟩) (by assumption) ?rest2
    case hy2 =>
      intro w' hSw
      obtain ⟨_, z57⟩ := hSw
      have z0 := blk_cell z57 0
      have z1 := blk_cell z57 1
      have z2 := blk_cell z57 2
      have z3 := blk_cell z57 3
      have z4 := blk_cell z57 4
      dsimp only [List.getElem_toArray, List.getElem_cons_zero, List.getElem_cons_succ]
      go_simp
      try (with_reducible rfl)
    try simp only [Act.put, List.getElem_toArray, List.getElem_cons_zero, List.getElem_cons_succ, List.setIfInBounds_toArray, List.set_cons_zero, List.set_cons_succ]
    refine wpAnyR_only (i := 3) (by kernel_rfl) rfl (by rfl) (fun K hK => ?_)
    refine opIn_call (fun _ => trivial) rfl rfl ?hrun3 ((callsIn_wide.2 (phase_any x 1 _)).inRound l2) ?ret3
    case hrun3 =>
      dsimp only [List.getElem_toArray, List.getElem_cons_zero, List.getElem_cons_succ, v57]
      go_simp
    rintro e w' ⟨rfl, hBp⟩
    have p75 := below_at hBp hSx.1
    have p57 := below_at hBp hSx.2
    have p28 := below_at hBp (show X1.drew.heap[_]? = _ from k28)
    have pD := below_at hBp (show X1.drew.heap[_]? = _ from kD)
    have pl := below_at hBp (show X1.drew.heap[_]? = _ from kl)
    have pJ := hA _ _ _ hJ1 ((Quiet.of_below (below_drew (Below.refl _ _)) hsX).trans (Quiet.of_below hBp hsX))
    have psz : W.heap.size ≤ w'.heap.size := Nat.le_trans hsX hBp.size
    refine ⟨_, rfl, hK _ _ ⟨p75, p57⟩ (fun hSx => ?_)⟩
    clear hK hBp k75 k57' k28 kD kl hJ1 hqX h75 h28 hD hl
    have hd' : (done ++ [(⟨k, if x.f1 = 0 then 1 else 2, true⟩ : S55)]) ++ downT zs k = downT zs zs.length := by
      rw [← hd, downT, List.getD, hx, List.append_assoc]; rfl
    generalize (if x.f1 = 0 then (1 : Int) else 2) = ph at *
    try simp only [Act.put, List.getElem_toArray, List.getElem_cons_zero, List.getElem_cons_succ, List.setIfInBounds_toArray, List.set_cons_zero, List.set_cons_succ]
    refine wpAnyR_take (i := 4) (v := ?v4) (fun _ => trivial) (by kernel_rfl) rfl (by kernel_rfl) (by kernel_rfl) (by kernel_rfl) (fun _ _ _ h => h) (Or.inl ⟨by rfl, ?hy4⟩) (by assumption) ?rest4
    case hy4 =>
      intro w' hSw
      dsimp only [List.getElem_toArray, List.getElem_cons_zero, List.getElem_cons_succ]
      go_simp
      try (with_reducible rfl)
    try simp only [Act.put, List.getElem_toArray, List.getElem_cons_zero, List.getElem_cons_succ, List.setIfInBounds_toArray, List.set_cons_zero, List.set_cons_succ]
    refine wpAnyR_only (i := 5) (by kernel_rfl) rfl (by rfl) (fun K hK => ?_)
    refine opIn_yield (fun _ => trivial) rfl rfl ?hrun5 (show YieldAt (Fence.wide.inRound l2) _ _ _ _ _ _ from hY _ done ⟨k, ph, true⟩ _ (by omega) (by show (0 : Int) ≤ k; omega) (by show (k : Int) < _; omega) pJ) ?ret5
    case hrun5 =>
      dsimp only [List.getElem_toArray, List.getElem_cons_zero, List.getElem_cons_succ, v55]
      go_simp
    rintro e Y ⟨rfl, hJY, hKY⟩
    have q75 := hKY.same _ _ p75 (by omega) (fun _ _ _ h => by cases h; decide)
    have q57 := hKY.same _ _ p57 (by omega) (fun _ _ _ h => by cases h; decide)
    have q28 := hKY.same _ _ p28 (by omega) (fun _ _ _ h => by cases h; decide)
    have qD := hKY.same _ _ pD (by omega) (fun _ _ _ h => by cases h)
    have ql := hKY.same _ _ pl (by omega) (fun _ _ _ h => by cases h)
    refine ⟨_, rfl, hK _ _ ⟨q75, q57⟩ (fun hSx => ?_)⟩
    clear hK hKY
    try simp only [Act.put, List.getElem_toArray, List.getElem_cons_zero, List.getElem_cons_succ, List.setIfInBounds_toArray, List.set_cons_zero, List.set_cons_succ]
    refine wpAnyR_take (i := 6) (v := ?v6) (fun _ => trivial) (by kernel_rfl) rfl (by kernel_rfl) (by kernel_rfl) (by kernel_rfl) (fun _ _ _ h => h) (Or.inl ⟨by rfl, ?hy6⟩) (by assumption) ?rest6
    case hy6 =>
      intro w' hSw
      dsimp only [List.getElem_toArray, List.getElem_cons_zero, List.getElem_cons_succ]
      go_simp
      try (with_reducible rfl)
    try simp only [Act.put, List.getElem_toArray, List.getElem_cons_zero, List.getElem_cons_succ, List.setIfInBounds_toArray, List.set_cons_zero, List.set_cons_succ]
    refine wpAnyR_done (by kernel_rfl) ?_ _
    gi_wp2
    have hlt2 := (Array.getElem?_eq_some_iff.1 ql).1
    exact ⟨_, hd', by simp; omega, hA _ _ _ hJY (quiet_putObj ql (by omega) _), World.putObj_heap_same hlt2, (World.putObj_heap_other (by omega)).trans q75, (World.putObj_heap_other (by omega)).trans q28,
      (World.putObj_heap_other (by omega)).trans (by rw [← hs3]; exact qD)⟩
  · have hqW : Quiet W.heap.size w3 ((w3.alloc (.deferred (some []))).alloc (.loop (R .ready))) := .of_below (below_alloc (below_alloc (Below.refl _ _) _) _) (by omega)
    refine ⟨[], rfl, by simp, hA _ _ _ hJ3 hqW, ?_, alloc_at (alloc_at p75 _) _, alloc_at (alloc_at p28 _) _, alloc_at (World.alloc_heap_new _ _) _⟩
    have := World.alloc_heap_new (w3.alloc (.deferred (some []))) (.loop (R .ready))
    rwa [World.size_alloc, hl2] at this
  · rintro e Y ⟨hv, done, hd, hdl, hJx, hl, h75, h28, hD⟩
    refine ⟨hv, hl, ?_⟩
    have hlt2 := (Array.getElem?_eq_some_iff.1 hl).1
    have hJ1 := hA _ _ _ hJx (quiet_putObj hl (by omega) (.loop (R .exhausted)))
    have q75 := (World.putObj_heap_other (o := .loop (R .exhausted)) (show W.heap.size ≠ l2 by omega)).trans h75
    have qD := (World.putObj_heap_other (o := .loop (R .exhausted)) (show w3.heap.size ≠ l2 by omega)).trans hD
    rw [show downT zs 0 = [] from rfl, List.append_nil] at hd
    have hsY : W.heap.size ≤ (Y.putObj l2 (.loop (R .exhausted))).heap.size := by simp; omega
    clear hR hl h75 h28 hD hJx hJ3 p75 p28 hq3
    generalize Y.putObj l2 (.loop (R .exhausted)) = Y1 at *
    generalize hDD : w3.heap.size = DD at *
    have g2 := (hJ _ _ hJ1).1
    gi_wp2
    gi_loopw [21] (fun iv wr => ∃ (j : Nat) (done : List S55), j ≤ zs.length ∧ iv = .int .i64 j ∧ done ++ upT zs b j (zs.length - j) = turnsW zs b ∧ done.length ≤ zs.length + j ∧ J done wr ∧ W.heap.size ≤ wr.heap.size ∧ wr.heap[W.heap.size]? = some (.cells #[.func (.yield l) #[] #[]] 75 (0, 0)) ∧ wr.heap[DD]? = some (.deferred (some []))) (fun iv _ => zs.length - (intOf iv).toNat)
    case atStart => exact ⟨0, done, Nat.zero_le _, rfl, by rw [hd]; rfl, by omega, hJ1, hsY, q75, qD⟩
    case round =>
      clear hd hdl hJ1 q75 qD hsY g2
      obtain ⟨j, done, hj, rfl, hd, hdl, hJx, hsw, h75, hD⟩ := hrel
      obtain ⟨g2, g3, gC⟩ := hJ _ _ hJx
      by_cases hlt : j < zs.length
      · obtain ⟨ad, x, rfl, HX, c0, c1, c2, c3, c4⟩ := el_T57 gC j hlt
        have hge : zs.getD j z57 = x := by rw [List.getD, HX.out]; rfl
        have HN := hide_ (show upT zs b j (zs.length - j) = (if x.f1 = 0 then (if b = true then [⟨j, 3, false⟩] else []) else [⟨j, 2, false⟩]) ++ upT zs b (j + 1) (zs.length - (j + 1)) by
          rw [show zs.length - j = (zs.length - (j + 1)) + 1 by omega, upT, upOne, hge])
        clear hge
        have g3' : (wr.alloc (.cells #[.int .i64 x.f0, .int .i64 x.f1, .int .i64 x.f2, .bool x.f3, .bool x.f4] 57)).cell? ⟨B3, 0, none⟩ = some (.bool b) := pw_cell_below (below_alloc (Below.refl _ _) _) g3
        by_cases h1 : x.f1 = 0
        · have h1b : (x.f1 == 0) = true := by simp [h1]
          cases b with
          | false =>
            have HD := hide_ (show done ++ upT zs false (j + 1) (zs.length - (j + 1)) = turnsW zs false by rw [← hd, HN.out, if_pos h1]; rfl)
            clear h1 HN hd
            gi_wp2
            go_roundw
            case rel => exact ⟨j + 1, done, hlt, by go_num, HD.out, by omega, hA _ _ _ hJx (.of_below (below_alloc (Below.refl _ _) _) hsw), by simp; omega, alloc_at h75 _, alloc_at hD _⟩
            case measure => show zs.length - ((j : Int) + 1).toNat < zs.length - ((j : Int)).toNat; omega
          | true =>
            have H1 := hide_ h1
            have HD := hide_ (show (done ++ [(⟨j, 3, false⟩ : S55)]) ++ upT zs true (j + 1) (zs.length - (j + 1)) = turnsW zs true by rw [← hd, HN.out, if_pos h1, List.append_assoc]; rfl)
            clear HN hd h1
            gi_wp2
            have hJ1 := hA _ _ _ hJx (.of_below (below_alloc (Below.refl _ _) (.cells #[.int .i64 x.f0, .int .i64 x.f1, .int .i64 x.f2, .bool x.f3, .bool x.f4] 57)) hsw)
            have k75 := alloc_at h75 (.cells #[.int .i64 x.f0, .int .i64 x.f1, .int .i64 x.f2, .bool x.f3, .bool x.f4] 57)
            have kD := alloc_at hD (.cells #[.int .i64 x.f0, .int .i64 x.f1, .int .i64 x.f2, .bool x.f3, .bool x.f4] 57)
            have kx := World.alloc_heap_new wr (.cells #[.int .i64 x.f0, .int .i64 x.f1, .int .i64 x.f2, .bool x.f3, .bool x.f4] 57)
            have hsX : W.heap.size ≤ (wr.alloc (.cells #[.int .i64 x.f0, .int .i64 x.f1, .int .i64 x.f2, .bool x.f3, .bool x.f4] 57)).heap.size := by simp; omega
            have hlx : l < wr.heap.size := by omega
            clear g3' c0 c1 c2 c3 c4 g2 g3 gC
            generalize (wr.alloc (.cells #[.int .i64 x.f0, .int .i64 x.f1, .int .i64 x.f2, .bool x.f3, .bool x.f4] 57)) = X1 at *
            generalize wr.heap.size = B57 at *
            refine wpIn_region_R (S := fun Y => Y.heap[W.heap.size]? = some (.cells #[.func (.yield l) #[] #[]] 75 (0, 0)) ∧ Y.heap[B57]? = some (.cells #[.int .i64 x.f0, .int .i64 x.f1, .int .i64 x.f2, .bool x.f3, .bool x.f4] 57 (0, 0))) (by kernel_rfl) ⟨k75, kx⟩ (fun hSx => ?_)
            refine wpAnyR_take (i := 0) (v := ?va0) (fun _ => trivial) (by kernel_rfl) rfl (by kernel_rfl) (by kernel_rfl) (by kernel_rfl) (fun _ _ _ h => h) (Or.inl ⟨by rfl, ?hya0⟩) (by assumption) ?resta0
            case hya0 =>
              intro w' hSw
              obtain ⟨z75, _⟩ := hSw
              have z0 := blk_cell z75 0
              dsimp only [List.getElem_toArray, List.getElem_cons_zero, List.getElem_cons_succ]
              go_simp
              try (with_reducible rfl)
            try simp only [Act.put, List.getElem_toArray, List.getElem_cons_zero, List.getElem_cons_succ, List.setIfInBounds_toArray, List.set_cons_zero, List.set_cons_succ]
            refine wpAnyR_take (i := 1) (v := ?va1) (fun _ => trivial) (by kernel_rfl) rfl (by kernel_rfl) (by kernel_rfl) (by kernel_rfl) (fun _ _ _ h => h) (Or.inl ⟨by rfl, ?hya1⟩) (by assumption) ?resta1
            case hya1 =>
              intro w' hSw
              dsimp only [List.getElem_toArray, List.getElem_cons_zero, List.getElem_cons_succ]
              go_simp
              try (with_reducible rfl)
            try simp only [Act.put, List.getElem_toArray, List.getElem_cons_zero, List.getElem_cons_succ, List.setIfInBounds_toArray, List.set_cons_zero, List.set_cons_succ]
            refine wpAnyR_take (i := 2) (v := ?va2) (fun _ => trivial) (by kernel_rfl) rfl (by kernel_rfl) (by kernel_rfl) (by kernel_rfl) (fun _ _ _ h => h) (Or.inl ⟨by rfl, ?hya2⟩) (by assumption) ?resta2
            case hya2 =>
              intro w' hSw
              obtain ⟨_, z57⟩ := hSw
              have z0 := blk_cell z57 0
              have z1 := blk_cell z57 1
              have z2 := blk_cell z57 2
              have z3 := blk_cell z57 3
              have z4 := blk_cell z57 4
              dsimp only [List.getElem_toArray, List.getElem_cons_zero, List.getElem_cons_succ]
              go_simp
              try (with_reducible rfl)
            try simp only [Act.put, List.getElem_toArray, List.getElem_cons_zero, List.getElem_cons_succ, List.setIfInBounds_toArray, List.set_cons_zero, List.set_cons_succ]
            refine wpAnyR_only (i := 3) (by kernel_rfl) rfl (by rfl) (fun K hK => ?_)
            refine opIn_call (fun _ => trivial) rfl rfl ?hruna3 (callsIn_wide.2 (phase_any x 3 _)) ?reta3
            case hruna3 =>
              dsimp only [List.getElem_toArray, List.getElem_cons_zero, List.getElem_cons_succ, v57]
              go_simp
            rintro e w' ⟨rfl, hBp⟩
            have p75 := below_at hBp hSx.1
            have p57 := below_at hBp hSx.2
            have pD := below_at hBp (show X1.drew.heap[_]? = _ from kD)
            have pJ := hA _ _ _ hJ1 ((Quiet.of_below (below_drew (Below.refl _ _)) hsX).trans (Quiet.of_below hBp hsX))
            have psz : W.heap.size ≤ w'.heap.size := Nat.le_trans hsX hBp.size
            refine ⟨_, rfl, hK _ _ ⟨p75, p57⟩ (fun hSx => ?_)⟩
            clear hK hBp k75 kD hJ1 h75 hD hJx
            rw [if_pos H1.out]
            try simp only [Act.put, List.getElem_toArray, List.getElem_cons_zero, List.getElem_cons_succ, List.setIfInBounds_toArray, List.set_cons_zero, List.set_cons_succ]
            refine wpAnyR_take (i := 4) (v := ?va4) (fun _ => trivial) (by kernel_rfl) rfl (by kernel_rfl) (by kernel_rfl) (by kernel_rfl) (fun _ _ _ h => h) (Or.inl ⟨by rfl, ?hya4⟩) (by assumption) ?resta4
            case hya4 =>
              intro w' hSw
              dsimp only [List.getElem_toArray, List.getElem_cons_zero, List.getElem_cons_succ]
              go_simp
              try (with_reducible rfl)
            try simp only [Act.put, List.getElem_toArray, List.getElem_cons_zero, List.getElem_cons_succ, List.setIfInBounds_toArray, List.set_cons_zero, List.set_cons_succ]
            refine wpAnyR_only (i := 5) (by kernel_rfl) rfl (by rfl) (fun K hK => ?_)
            refine opIn_yield (fun _ => trivial) rfl rfl ?hruna5 (hY _ done ⟨j, 3, false⟩ _ (by omega) (by show (0 : Int) ≤ j; omega) (by show (j : Int) < _; omega) pJ) ?reta5
            case hruna5 =>
              dsimp only [List.getElem_toArray, List.getElem_cons_zero, List.getElem_cons_succ, v55]
              go_simp
            rintro e Y ⟨rfl, hJY, hKY⟩
            have q75 := hKY.same _ _ p75 (by omega) (fun _ _ _ h => by cases h; decide)
            have q57 := hKY.same _ _ p57 (by omega) (fun _ _ _ h => by cases h; decide)
            have qD := hKY.same _ _ pD (by omega) (fun _ _ _ h => by cases h)
            have qsz := Nat.le_trans psz hKY.size
            refine ⟨_, rfl, hK _ _ ⟨q75, q57⟩ (fun hSx => ?_)⟩
            clear hK hKY
            try simp only [Act.put, List.getElem_toArray, List.getElem_cons_zero, List.getElem_cons_succ, List.setIfInBounds_toArray, List.set_cons_zero, List.set_cons_succ]
            refine wpAnyR_take (i := 6) (v := ?va6) (fun _ => trivial) (by kernel_rfl) rfl (by kernel_rfl) (by kernel_rfl) (by kernel_rfl) (fun _ _ _ h => h) (Or.inl ⟨by rfl, ?hya6⟩) (by assumption) ?resta6
            case hya6 =>
              intro w' hSw
              dsimp only [List.getElem_toArray, List.getElem_cons_zero, List.getElem_cons_succ]
              go_simp
              try (with_reducible rfl)
            try simp only [Act.put, List.getElem_toArray, List.getElem_cons_zero, List.getElem_cons_succ, List.setIfInBounds_toArray, List.set_cons_zero, List.set_cons_succ]
            refine wpAnyR_done (by kernel_rfl) ?_ _
            gi_wp2
            go_roundw
            case rel => exact ⟨j + 1, _, hlt, by go_num, HD.out, by simp; omega, hJY, qsz, q75, qD⟩
            case measure => show zs.length - ((j : Int) + 1).toNat < zs.length - ((j : Int)).toNat; omega
        · have h1b : (x.f1 == 0) = false := by simp [h1]
          have HD := hide_ (show (done ++ [(⟨j, 2, false⟩ : S55)]) ++ upT zs b (j + 1) (zs.length - (j + 1)) = turnsW zs b by rw [← hd, HN.out, if_neg h1, List.append_assoc])
          clear HN hd
          gi_wp2
          have hJ1 := hA _ _ _ hJx (.of_below (below_alloc (Below.refl _ _) (.cells #[.int .i64 x.f0, .int .i64 x.f1, .int .i64 x.f2, .bool x.f3, .bool x.f4] 57)) hsw)
          have k75 := alloc_at h75 (.cells #[.int .i64 x.f0, .int .i64 x.f1, .int .i64 x.f2, .bool x.f3, .bool x.f4] 57)
          have kD := alloc_at hD (.cells #[.int .i64 x.f0, .int .i64 x.f1, .int .i64 x.f2, .bool x.f3, .bool x.f4] 57)
          have kx := World.alloc_heap_new wr (.cells #[.int .i64 x.f0, .int .i64 x.f1, .int .i64 x.f2, .bool x.f3, .bool x.f4] 57)
          have hsX : W.heap.size ≤ (wr.alloc (.cells #[.int .i64 x.f0, .int .i64 x.f1, .int .i64 x.f2, .bool x.f3, .bool x.f4] 57)).heap.size := by simp; omega
          have hlx : l < wr.heap.size := by omega
          clear g3' c0 c1 c2 c3 c4 g2 g3 gC
          generalize (wr.alloc (.cells #[.int .i64 x.f0, .int .i64 x.f1, .int .i64 x.f2, .bool x.f3, .bool x.f4] 57)) = X1 at *
          generalize wr.heap.size = B57 at *
          refine wpIn_region_R (S := fun Y => Y.heap[W.heap.size]? = some (.cells #[.func (.yield l) #[] #[]] 75 (0, 0)) ∧ Y.heap[B57]? = some (.cells #[.int .i64 x.f0, .int .i64 x.f1, .int .i64 x.f2, .bool x.f3, .bool x.f4] 57 (0, 0))) (by kernel_rfl) ⟨k75, kx⟩ (fun hSx => ?_)
          refine wpAnyR_take (i := 0) (v := ?vb0) (fun _ => trivial) (by kernel_rfl) rfl (by kernel_rfl) (by kernel_rfl) (by kernel_rfl) (fun _ _ _ h => h) (Or.inl ⟨by rfl, ?hyb0⟩) (by assumption) ?restb0
          case hyb0 =>
            intro w' hSw
            obtain ⟨z75, _⟩ := hSw
            have z0 := blk_cell z75 0
            dsimp only [List.getElem_toArray, List.getElem_cons_zero, List.getElem_cons_succ]
            go_simp
            try (with_reducible rfl)
          try simp only [Act.put, List.getElem_toArray, List.getElem_cons_zero, List.getElem_cons_succ, List.setIfInBounds_toArray, List.set_cons_zero, List.set_cons_succ]
          refine wpAnyR_take (i := 1) (v := ?vb1) (fun _ => trivial) (by kernel_rfl) rfl (by kernel_rfl) (by kernel_rfl) (by kernel_rfl) (fun _ _ _ h => h) (Or.inl ⟨by rfl, ?hyb1⟩) (by assumption) ?restb1
          case hyb1 =>
            intro w' hSw
            dsimp only [List.getElem_toArray, List.getElem_cons_zero, List.getElem_cons_succ]
            go_simp
            try (with_reducible rfl)
          try simp only [Act.put, List.getElem_toArray, List.getElem_cons_zero, List.getElem_cons_succ, List.setIfInBounds_toArray, List.set_cons_zero, List.set_cons_succ]
          refine wpAnyR_take (i := 2) (v := ?vb2) (fun _ => trivial) (by kernel_rfl) rfl (by kernel_rfl) (by kernel_rfl) (by kernel_rfl) (fun _ _ _ h => h) (Or.inl ⟨by rfl, ?hyb2⟩) (by assumption) ?restb2
          case hyb2 =>
            intro w' hSw
            obtain ⟨_, z57⟩ := hSw
            have z0 := blk_cell z57 0
            have z1 := blk_cell z57 1
            have z2 := blk_cell z57 2
            have z3 := blk_cell z57 3
            have z4 := blk_cell z57 4
            dsimp only [List.getElem_toArray, List.getElem_cons_zero, List.getElem_cons_succ]
            go_simp
            try (with_reducible rfl)
          try simp only [Act.put, List.getElem_toArray, List.getElem_cons_zero, List.getElem_cons_succ, List.setIfInBounds_toArray, List.set_cons_zero, List.set_cons_succ]
          refine wpAnyR_only (i := 3) (by kernel_rfl) rfl (by rfl) (fun K hK => ?_)
          refine opIn_call (fun _ => trivial) rfl rfl ?hrunb3 (callsIn_wide.2 (phase_any x 3 _)) ?retb3
          case hrunb3 =>
            dsimp only [List.getElem_toArray, List.getElem_cons_zero, List.getElem_cons_succ, v57]
            go_simp
          rintro e w' ⟨rfl, hBp⟩
          have p75 := below_at hBp hSx.1
          have p57 := below_at hBp hSx.2
          have pD := below_at hBp (show X1.drew.heap[_]? = _ from kD)
          have pJ := hA _ _ _ hJ1 ((Quiet.of_below (below_drew (Below.refl _ _)) hsX).trans (Quiet.of_below hBp hsX))
          have psz : W.heap.size ≤ w'.heap.size := Nat.le_trans hsX hBp.size
          refine ⟨_, rfl, hK _ _ ⟨p75, p57⟩ (fun hSx => ?_)⟩
          clear hK hBp k75 kD hJ1 h75 hD hJx
          rw [if_neg h1]
          clear h1
          try simp only [Act.put, List.getElem_toArray, List.getElem_cons_zero, List.getElem_cons_succ, List.setIfInBounds_toArray, List.set_cons_zero, List.set_cons_succ]
          refine wpAnyR_take (i := 4) (v := ?vb4) (fun _ => trivial) (by kernel_rfl) rfl (by kernel_rfl) (by kernel_rfl) (by kernel_rfl) (fun _ _ _ h => h) (Or.inl ⟨by rfl, ?hyb4⟩) (by assumption) ?restb4
          case hyb4 =>
            intro w' hSw
            dsimp only [List.getElem_toArray, List.getElem_cons_zero, List.getElem_cons_succ]
            go_simp
            try (with_reducible rfl)
          try simp only [Act.put, List.getElem_toArray, List.getElem_cons_zero, List.getElem_cons_succ, List.setIfInBounds_toArray, List.set_cons_zero, List.set_cons_succ]
          refine wpAnyR_only (i := 5) (by kernel_rfl) rfl (by rfl) (fun K hK => ?_)
          refine opIn_yield (fun _ => trivial) rfl rfl ?hrunb5 (hY _ done ⟨j, 2, false⟩ _ (by omega) (by show (0 : Int) ≤ j; omega) (by show (j : Int) < _; omega) pJ) ?retb5
          case hrunb5 =>
            dsimp only [List.getElem_toArray, List.getElem_cons_zero, List.getElem_cons_succ, v55]
            go_simp
          rintro e Y ⟨rfl, hJY, hKY⟩
          have q75 := hKY.same _ _ p75 (by omega) (fun _ _ _ h => by cases h; decide)
          have q57 := hKY.same _ _ p57 (by omega) (fun _ _ _ h => by cases h; decide)
          have qD := hKY.same _ _ pD (by omega) (fun _ _ _ h => by cases h)
          have qsz := Nat.le_trans psz hKY.size
          refine ⟨_, rfl, hK _ _ ⟨q75, q57⟩ (fun hSx => ?_)⟩
          clear hK hKY
          try simp only [Act.put, List.getElem_toArray, List.getElem_cons_zero, List.getElem_cons_succ, List.setIfInBounds_toArray, List.set_cons_zero, List.set_cons_succ]
          refine wpAnyR_take (i := 6) (v := ?vb6) (fun _ => trivial) (by kernel_rfl) rfl (by kernel_rfl) (by kernel_rfl) (by kernel_rfl) (fun _ _ _ h => h) (Or.inl ⟨by rfl, ?hyb6⟩) (by assumption) ?restb6
          case hyb6 =>
            intro w' hSw
            dsimp only [List.getElem_toArray, List.getElem_cons_zero, List.getElem_cons_succ]
            go_simp
            try (with_reducible rfl)
          try simp only [Act.put, List.getElem_toArray, List.getElem_cons_zero, List.getElem_cons_succ, List.setIfInBounds_toArray, List.set_cons_zero, List.set_cons_succ]
          refine wpAnyR_done (by kernel_rfl) ?_ _
          gi_wp2
          go_roundw
          case rel => exact ⟨j + 1, _, hlt, by go_num, HD.out, by simp; omega, hJY, qsz, q75, qD⟩
          case measure => show zs.length - ((j : Int) + 1).toNat < zs.length - ((j : Int)).toNat; omega
      · have hZ : done = turnsW zs b := by
          rw [show zs.length - j = 0 by omega, upT, List.append_nil] at hd
          exact hd
        gi_wp2
        refine ⟨by simp, .inl ⟨_, _, rfl, run_takeDeferred hD, ?_⟩⟩
        exact ⟨_, results_none rfl _ _ _, ⟨_, rfl⟩, by rw [← hZ]; exact hA _ _ _ hJx (quiet_putD hD (by omega) _)⟩
end Go.Proofs.Ytmjedjhgomlfiaa
