/- audit.Plan: what the Go function answers. It writes nothing that was there. -/
import Derived.Test.YtmjedjhgomlfiaaEach
set_option linter.unusedSimpArgs false
namespace Go.Proofs.Ytmjedjhgomlfiaa
open Go.RowKit Go.Shelf Go.Proofs.YtmjedjhgomlfiaaW.PrintWords Go.Proofs.Ytmjedjhgomlfiaa.PAuditTells

attribute [local go_sem] Oper.semAt_some
theorem each_fn (A : Option Addr) (n c : Nat) (b : Bool) (w : World) :
    Calls Try.prog 23 #[.slice A n c, .bool b] w fun e w' => e = .returned (.func (.func 36) #[] #[.pointer (some ⟨w.heap.size, 0, none⟩), .pointer (some ⟨w.heap.size + 1, 0, none⟩)]) ∧ w' = (w.alloc (.cells #[.slice A n c] 28)).alloc (.cells #[.bool b] 4) := by
  go_enter Try.func23, Try.ntmps23
  go_wp2
  go_ret
  exact ⟨rfl, rfl⟩

theorem R_quiet {X Y : World} {n base : Nat} {v : Value} {xs : List (Int × Int)} (h : kPair.R 24 X base (fun _ => True) v xs) (hq : Quiet n X Y) : kPair.R 24 Y base (fun _ => True) v xs :=
  Kd.R_mono (Kd.R_step (Kd.R_bound h) (fun k hk _ => by
    obtain ⟨_, _, _, q, hq', cells, hc⟩ := hk
    have hq24 : q = 24 := by
      have : q ∈ [24] := hq'
      simpa using this
    exact hq.own k cells q _ hc (Or.inr hq24))) (fun _ _ => trivial)
theorem kept_grown {W w1 : World} {v : Value} {k : Nat} {o : Obj} (hg : W.grownBy w1 v.ownBlock) (hty : ∀ k, v.ownBlock = some k → ∃ cells, W.heap[k]? = some (.cells cells 24 (0, 0))) (hk : W.heap[k]? = some o) (hne : ∀ cs f, o ≠ .cells cs 24 f) : w1.heap[k]? = some o := by
  refine (hg.block k (Array.getElem?_eq_some_iff.1 hk).1 (fun e => ?_)).trans hk
  obtain ⟨cells, hc⟩ := hty k e.symm
  rw [hk] at hc
  exact hne _ _ (Option.some.inj hc)

set_option maxRecDepth 100000 in
set_option maxHeartbeats 3200000 in
theorem plan_any (zs : List S57) (A : Option Addr) (c : Nat) (b : Bool) (w : World) (hl : Kd.C k57 w A zs.length zs) (hzl : zs.length ≤ 100000) :
    Calls Try.prog 11 #[.slice A zs.length c, .bool b] w fun e w' => ∃ v, e = .returned v ∧ kPair.R 24 w' w.heap.size (fun _ => True) v (planW zs b) ∧ Below w.heap.size w w' := by
  refine (callsIn_wide (n := 0)).1 (callsIn_of_wp_marks Try.func11 rfl trivial (wpIn_mono (Q := noPanic _) ?_ noPanic_le) rfl)
  simp only [Try.ntmps11, List.size_toArray, List.length_cons, List.length_nil, Nat.reduceAdd, Nat.reduceSub, Array.replicate_succ, Array.replicate_zero, List.push_toArray, List.append_toArray, List.nil_append, List.cons_append]
  gi_wp2
  refine ⟨trivial, rfl, (callsIn_wide.2 (each_fn A zs.length c b _)).mono ?_⟩
  rintro _ _ ⟨rfl, rfl⟩
  gi_wp2
  obtain ⟨w4, hw4⟩ : ∃ w4, (((w.alloc (.cells #[.slice A zs.length c] 28)).alloc (.cells #[.slice none 0 0] 22)).alloc (.cells #[.slice A zs.length c] 28)).alloc (.cells #[.bool b] 4) = w4 := ⟨_, rfl⟩
  have hs4 : w4.heap.size = w.heap.size + 4 := by rw [← hw4]; simp
  have hB4 : Below w.heap.size w w4 := by rw [← hw4]; exact below_alloc (below_alloc (below_alloc (below_alloc (Below.refl _ _) _) _) _) _
  have p0 : w4.heap[w.heap.size]? = some (.cells #[.slice A zs.length c] 28 (0, 0)) := by
    rw [← hw4]; exact alloc_at (alloc_at (alloc_at (World.alloc_heap_new _ _) _) _) _
  have p1 : w4.heap[w.heap.size + 1]? = some (.cells #[.slice none 0 0] 22 (0, 0)) := by
    rw [← hw4]
    have := World.alloc_heap_new (w.alloc (.cells #[.slice A zs.length c] 28)) (.cells #[.slice none 0 0] 22)
    rw [World.size_alloc] at this
    exact alloc_at (alloc_at this _) _
  have p2 : w4.heap[w.heap.size + 2]? = some (.cells #[.slice A zs.length c] 28 (0, 0)) := by
    rw [← hw4]
    have := World.alloc_heap_new ((w.alloc (.cells #[.slice A zs.length c] 28)).alloc (.cells #[.slice none 0 0] 22)) (.cells #[.slice A zs.length c] 28)
    rw [World.size_alloc, World.size_alloc] at this
    exact alloc_at this _
  have p3 : w4.heap[w.heap.size + 3]? = some (.cells #[.bool b] 4 (0, 0)) := by
    rw [← hw4]
    have := World.alloc_heap_new (((w.alloc (.cells #[.slice A zs.length c] 28)).alloc (.cells #[.slice none 0 0] 22)).alloc (.cells #[.slice A zs.length c] 28)) (.cells #[.bool b] 4)
    rwa [World.size_alloc, World.size_alloc, World.size_alloc] at this
  rw [hw4]
  clear hw4
  refine rangeFunc_plain rfl (fun _ => trivial) rfl (gf := 36) (lb := #[.pointer (some ⟨w.heap.size + 1 + 1, 0, none⟩), .pointer (some ⟨w.heap.size + 1 + 1 + 1, 0, none⟩)]) rfl (enters_of Try.func36 (by kernel_rfl) rfl) ?_
  intro fn
  generalize hRR : recAt fn _ _ _ _ w4.heap.size = R
  obtain ⟨D, hD⟩ : ∃ D, w4.heap.size = D := ⟨_, rfl⟩
  obtain ⟨l, hl2⟩ : ∃ l, D + 1 = l := ⟨_, rfl⟩
  rw [hD, hl2]
  have hW1 : ((w4.alloc (.deferred (some []))).alloc (.loop (R .ready))).heap.size = w.heap.size + 6 := by simp; omega
  refine (callsIn_wide.2 (each_in l (w.heap.size + 2) (w.heap.size + 3) A c zs b (by omega) (fun ts X => Below w.heap.size w X ∧ X.heap[l]? = some (.loop (R .ready)) ∧ X.heap[D]? = some (.deferred (some [])) ∧
    X.heap[w.heap.size]? = some (.cells #[.slice A zs.length c] 28 (0, 0)) ∧ X.heap[w.heap.size + 2]? = some (.cells #[.slice A zs.length c] 28 (0, 0)) ∧ X.heap[w.heap.size + 3]? = some (.cells #[.bool b] 4 (0, 0)) ∧
    ∃ v, X.heap[w.heap.size + 1]? = some (.cells #[v] 22 (0, 0)) ∧ kPair.R 24 X w.heap.size (fun _ => True) v (ts.map (planOne zs))) _ ?_ ?_ ?_ ?_ ?_)).mono ?_
  · rw [hW1]; omega
  · rintro ts X Y ⟨xB, xl, xD, x0, x2, x3, v, x1, xR⟩ hq
    rw [hW1] at hq
    exact ⟨xB.trans (hq.below.mono (by omega)), (hq.below.block _ (by omega)).trans xl, (hq.below.block _ (by omega)).trans xD, (hq.below.block _ (by omega)).trans x0, (hq.below.block _ (by omega)).trans x2, (hq.below.block _ (by omega)).trans x3, v, (hq.below.block _ (by omega)).trans x1, R_quiet xR hq⟩
  · rintro ts X ⟨xB, xl, xD, x0, x2, x3, v, x1, xR⟩
    exact ⟨by rw [blk_cell x2]; rfl, by rw [blk_cell x3]; rfl, Kd.C_below hl xB⟩
  · rintro m ts t X hts t0 t1 ⟨xB, xl, xD, x0, x2, x3, v, x1, xR⟩
    obtain ⟨j, hj⟩ : ∃ j : Nat, t.f0 = j := ⟨t.f0.toNat, by omega⟩
    have hjz : j < zs.length := by omega
    obtain ⟨ad, e, rfl, HX, c0, -, -, -, -⟩ := el_T57 hl j hjz
    obtain ⟨done, hdone⟩ : ∃ done, done = ts.map (planOne zs) := ⟨_, rfl⟩
    have HE := hide_ (show ts.map (planOne zs) ++ [planOne zs t] = done ++ [(e.f0, t.f1)] by
      rw [hdone, planOne, hj, Int.toNat_natCast, List.getD, HX.out]
      rfl)
    have hdl : (done.length + 1) * 16 ≤ 140737488355328 := by rw [hdone, List.length_map]; omega
    rw [← hdone] at xR
    clear hdone
    refine round_plain (fun _ => trivial) hRR xl rfl ?_
    clear hRR p0 p1 p2 p3
    dsimp only [v55]
    rw [hj]
    gi_wp2
    have xsz := (Array.getElem?_eq_some_iff.1 xl).1
    refine ⟨alloc_at xl _, ?_⟩
    have r0 := (World.putObj_heap_other (o := .loop (R .busy)) (show w.heap.size ≠ l by omega)).trans (alloc_at x0 (.cells #[.int .i64 j, .int .i64 t.f1, .bool t.f2] 55))
    have r1 := (World.putObj_heap_other (o := .loop (R .busy)) (show w.heap.size + 1 ≠ l by omega)).trans (alloc_at x1 (.cells #[.int .i64 j, .int .i64 t.f1, .bool t.f2] 55))
    have r2 := (World.putObj_heap_other (o := .loop (R .busy)) (show w.heap.size + 2 ≠ l by omega)).trans (alloc_at x2 (.cells #[.int .i64 j, .int .i64 t.f1, .bool t.f2] 55))
    have r3 := (World.putObj_heap_other (o := .loop (R .busy)) (show w.heap.size + 3 ≠ l by omega)).trans (alloc_at x3 (.cells #[.int .i64 j, .int .i64 t.f1, .bool t.f2] 55))
    have rD := (World.putObj_heap_other (o := .loop (R .busy)) (show D ≠ l by omega)).trans (alloc_at xD (.cells #[.int .i64 j, .int .i64 t.f1, .bool t.f2] 55))
    have r55 := (World.putObj_heap_other (o := .loop (R .busy)) (show X.heap.size ≠ l by omega)).trans (World.alloc_heap_new X (.cells #[.int .i64 j, .int .i64 t.f1, .bool t.f2] 55))
    have rl : ((X.alloc (.cells #[.int .i64 j, .int .i64 t.f1, .bool t.f2] 55)).putObj l (.loop (R .busy))).heap[l]? = some (.loop (R .busy)) := World.putObj_heap_same (by simp; omega)
    have rq : Quiet w.heap.size X ((X.alloc (.cells #[.int .i64 j, .int .i64 t.f1, .bool t.f2] 55)).putObj l (.loop (R .busy))) := (Quiet.of_below (below_alloc (Below.refl _ _) _) (by omega)).trans (quiet_putObj (alloc_at xl _) (by omega) _)
    have rB := xB.trans rq.below
    have rR := R_quiet xR rq
    have rK : Keeps l X ((X.alloc (.cells #[.int .i64 j, .int .i64 t.f1, .bool t.f2] 55)).putObj l (.loop (R .busy))) := ⟨by simp, fun k o hk hne _ => (World.putObj_heap_other hne).trans (alloc_at hk _)⟩
    clear rq xR xB x0 x1 x2 x3 xD xl
    generalize ((X.alloc (.cells #[.int .i64 j, .int .i64 t.f1, .bool t.f2] 55)).putObj l (.loop (R .busy))) = X1 at *
    generalize X.heap.size = B55 at *
    gi_wp2
    refine wpIn_region_R (S := fun Y => Below w.heap.size w Y ∧ Y.heap[w.heap.size]? = some (.cells #[.slice (some ad) zs.length c] 28 (0, 0)) ∧ Y.heap[B55]? = some (.cells #[.int .i64 j, .int .i64 t.f1, .bool t.f2] 55 (0, 0))) (by kernel_rfl) ⟨below_drew rB, r0, r55⟩ (fun hSx => ?_)
    refine wpAnyR_take (i := 1) (v := ?v1) (fun _ => trivial) (by kernel_rfl) rfl (by kernel_rfl) (by kernel_rfl) (by kernel_rfl) (fun _ _ _ h => h) (Or.inl ⟨by rfl, ?hy1⟩) (by assumption) ?rest1
    case hy1 =>
      intro w' hSw
      have z0 := blk_cell hSw.2.1 0
      dsimp only [List.getElem_toArray, List.getElem_cons_zero, List.getElem_cons_succ]
      go_simp
      try (with_reducible rfl)
    try simp only [Act.put, List.getElem_toArray, List.getElem_cons_zero, List.getElem_cons_succ, List.setIfInBounds_toArray, List.set_cons_zero, List.set_cons_succ]
    refine wpAnyR_take (i := 2) (v := ?v2) (fun _ => trivial) (by kernel_rfl) rfl (by kernel_rfl) (by kernel_rfl) (by kernel_rfl) (fun _ _ _ h => h) (Or.inl ⟨by rfl, ?hy2⟩) (by assumption) ?rest2
    case hy2 =>
      intro w' hSw
      dsimp only [List.getElem_toArray, List.getElem_cons_zero, List.getElem_cons_succ]
      go_simp
      try (with_reducible rfl)
    try simp only [Act.put, List.getElem_toArray, List.getElem_cons_zero, List.getElem_cons_succ, List.setIfInBounds_toArray, List.set_cons_zero, List.set_cons_succ]
    refine wpAnyR_take (i := 3) (v := ?v3) (fun _ => trivial) (by kernel_rfl) rfl (by kernel_rfl) (by kernel_rfl) (by kernel_rfl) (fun _ _ _ h => h) (Or.inl ⟨by rfl, ?hy3⟩) (by assumption) ?rest3
    case hy3 =>
      intro w' hSw
      have z0 := blk_cell hSw.2.2 0
      dsimp only [List.getElem_toArray, List.getElem_cons_zero, List.getElem_cons_succ]
      go_simp
      try (with_reducible rfl)
    try simp only [Act.put, List.getElem_toArray, List.getElem_cons_zero, List.getElem_cons_succ, List.setIfInBounds_toArray, List.set_cons_zero, List.set_cons_succ]
    refine wpAnyR_take (i := 4) (v := ?v4) (fun _ => trivial) (by kernel_rfl) rfl (by kernel_rfl) (by kernel_rfl) (by kernel_rfl) (fun _ _ _ h => h) (Or.inl ⟨by rfl, ?hy4⟩) (by assumption) ?rest4
    case hy4 =>
      intro w' hSw
      dsimp only [List.getElem_toArray, List.getElem_cons_zero, List.getElem_cons_succ]
      go_simp
      try (with_reducible rfl)
    try simp only [Act.put, List.getElem_toArray, List.getElem_cons_zero, List.getElem_cons_succ, List.setIfInBounds_toArray, List.set_cons_zero, List.set_cons_succ]
    refine wpAnyR_take (i := 5) (v := ?v5) (fun _ => trivial) (by kernel_rfl) rfl (by kernel_rfl) (by kernel_rfl) (by kernel_rfl) (fun _ _ _ h => h) (Or.inl ⟨by rfl, ?hy5⟩) (by assumption) ?rest5
    case hy5 =>
      intro w' hSw
      dsimp only [List.getElem_toArray, List.getElem_cons_zero, List.getElem_cons_succ]
      go_simp
      try (with_reducible rfl)
    try simp only [Act.put, List.getElem_toArray, List.getElem_cons_zero, List.getElem_cons_succ, List.setIfInBounds_toArray, List.set_cons_zero, List.set_cons_succ]
    refine wpAnyR_take (i := 6) (v := ?v6) (fun _ => trivial) (by kernel_rfl) rfl (by kernel_rfl) (by kernel_rfl) (by kernel_rfl) (fun _ _ _ h => h) (Or.inl ⟨by rfl, ?hy6⟩) (by assumption) ?rest6
    case hy6 =>
      intro w' hSw
      have z0 := pw_cell_below hSw.1 c0
      dsimp only [List.getElem_toArray, List.getElem_cons_zero, List.getElem_cons_succ]
      go_simp
      try (with_reducible rfl)
    try simp only [Act.put, List.getElem_toArray, List.getElem_cons_zero, List.getElem_cons_succ, List.setIfInBounds_toArray, List.set_cons_zero, List.set_cons_succ]
    refine wpAnyR_take (i := 7) (v := ?v7) (fun _ => trivial) (by kernel_rfl) rfl (by kernel_rfl) (by kernel_rfl) (by kernel_rfl) (fun _ _ _ h => h) (Or.inl ⟨by rfl, ?hy7⟩) (by assumption) ?rest7
    case hy7 =>
      intro w' hSw
      dsimp only [List.getElem_toArray, List.getElem_cons_zero, List.getElem_cons_succ]
      go_simp
      try (with_reducible rfl)
    try simp only [Act.put, List.getElem_toArray, List.getElem_cons_zero, List.getElem_cons_succ, List.setIfInBounds_toArray, List.set_cons_zero, List.set_cons_succ]
    refine wpAnyR_take (i := 8) (v := ?v8) (fun _ => trivial) (by kernel_rfl) rfl (by kernel_rfl) (by kernel_rfl) (by kernel_rfl) (fun _ _ _ h => h) (Or.inl ⟨by rfl, ?hy8⟩) (by assumption) ?rest8
    case hy8 =>
      intro w' hSw
      have z0 := blk_cell hSw.2.2 1
      dsimp only [List.getElem_toArray, List.getElem_cons_zero, List.getElem_cons_succ]
      go_simp
      try (with_reducible rfl)
    try simp only [Act.put, List.getElem_toArray, List.getElem_cons_zero, List.getElem_cons_succ, List.setIfInBounds_toArray, List.set_cons_zero, List.set_cons_succ]
    refine wpAnyR_take (i := 9) (v := ?v9) (fun _ => trivial) (by kernel_rfl) rfl (by kernel_rfl) (by kernel_rfl) (by kernel_rfl) (fun _ _ _ h => h) (Or.inl ⟨by rfl, ?hy9⟩) (by assumption) ?rest9
    case hy9 =>
      intro w' hSw
      dsimp only [List.getElem_toArray, List.getElem_cons_zero, List.getElem_cons_succ]
      go_simp
      try (with_reducible rfl)
    try simp only [Act.put, List.getElem_toArray, List.getElem_cons_zero, List.getElem_cons_succ, List.setIfInBounds_toArray, List.set_cons_zero, List.set_cons_succ]
    refine wpAnyR_two (i := 0) (j := 10) (by kernel_rfl) rfl (by rfl) rfl (by rfl) (fun K hK => ?_) (fun K hK => ?_)
    · refine opIn_value (w' := X1.drew) (v := v) (fun _ => trivial) (by intro c h; cases h) ?hrunA0 ?_
      case hrunA0 =>
        have z0 := blk_cell r1 0
        dsimp only [List.getElem_toArray, List.getElem_cons_zero, List.getElem_cons_succ]
        go_simp
      refine hK _ _ hSx (fun hSx => ?_)
      clear hK
      try simp only [Act.put, List.getElem_toArray, List.getElem_cons_zero, List.getElem_cons_succ, List.setIfInBounds_toArray, List.set_cons_zero, List.set_cons_succ]
      refine wpAnyR_only (i := 10) (by kernel_rfl) rfl (by rfl) (fun K hK => ?_)
      refine opIn_value (w' := X1.drew.alloc (.cells #[.int .i64 e.f0, .int .i64 t.f1] 24)) (v := .slice (some ⟨X1.heap.size, 0, none⟩) 1 1) (fun _ => trivial) (by intro c h; cases h) ?hrunA10 ?_
      case hrunA10 =>
        dsimp only [List.getElem_toArray, List.getElem_cons_zero, List.getElem_cons_succ]
        go_simp
      refine hK _ _ ⟨below_alloc (below_drew rB) _, alloc_at (show X1.drew.heap[_]? = _ from r0) _, alloc_at (show X1.drew.heap[_]? = _ from r55) _⟩ (fun hSx => ?_)
      clear hK
      try simp only [Act.put, List.getElem_toArray, List.getElem_cons_zero, List.getElem_cons_succ, List.setIfInBounds_toArray, List.set_cons_zero, List.set_cons_succ]
      refine wpAnyR_only (i := 11) (by kernel_rfl) rfl (by rfl) (fun K hK => ?_)
      refine opIn_of_wp (by intro c h; cases h) ?_
      dsimp only [List.getElem_toArray, List.getElem_cons_zero, List.getElem_cons_succ]
      refine append_op kPair (w0 := w) (W := X1.drew) w.heap.size rfl (.tmp 11) (.tmp 21) 22 24 (.agg #[.int .i64 0, .int .i64 0]) 16 rfl Try.underlying22 info24 rfl (by decide) (by decide) v done (e.f0, t.f1) [.int .i64 e.f0, .int .i64 t.f1] (fun _ => True) (fun _ => False) rfl rfl (kPair_M _ _) (fun _ h => h.elim) (fun _ _ => trivial) (Kd.R_drew rR) (below_drew rB) (below_drew rB).size hdl ?_
      intro v1 w2 hR1 hB2 hg2 hat2
      clear hat2
      have hty : ∀ k, v.ownBlock = some k → ∃ cells, X1.drew.heap[k]? = some (.cells cells 24 (0, 0)) := Kd.R_typed (Kd.R_drew rR)
      have s0 := kept_grown hg2 hty (show X1.drew.heap[_]? = _ from r0) (fun _ _ h => by cases h)
      have s1 := kept_grown hg2 hty (show X1.drew.heap[_]? = _ from r1) (fun _ _ h => by cases h)
      have s2 := kept_grown hg2 hty (show X1.drew.heap[_]? = _ from r2) (fun _ _ h => by cases h)
      have s3 := kept_grown hg2 hty (show X1.drew.heap[_]? = _ from r3) (fun _ _ h => by cases h)
      have s55 := kept_grown hg2 hty (show X1.drew.heap[_]? = _ from r55) (fun _ _ h => by cases h)
      have sl := kept_grown hg2 hty (show X1.drew.heap[_]? = _ from rl) (fun _ _ h => by cases h)
      have sD := kept_grown hg2 hty (show X1.drew.heap[_]? = _ from rD) (fun _ _ h => by cases h)
      have sK : Keeps l X w2 := ⟨Nat.le_trans rK.size (show X1.drew.heap.size ≤ _ from hg2.size), fun k o hk hne hc => kept_grown hg2 hty (show X1.drew.heap[_]? = _ from rK.same k o hk hne hc) (fun cs f h => (hc cs 24 f h).2 rfl)⟩
      refine hK _ _ ⟨hB2, s0, s55⟩ (fun hSx => ?_)
      clear hK
      try simp only [Act.put, List.getElem_toArray, List.getElem_cons_zero, List.getElem_cons_succ, List.setIfInBounds_toArray, List.set_cons_zero, List.set_cons_succ]
      refine wpAnyR_only (i := 12) (by kernel_rfl) rfl (by rfl) (fun K hK => ?_)
      obtain ⟨A1, c1, rfl, -, -⟩ := Kd.R_reads hR1
      have b1 := blk_cell s1 0
      have b1f : w2.frozen? ⟨w.heap.size + 1, 0, none⟩ = false := by simp [World.frozen?, s1]
      refine opIn_skip (w' := w2.setCell ⟨w.heap.size + 1, 0, none⟩ (.slice A1 (done ++ [(e.f0, t.f1)]).length c1)) (fun _ => trivial) (by intro c h; cases h) ?hrunA12 ?_
      case hrunA12 =>
        dsimp only [List.getElem_toArray, List.getElem_cons_zero, List.getElem_cons_succ]
        go_simp
      refine hK _ _ ⟨below_set hB2 (by omega), blk_far s0 (by simp) _, blk_far s55 (by simp; omega) _⟩ (fun hSx => ?_)
      clear hK
      try simp only [Act.put, List.getElem_toArray, List.getElem_cons_zero, List.getElem_cons_succ, List.setIfInBounds_toArray, List.set_cons_zero, List.set_cons_succ]
      refine wpAnyR_done (by kernel_rfl) ?_ _
      have u1 := blk_put s1 0 (.slice A1 (done ++ [(e.f0, t.f1)]).length c1) (cs' := #[(.slice A1 (done ++ [(e.f0, t.f1)]).length c1)]) rfl
      have u0 := blk_far s0 (p := ⟨w.heap.size + 1, 0, none⟩) (by simp) (.slice A1 (done ++ [(e.f0, t.f1)]).length c1)
      have u2 := blk_far s2 (p := ⟨w.heap.size + 1, 0, none⟩) (by simp) (.slice A1 (done ++ [(e.f0, t.f1)]).length c1)
      have u3 := blk_far s3 (p := ⟨w.heap.size + 1, 0, none⟩) (by simp) (.slice A1 (done ++ [(e.f0, t.f1)]).length c1)
      have ul := (Below.heap_setCell w2 ⟨w.heap.size + 1, 0, none⟩ (.slice A1 (done ++ [(e.f0, t.f1)]).length c1) l (by simp; omega)).trans sl
      have uD := (Below.heap_setCell w2 ⟨w.heap.size + 1, 0, none⟩ (.slice A1 (done ++ [(e.f0, t.f1)]).length c1) D (by simp; omega)).trans sD
      have uR := Kd.R_set hR1 s1 (by decide) 0 (.slice A1 (done ++ [(e.f0, t.f1)]).length c1)
      have uB := below_set (j := 0) (v := (.slice A1 (done ++ [(e.f0, t.f1)]).length c1)) hB2 (show w.heap.size ≤ w.heap.size + 1 by omega)
      have uK : Keeps l X (w2.setCell ⟨w.heap.size + 1, 0, none⟩ (.slice A1 (done ++ [(e.f0, t.f1)]).length c1)) := ⟨by simp; exact sK.size, fun k o hk hne hc => by
        have hk1 := sK.same k o hk hne hc
        refine (Below.heap_setCell w2 ⟨w.heap.size + 1, 0, none⟩ (.slice A1 (done ++ [(e.f0, t.f1)]).length c1) k (fun h => ?_)).trans hk1
        replace h : k = w.heap.size + 1 := h
        rw [h, s1] at hk1
        exact (hc _ _ _ (Option.some.inj hk1).symm).1 rfl⟩
      clear s0 s1 s2 s3 sl sD s55 hR1 hg2 sK b1 b1f hSx hB2
      generalize w2.setCell ⟨w.heap.size + 1, 0, none⟩ (.slice A1 (done ++ [(e.f0, t.f1)]).length c1) = w3 at *
      gi_wp2
      have hlt := (Array.getElem?_eq_some_iff.1 ul).1
      refine ⟨⟨?_, World.putObj_heap_same hlt, (World.putObj_heap_other (by omega)).trans uD, (World.putObj_heap_other (by omega)).trans u0, (World.putObj_heap_other (by omega)).trans u2, (World.putObj_heap_other (by omega)).trans u3, (.slice A1 (done ++ [(e.f0, t.f1)]).length c1), (World.putObj_heap_other (by omega)).trans u1, ?_⟩, ?_⟩
      · exact uB.trans ((quiet_putObj (n := w.heap.size) ul (by omega) _).below)
      · rw [HE.out]; exact R_quiet uR (quiet_putObj (n := w.heap.size) ul (by omega) _)
      · exact ⟨by simp; exact uK.size, fun k o hk hne hc => (World.putObj_heap_other hne).trans (uK.same k o hk hne hc)⟩
    · refine opIn_value (w' := X1.drew.alloc (.cells #[.int .i64 e.f0, .int .i64 t.f1] 24)) (v := .slice (some ⟨X1.heap.size, 0, none⟩) 1 1) (fun _ => trivial) (by intro c h; cases h) ?hrunB10 ?_
      case hrunB10 =>
        dsimp only [List.getElem_toArray, List.getElem_cons_zero, List.getElem_cons_succ]
        go_simp
      refine hK _ _ ⟨below_alloc (below_drew rB) _, alloc_at (show X1.drew.heap[_]? = _ from r0) _, alloc_at (show X1.drew.heap[_]? = _ from r55) _⟩ (fun hSx => ?_)
      clear hK
      try simp only [Act.put, List.getElem_toArray, List.getElem_cons_zero, List.getElem_cons_succ, List.setIfInBounds_toArray, List.set_cons_zero, List.set_cons_succ]
      refine wpAnyR_only (i := 0) (by kernel_rfl) rfl (by rfl) (fun K hK => ?_)
      refine opIn_value (w' := X1.drew.alloc (.cells #[.int .i64 e.f0, .int .i64 t.f1] 24)) (v := v) (fun _ => trivial) (by intro c h; cases h) ?hrunB0 ?_
      case hrunB0 =>
        have z0 := blk_cell (alloc_at r1 (.cells #[.int .i64 e.f0, .int .i64 t.f1] 24)) 0
        dsimp only [List.getElem_toArray, List.getElem_cons_zero, List.getElem_cons_succ]
        go_simp
      refine hK _ _ ⟨below_alloc (below_drew rB) _, alloc_at (show X1.drew.heap[_]? = _ from r0) _, alloc_at (show X1.drew.heap[_]? = _ from r55) _⟩ (fun hSx => ?_)
      clear hK
      try simp only [Act.put, List.getElem_toArray, List.getElem_cons_zero, List.getElem_cons_succ, List.setIfInBounds_toArray, List.set_cons_zero, List.set_cons_succ]
      refine wpAnyR_only (i := 11) (by kernel_rfl) rfl (by rfl) (fun K hK => ?_)
      refine opIn_of_wp (by intro c h; cases h) ?_
      dsimp only [List.getElem_toArray, List.getElem_cons_zero, List.getElem_cons_succ]
      refine append_op kPair (w0 := w) (W := X1.drew) w.heap.size rfl (.tmp 11) (.tmp 21) 22 24 (.agg #[.int .i64 0, .int .i64 0]) 16 rfl Try.underlying22 info24 rfl (by decide) (by decide) v done (e.f0, t.f1) [.int .i64 e.f0, .int .i64 t.f1] (fun _ => True) (fun _ => False) rfl rfl (kPair_M _ _) (fun _ h => h.elim) (fun _ _ => trivial) (Kd.R_drew rR) (below_drew rB) (below_drew rB).size hdl ?_
      intro v1 w2 hR1 hB2 hg2 hat2
      clear hat2
      have hty : ∀ k, v.ownBlock = some k → ∃ cells, X1.drew.heap[k]? = some (.cells cells 24 (0, 0)) := Kd.R_typed (Kd.R_drew rR)
      have s0 := kept_grown hg2 hty (show X1.drew.heap[_]? = _ from r0) (fun _ _ h => by cases h)
      have s1 := kept_grown hg2 hty (show X1.drew.heap[_]? = _ from r1) (fun _ _ h => by cases h)
      have s2 := kept_grown hg2 hty (show X1.drew.heap[_]? = _ from r2) (fun _ _ h => by cases h)
      have s3 := kept_grown hg2 hty (show X1.drew.heap[_]? = _ from r3) (fun _ _ h => by cases h)
      have s55 := kept_grown hg2 hty (show X1.drew.heap[_]? = _ from r55) (fun _ _ h => by cases h)
      have sl := kept_grown hg2 hty (show X1.drew.heap[_]? = _ from rl) (fun _ _ h => by cases h)
      have sD := kept_grown hg2 hty (show X1.drew.heap[_]? = _ from rD) (fun _ _ h => by cases h)
      have sK : Keeps l X w2 := ⟨Nat.le_trans rK.size (show X1.drew.heap.size ≤ _ from hg2.size), fun k o hk hne hc => kept_grown hg2 hty (show X1.drew.heap[_]? = _ from rK.same k o hk hne hc) (fun cs f h => (hc cs 24 f h).2 rfl)⟩
      refine hK _ _ ⟨hB2, s0, s55⟩ (fun hSx => ?_)
      clear hK
      try simp only [Act.put, List.getElem_toArray, List.getElem_cons_zero, List.getElem_cons_succ, List.setIfInBounds_toArray, List.set_cons_zero, List.set_cons_succ]
      refine wpAnyR_only (i := 12) (by kernel_rfl) rfl (by rfl) (fun K hK => ?_)
      obtain ⟨A1, c1, rfl, -, -⟩ := Kd.R_reads hR1
      have b1 := blk_cell s1 0
      have b1f : w2.frozen? ⟨w.heap.size + 1, 0, none⟩ = false := by simp [World.frozen?, s1]
      refine opIn_skip (w' := w2.setCell ⟨w.heap.size + 1, 0, none⟩ (.slice A1 (done ++ [(e.f0, t.f1)]).length c1)) (fun _ => trivial) (by intro c h; cases h) ?hrunB12 ?_
      case hrunB12 =>
        dsimp only [List.getElem_toArray, List.getElem_cons_zero, List.getElem_cons_succ]
        go_simp
      refine hK _ _ ⟨below_set hB2 (by omega), blk_far s0 (by simp) _, blk_far s55 (by simp; omega) _⟩ (fun hSx => ?_)
      clear hK
      try simp only [Act.put, List.getElem_toArray, List.getElem_cons_zero, List.getElem_cons_succ, List.setIfInBounds_toArray, List.set_cons_zero, List.set_cons_succ]
      refine wpAnyR_done (by kernel_rfl) ?_ _
      have u1 := blk_put s1 0 (.slice A1 (done ++ [(e.f0, t.f1)]).length c1) (cs' := #[(.slice A1 (done ++ [(e.f0, t.f1)]).length c1)]) rfl
      have u0 := blk_far s0 (p := ⟨w.heap.size + 1, 0, none⟩) (by simp) (.slice A1 (done ++ [(e.f0, t.f1)]).length c1)
      have u2 := blk_far s2 (p := ⟨w.heap.size + 1, 0, none⟩) (by simp) (.slice A1 (done ++ [(e.f0, t.f1)]).length c1)
      have u3 := blk_far s3 (p := ⟨w.heap.size + 1, 0, none⟩) (by simp) (.slice A1 (done ++ [(e.f0, t.f1)]).length c1)
      have ul := (Below.heap_setCell w2 ⟨w.heap.size + 1, 0, none⟩ (.slice A1 (done ++ [(e.f0, t.f1)]).length c1) l (by simp; omega)).trans sl
      have uD := (Below.heap_setCell w2 ⟨w.heap.size + 1, 0, none⟩ (.slice A1 (done ++ [(e.f0, t.f1)]).length c1) D (by simp; omega)).trans sD
      have uR := Kd.R_set hR1 s1 (by decide) 0 (.slice A1 (done ++ [(e.f0, t.f1)]).length c1)
      have uB := below_set (j := 0) (v := (.slice A1 (done ++ [(e.f0, t.f1)]).length c1)) hB2 (show w.heap.size ≤ w.heap.size + 1 by omega)
      have uK : Keeps l X (w2.setCell ⟨w.heap.size + 1, 0, none⟩ (.slice A1 (done ++ [(e.f0, t.f1)]).length c1)) := ⟨by simp; exact sK.size, fun k o hk hne hc => by
        have hk1 := sK.same k o hk hne hc
        refine (Below.heap_setCell w2 ⟨w.heap.size + 1, 0, none⟩ (.slice A1 (done ++ [(e.f0, t.f1)]).length c1) k (fun h => ?_)).trans hk1
        replace h : k = w.heap.size + 1 := h
        rw [h, s1] at hk1
        exact (hc _ _ _ (Option.some.inj hk1).symm).1 rfl⟩
      clear s0 s1 s2 s3 sl sD s55 hR1 hg2 sK b1 b1f hSx hB2
      generalize w2.setCell ⟨w.heap.size + 1, 0, none⟩ (.slice A1 (done ++ [(e.f0, t.f1)]).length c1) = w3 at *
      gi_wp2
      have hlt := (Array.getElem?_eq_some_iff.1 ul).1
      refine ⟨⟨?_, World.putObj_heap_same hlt, (World.putObj_heap_other (by omega)).trans uD, (World.putObj_heap_other (by omega)).trans u0, (World.putObj_heap_other (by omega)).trans u2, (World.putObj_heap_other (by omega)).trans u3, (.slice A1 (done ++ [(e.f0, t.f1)]).length c1), (World.putObj_heap_other (by omega)).trans u1, ?_⟩, ?_⟩
      · exact uB.trans ((quiet_putObj (n := w.heap.size) ul (by omega) _).below)
      · rw [HE.out]; exact R_quiet uR (quiet_putObj (n := w.heap.size) ul (by omega) _)
      · exact ⟨by simp; exact uK.size, fun k o hk hne hc => (World.putObj_heap_other hne).trans (uK.same k o hk hne hc)⟩
  · refine ⟨hB4.trans (by exact ⟨rfl, rfl, rfl, by simp; omega, fun k hk => (Below.heap_alloc _ _ k (by simp; omega)).trans (Below.heap_alloc _ _ k (by omega))⟩), ?_, alloc_at ?_ _, alloc_at (alloc_at p0 _) _, alloc_at (alloc_at p2 _) _, alloc_at (alloc_at p3 _) _, _, alloc_at (alloc_at p1 _) _, Kd.R_nil _ _ _ _ _⟩
    · have := World.alloc_heap_new (w4.alloc (.deferred (some []))) (.loop (R .ready))
      rwa [World.size_alloc, hD, hl2] at this
    · have := World.alloc_heap_new w4 (.deferred (some []))
      rwa [hD] at this
  · rintro e Y ⟨hv, xB, xl, xD, x0, x2, x3, v, x1, xR⟩
    refine ⟨hv, xl, ?_⟩
    have hlt := (Array.getElem?_eq_some_iff.1 xl).1
    have hq := quiet_putObj (n := w.heap.size) xl (by omega) (.loop (R .exhausted))
    have yD := (World.putObj_heap_other (o := .loop (R .exhausted)) (show D ≠ l by omega)).trans xD
    have y1 := (World.putObj_heap_other (o := .loop (R .exhausted)) (show w.heap.size + 1 ≠ l by omega)).trans x1
    have yR := R_quiet xR hq
    have yB := xB.trans hq.below
    clear hRR xB xl xD x0 x2 x3 x1 xR hq p0 p1 p2 p3
    generalize Y.putObj l (.loop (R .exhausted)) = Y1 at *
    have z1 := blk_cell y1 0
    gi_wp2
    refine ⟨by simp, .inl ⟨_, _, rfl, run_takeDeferred yD, ?_⟩⟩
    have hq := quiet_putD (n := w.heap.size) yD (by omega) (.deferred none)
    exact ⟨_, results_tmp rfl _ _ _, v, rfl, R_quiet yR hq, yB.trans hq.below⟩
end Go.Proofs.Ytmjedjhgomlfiaa
