/- The document's plan of a path: what the Go function answers. It writes nothing that was there. -/
import Derived.Test.YtmjedjhgomlfiaaTurns
import Derived.StillTailTactics
import Derived.RegionTactic
import Derived.Deep.RegionWith
set_option linter.unusedSimpArgs false
namespace Go.Proofs.Ytmjedjhgomlfiaa
open Go.RowKit Go.Proofs.YtmjedjhgomlfiaaW.PrintWords Go.Proofs.Ytmjedjhgomlfiaa.PAuditTells

/-- The pair of a turn. -/
def planOne (l : List S57) (t : S55) : Int × Int := ((l.getD t.f0.toNat z57).f0, t.f1)
/-- The plan of a path. -/
def planW (l : List S57) (b : Bool) : List (Int × Int) := (turnsW l b).map (planOne l)
theorem downT_at (l : List S57) : ∀ (k : Nat) (t : S55), t ∈ downT l k → 0 ≤ t.f0 ∧ t.f0 < k
  | 0, t, h => absurd h (by simp [downT])
  | k + 1, t, h => by
    rw [downT] at h
    rcases List.mem_cons.1 h with h | h
    · subst h; constructor <;> simp <;> omega
    · have := downT_at l k t h; omega
theorem upT_at (l : List S57) (b : Bool) : ∀ (m i : Nat) (t : S55), t ∈ upT l b i m → 0 ≤ t.f0 ∧ t.f0 < ((i + m : Nat) : Int)
  | 0, i, t, h => absurd h (by simp [upT])
  | m + 1, i, t, h => by
    rw [upT] at h
    rcases List.mem_append.1 h with h | h
    · unfold upOne at h
      split at h
      · split at h
        · simp at h; subst h; constructor <;> simp <;> omega
        · simp at h
      · simp at h; subst h; constructor <;> simp <;> omega
    · have := upT_at l b m (i + 1) t h; omega
theorem turnsW_at (l : List S57) (b : Bool) (t : S55) (h : t ∈ turnsW l b) : 0 ≤ t.f0 ∧ t.f0 < l.length := by
  rw [turnsW] at h
  rcases List.mem_append.1 h with h | h
  · exact downT_at l _ t h
  · have := upT_at l b l.length 0 t h
    simpa using this
theorem take_snocP {α : Type} (l : List α) (i : Nat) (x : α) (h : l[i]? = some x) : l.take (i + 1) = l.take i ++ [x] := by
  rw [List.take_add_one, h]; rfl

theorem ite_of {c : Prop} [Decidable c] {a b : Prop} (h : c) (ha : a) : if c then a else b := by rw [if_pos h]; exact ha
/-- append(v, x) as one operation of a drawn region. -/
theorem append_op {P : Program} {o : Oper} {a : Act} {Q : Exit → Act → World → Prop} {Kc : Act → World → Prop} {α : Type} (d : Kd α) {w0 W : World} (base : Nat) (hgd : o.guard = none) (s x : Operand) (t e : TypeId) (z : Value) (bytes : Nat)
    (ho : o.op = .call { callee := .builtin .append, args := #[s, x], argTypes := #[t, t] })
    (ht : P.underlying t = some (.slice e)) (hinfo : (P.info? e).map (fun i => (i.zero, i.size, i.bytes)) = some (some z, d.sz, bytes)) (hz : z.cells.size = d.sz) (hs0 : 0 < d.sz) (hb0 : 0 < bytes)
    (v : Value) (xs : List α) (p : α) (cs : List Value) (ok okp : Nat → Prop) (hs : a.eval s = v) (hx : a.eval x = .slice (some ⟨W.heap.size, 0, none⟩) 1 1) (hp : d.M W base okp p cs) (hokp : ∀ k, okp k → ok k ∧ some k ≠ v.ownBlock) (hfresh : ∀ k, W.heap.size ≤ k → ok k)
    (HO : d.R e W base ok v xs) (HB : Below base w0 W) (hbase : base ≤ W.heap.size) (hl : (xs.length + 1) * bytes ≤ 140737488355328)
    (h : ∀ v1 w1, d.R e w1 base ok v1 (xs ++ [p]) → Below base w0 w1 → W.grownBy w1 v.ownBlock → (v1.ownBlock = v.ownBlock ∨ ∃ b, v1.ownBlock = some b ∧ W.heap.size ≤ b) → Kc (a.put o.dst v1) w1) :
    Oper.wp P o a (W.alloc (.cells cs.toArray e)) Kc Q := by
  have hw : Region.wanted o (yielded #[] a.tmps) = true := by unfold Region.wanted; rw [hgd]
  have H := Kd.R_append_step (ops := #[]) (Q := Q) (Kc := Kc) d base hw s x t e z bytes ho ht hinfo hz hs0 hb0 v xs p cs ok okp hs hx hp hokp hfresh HO HB hbase hl h
  rw [if_pos hw] at H
  exact H

set_option maxRecDepth 100000 in
set_option maxHeartbeats 3200000 in
theorem refPlan_any (l : List S57) (A : Option Addr) (c : Nat) (b : Bool) (w : World) (hl : Kd.C k57 w A l.length l) (hll : l.length ≤ 100000) :
    Calls Try.prog 12 #[.slice A l.length c, .bool b] w fun e w' => ∃ v, e = .returned v ∧ kPair.R 24 w' w.heap.size (fun _ => True) v (planW l b) ∧ Below w.heap.size w w' := by
  have ht := turns_any l A c b w hl (by omega)
  have hat := turnsW_at l b
  have hlen := turnsW_length l b
  have HP := hide_ (show planW l b = (turnsW l b).map (planOne l) from rfl)
  generalize planW l b = res at *
  generalize turnsW l b = ts at *
  go_enter Try.func12, Try.ntmps12
  go_wp2_with (go_at_call 24; refine ht.mono ?_; rintro e w1 ⟨vt, rfl, hT, hB1⟩; obtain ⟨At, ct, rfl, hct, hCt⟩ := Kd.R_reads hT)
  go_loopw [7, 5] (fun iv lv wr => ∃ (i : Nat) (v0 : Value), i ≤ ts.length ∧ iv = .int .i64 i ∧ v0 = lv ∧ kPair.R 24 wr w1.heap.size (fun _ => True) v0 ((ts.take i).map (planOne l)) ∧ Below w1.heap.size w1 wr) (fun iv _ _ => ts.length - (intOf iv).toNat)
  case atStart => exact ⟨0, _, Nat.zero_le _, rfl, rfl, Kd.R_nil _ _ _ _ _, Below.refl _ _⟩
  case round =>
    obtain ⟨i, v, hi, rfl, rfl, hR, hBr⟩ := hrel
    by_cases hlt : i < ts.length
    · obtain ⟨at', t, rfl, HT, t0, t1, _⟩ := el_T55 hCt i hlt
      obtain ⟨a1, a2⟩ := hat t (List.mem_of_getElem? HT.out)
      obtain ⟨j, hj⟩ : ∃ j : Nat, t.f0 = j := ⟨t.f0.toNat, by omega⟩
      obtain ⟨ad, e, rfl, HX, c0, c1, _, _, _⟩ := el_T57 (Kd.C_below hl hB1) j (by omega)
      have HE := hide_ (show (ts.take (i + 1)).map (planOne l) = (ts.take i).map (planOne l) ++ [(e.f0, t.f1)] by
        rw [take_snocP _ _ _ HT.out, List.map_append]
        show _ ++ [planOne l t] = _
        rw [planOne, hj, Int.toNat_natCast, List.getD, HX.out]
        rfl)
      have hll2 : ((ts.take i).map (planOne l)).length ≤ 200000 := by rw [List.length_map, List.length_take]; omega
      rw [hj] at t0
      have hjl : j < l.length := by omega
      generalize ((ts.take i).map (planOne l)) = done at *
      clear hj a1 a2
      go_wp2
      refine wp_region_held_drew (S := fun W => Below w1.heap.size w1 W) (by kernel_rfl) (pw_below_drewN hBr 1) (fun hHeld => ?_)
      refine wpAnyH_take (i := 0) (v := ?v0) rfl (by kernel_rfl) (by kernel_rfl) (by kernel_rfl) (fun _ _ _ h => h) (Or.inl ⟨by rfl, ?hy0⟩) (by assumption) ?rest0
      case hy0 =>
        intro w' hSw
        have z0 := pw_cell_below hSw t0
        have z1 := pw_cell_below hSw t1
        have z2 := pw_cell_below hSw c0
        dsimp only [List.getElem_toArray, List.getElem_cons_zero, List.getElem_cons_succ]
        go_simp
        try (with_reducible rfl)
      try simp only [Act.put, List.getElem_toArray, List.getElem_cons_zero, List.getElem_cons_succ, List.setIfInBounds_toArray, List.set_cons_zero, List.set_cons_succ]
      refine wpAnyH_take (i := 1) (v := ?v1) rfl (by kernel_rfl) (by kernel_rfl) (by kernel_rfl) (fun _ _ _ h => h) (Or.inl ⟨by rfl, ?hy1⟩) (by assumption) ?rest1
      case hy1 =>
        intro w' hSw
        have z0 := pw_cell_below hSw t0
        have z1 := pw_cell_below hSw t1
        have z2 := pw_cell_below hSw c0
        dsimp only [List.getElem_toArray, List.getElem_cons_zero, List.getElem_cons_succ]
        go_simp
        try (with_reducible rfl)
      try simp only [Act.put, List.getElem_toArray, List.getElem_cons_zero, List.getElem_cons_succ, List.setIfInBounds_toArray, List.set_cons_zero, List.set_cons_succ]
      refine wpAnyH_take (i := 2) (v := ?v2) rfl (by kernel_rfl) (by kernel_rfl) (by kernel_rfl) (fun _ _ _ h => h) (Or.inl ⟨by rfl, ?hy2⟩) (by assumption) ?rest2
      case hy2 =>
        intro w' hSw
        have z0 := pw_cell_below hSw t0
        have z1 := pw_cell_below hSw t1
        have z2 := pw_cell_below hSw c0
        dsimp only [List.getElem_toArray, List.getElem_cons_zero, List.getElem_cons_succ]
        go_simp
        try (with_reducible rfl)
      try simp only [Act.put, List.getElem_toArray, List.getElem_cons_zero, List.getElem_cons_succ, List.setIfInBounds_toArray, List.set_cons_zero, List.set_cons_succ]
      refine wpAnyH_take (i := 3) (v := ?v3) rfl (by kernel_rfl) (by kernel_rfl) (by kernel_rfl) (fun _ _ _ h => h) (Or.inl ⟨by rfl, ?hy3⟩) (by assumption) ?rest3
      case hy3 =>
        intro w' hSw
        have z0 := pw_cell_below hSw t0
        have z1 := pw_cell_below hSw t1
        have z2 := pw_cell_below hSw c0
        dsimp only [List.getElem_toArray, List.getElem_cons_zero, List.getElem_cons_succ]
        go_simp
        try (with_reducible rfl)
      try simp only [Act.put, List.getElem_toArray, List.getElem_cons_zero, List.getElem_cons_succ, List.setIfInBounds_toArray, List.set_cons_zero, List.set_cons_succ]
      refine wpAnyH_take (i := 4) (v := ?v4) rfl (by kernel_rfl) (by kernel_rfl) (by kernel_rfl) (fun _ _ _ h => h) (Or.inl ⟨by rfl, ?hy4⟩) (by assumption) ?rest4
      case hy4 =>
        intro w' hSw
        have z0 := pw_cell_below hSw t0
        have z1 := pw_cell_below hSw t1
        have z2 := pw_cell_below hSw c0
        dsimp only [List.getElem_toArray, List.getElem_cons_zero, List.getElem_cons_succ]
        go_simp
        try (with_reducible rfl)
      try simp only [Act.put, List.getElem_toArray, List.getElem_cons_zero, List.getElem_cons_succ, List.setIfInBounds_toArray, List.set_cons_zero, List.set_cons_succ]
      refine wpAnyH_take (i := 5) (v := ?v5) rfl (by kernel_rfl) (by kernel_rfl) (by kernel_rfl) (fun _ _ _ h => h) (Or.inl ⟨by rfl, ?hy5⟩) (by assumption) ?rest5
      case hy5 =>
        intro w' hSw
        have z0 := pw_cell_below hSw t0
        have z1 := pw_cell_below hSw t1
        have z2 := pw_cell_below hSw c0
        dsimp only [List.getElem_toArray, List.getElem_cons_zero, List.getElem_cons_succ]
        go_simp
        try (with_reducible rfl)
      try simp only [Act.put, List.getElem_toArray, List.getElem_cons_zero, List.getElem_cons_succ, List.setIfInBounds_toArray, List.set_cons_zero, List.set_cons_succ]
      refine wpAnyH_take (i := 6) (v := ?v6) rfl (by kernel_rfl) (by kernel_rfl) (by kernel_rfl) (fun _ _ _ h => h) (Or.inl ⟨by rfl, ?hy6⟩) (by assumption) ?rest6
      case hy6 =>
        intro w' hSw
        have z0 := pw_cell_below hSw t0
        have z1 := pw_cell_below hSw t1
        have z2 := pw_cell_below hSw c0
        dsimp only [List.getElem_toArray, List.getElem_cons_zero, List.getElem_cons_succ]
        go_simp
        try (with_reducible rfl)
      try simp only [Act.put, List.getElem_toArray, List.getElem_cons_zero, List.getElem_cons_succ, List.setIfInBounds_toArray, List.set_cons_zero, List.set_cons_succ]
      refine wpAnyH_take (i := 7) (v := ?v7) rfl (by kernel_rfl) (by kernel_rfl) (by kernel_rfl) (fun _ _ _ h => h) (Or.inl ⟨by rfl, ?hy7⟩) (by assumption) ?rest7
      case hy7 =>
        intro w' hSw
        have z0 := pw_cell_below hSw t0
        have z1 := pw_cell_below hSw t1
        have z2 := pw_cell_below hSw c0
        dsimp only [List.getElem_toArray, List.getElem_cons_zero, List.getElem_cons_succ]
        go_simp
        try (with_reducible rfl)
      try simp only [Act.put, List.getElem_toArray, List.getElem_cons_zero, List.getElem_cons_succ, List.setIfInBounds_toArray, List.set_cons_zero, List.set_cons_succ]
      refine wpAnyH_take (i := 8) (v := ?v8) rfl (by kernel_rfl) (by kernel_rfl) (by kernel_rfl) (fun _ _ _ h => h) (Or.inl ⟨by rfl, ?hy8⟩) (by assumption) ?rest8
      case hy8 =>
        intro w' hSw
        have z0 := pw_cell_below hSw t0
        have z1 := pw_cell_below hSw t1
        have z2 := pw_cell_below hSw c0
        dsimp only [List.getElem_toArray, List.getElem_cons_zero, List.getElem_cons_succ]
        go_simp
        try (with_reducible rfl)
      try simp only [Act.put, List.getElem_toArray, List.getElem_cons_zero, List.getElem_cons_succ, List.setIfInBounds_toArray, List.set_cons_zero, List.set_cons_succ]
      refine wpAnyH_take (i := 9) (v := ?v9) rfl (by kernel_rfl) (by kernel_rfl) (by kernel_rfl) (fun _ _ _ h => h) (Or.inl ⟨by rfl, ?hy9⟩) (by assumption) ?rest9
      case hy9 =>
        intro w' hSw
        have z0 := pw_cell_below hSw t0
        have z1 := pw_cell_below hSw t1
        have z2 := pw_cell_below hSw c0
        dsimp only [List.getElem_toArray, List.getElem_cons_zero, List.getElem_cons_succ]
        go_simp
        try (with_reducible rfl)
      try simp only [Act.put, List.getElem_toArray, List.getElem_cons_zero, List.getElem_cons_succ, List.setIfInBounds_toArray, List.set_cons_zero, List.set_cons_succ]
      refine wpAnyH_take (i := 10) (v := ?v10) rfl (by kernel_rfl) (by kernel_rfl) (by kernel_rfl) (fun _ _ _ h => h) (Or.inl ⟨by rfl, ?hy10⟩) (by assumption) ?rest10
      case hy10 =>
        intro w' hSw
        have z0 := pw_cell_below hSw t0
        have z1 := pw_cell_below hSw t1
        have z2 := pw_cell_below hSw c0
        dsimp only [List.getElem_toArray, List.getElem_cons_zero, List.getElem_cons_succ]
        go_simp
        try (with_reducible rfl)
      try simp only [Act.put, List.getElem_toArray, List.getElem_cons_zero, List.getElem_cons_succ, List.setIfInBounds_toArray, List.set_cons_zero, List.set_cons_succ]
      refine wpAnyH_take (i := 11) (v := ?v11) rfl (by kernel_rfl) (by kernel_rfl) (by kernel_rfl) (fun _ _ _ h => h) (Or.inl ⟨by rfl, ?hy11⟩) (by assumption) ?rest11
      case hy11 =>
        intro w' hSw
        have z0 := pw_cell_below hSw t0
        have z1 := pw_cell_below hSw t1
        have z2 := pw_cell_below hSw c0
        dsimp only [List.getElem_toArray, List.getElem_cons_zero, List.getElem_cons_succ]
        go_simp
        try (with_reducible rfl)
      try simp only [Act.put, List.getElem_toArray, List.getElem_cons_zero, List.getElem_cons_succ, List.setIfInBounds_toArray, List.set_cons_zero, List.set_cons_succ]
      refine wpAnyH_take (i := 12) (v := ?v12) rfl (by kernel_rfl) (by kernel_rfl) (by kernel_rfl) (fun _ _ _ h => h) (Or.inl ⟨by rfl, ?hy12⟩) (by assumption) ?rest12
      case hy12 =>
        intro w' hSw
        have z0 := pw_cell_below hSw t0
        have z1 := pw_cell_below hSw t1
        have z2 := pw_cell_below hSw c0
        dsimp only [List.getElem_toArray, List.getElem_cons_zero, List.getElem_cons_succ]
        go_simp
        try (with_reducible rfl)
      try simp only [Act.put, List.getElem_toArray, List.getElem_cons_zero, List.getElem_cons_succ, List.setIfInBounds_toArray, List.set_cons_zero, List.set_cons_succ]
      refine wpAnyH_take (i := 13) (v := ?v13) rfl (by kernel_rfl) (by kernel_rfl) (by kernel_rfl) (fun _ _ _ h => h) (Or.inl ⟨by rfl, ?hy13⟩) (by assumption) ?rest13
      case hy13 =>
        intro w' hSw
        have z0 := pw_cell_below hSw t0
        have z1 := pw_cell_below hSw t1
        have z2 := pw_cell_below hSw c0
        dsimp only [List.getElem_toArray, List.getElem_cons_zero, List.getElem_cons_succ]
        go_simp
        try (with_reducible rfl)
      try simp only [Act.put, List.getElem_toArray, List.getElem_cons_zero, List.getElem_cons_succ, List.setIfInBounds_toArray, List.set_cons_zero, List.set_cons_succ]
      refine wpAnyH_take (i := 14) (v := ?v14) rfl (by kernel_rfl) (by kernel_rfl) (by kernel_rfl) (fun _ _ _ h => h) (Or.inl ⟨by rfl, ?hy14⟩) (by assumption) ?rest14
      case hy14 =>
        intro w' hSw
        have z0 := pw_cell_below hSw t0
        have z1 := pw_cell_below hSw t1
        have z2 := pw_cell_below hSw c0
        dsimp only [List.getElem_toArray, List.getElem_cons_zero, List.getElem_cons_succ]
        go_simp
        try (with_reducible rfl)
      try simp only [Act.put, List.getElem_toArray, List.getElem_cons_zero, List.getElem_cons_succ, List.setIfInBounds_toArray, List.set_cons_zero, List.set_cons_succ]
      refine wpAnyH_take (i := 15) (v := ?v15) rfl (by kernel_rfl) (by kernel_rfl) (by kernel_rfl) (fun _ _ _ h => h) (Or.inl ⟨by rfl, ?hy15⟩) (by assumption) ?rest15
      case hy15 =>
        intro w' hSw
        have z0 := pw_cell_below hSw t0
        have z1 := pw_cell_below hSw t1
        have z2 := pw_cell_below hSw c0
        dsimp only [List.getElem_toArray, List.getElem_cons_zero, List.getElem_cons_succ]
        go_simp
        try (with_reducible rfl)
      try simp only [Act.put, List.getElem_toArray, List.getElem_cons_zero, List.getElem_cons_succ, List.setIfInBounds_toArray, List.set_cons_zero, List.set_cons_succ]
      refine wpAnyH_ready (rs := [16]) (by kernel_rfl) (by simp) ?_
      refine AllReadyH.cons rfl (fun K hK => ?_) AllReadyH.nil
      dsimp only [List.getElem_toArray, List.getElem_cons_zero, List.getElem_cons_succ]
      go_simp
      refine hK.out _ _ (below_alloc hHeld _) (fun hHeld => ?_)
      clear hK
      try simp only [Act.put, List.getElem_toArray, List.getElem_cons_zero, List.getElem_cons_succ, List.setIfInBounds_toArray, List.set_cons_zero, List.set_cons_succ]
      refine wpAnyH_ready (rs := [17]) (by kernel_rfl) (by simp) ?_
      refine AllReadyH.cons rfl (fun K hK => ?_) AllReadyH.nil
      dsimp only [List.getElem_toArray, List.getElem_cons_zero, List.getElem_cons_succ]
      rw [show (wr.alloc (.cells #[.int .i64 e.f0, .int .i64 t.f1] 24)).drew = wr.drew.alloc (.cells #[.int .i64 e.f0, .int .i64 t.f1] 24) from rfl]
      refine ite_of (by rfl) ?_
      refine append_op kPair (w0 := w1) (W := wr.drew) w1.heap.size ?hw (.tmp 17) (.tmp 33) 22 24 (.agg #[.int .i64 0, .int .i64 0]) 16 ?ho Try.underlying22 info24 ?hz ?hs0 ?hb0 v done (e.f0, t.f1) [.int .i64 e.f0, .int .i64 t.f1] (fun _ => True) (fun _ => False) ?hs ?hx (kPair_M _ _) (fun _ h => h.elim) (fun _ _ => trivial) (Kd.R_drew hR) (below_drew hBr) (below_drew hBr).size ?hll ?hfin
      case hw => rfl
      case ho => rfl
      case hz => rfl
      case hs0 => decide
      case hb0 => decide
      case hs => rfl
      case hx => rfl
      case hll => omega
      intro v1 w2 hR1 hB2 hg2 hat2
      clear hg2 hat2 hHeld
      refine hK.out _ _ hB2 (fun hHeld => ?_)
      clear hK
      try simp only [Act.put, List.getElem_toArray, List.getElem_cons_zero, List.getElem_cons_succ, List.setIfInBounds_toArray, List.set_cons_zero, List.set_cons_succ]
      refine wpAnyH_take (i := 18) (v := ?v18) rfl (by kernel_rfl) (by kernel_rfl) (by kernel_rfl) (fun _ _ _ h => h) (Or.inl ⟨by rfl, ?hy18⟩) (by assumption) ?rest18
      case hy18 =>
        intro w' hSw
        have z0 := pw_cell_below hSw t0
        have z1 := pw_cell_below hSw t1
        have z2 := pw_cell_below hSw c0
        dsimp only [List.getElem_toArray, List.getElem_cons_zero, List.getElem_cons_succ]
        go_simp
        try (with_reducible rfl)
      try simp only [Act.put, List.getElem_toArray, List.getElem_cons_zero, List.getElem_cons_succ, List.setIfInBounds_toArray, List.set_cons_zero, List.set_cons_succ]
      refine wpAnyH_done (by kernel_rfl) ?_ _
      go_wp2
      go_roundw
      case rel => exact ⟨i + 1, v1, hlt, by go_num, rfl, by rw [HE.out]; exact hR1, hB2⟩
      case measure => simp [intOf]; omega
    · have hZ := hide_ (show res = (ts.take i).map (planOne l) by rw [List.take_of_length_le (by omega)]; exact HP.out)
      have hB := below_then hB1 hB1.size hBr
      go_wp2
      go_ret
      exact ⟨v, rfl, by rw [hZ.out]; exact Kd.R_lower hR hB1.size, hB⟩
end Go.Proofs.Ytmjedjhgomlfiaa
