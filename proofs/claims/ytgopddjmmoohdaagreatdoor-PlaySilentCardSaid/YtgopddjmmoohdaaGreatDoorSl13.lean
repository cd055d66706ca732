/- The texts of this seat, joined: part 13 of 25. -/
import Derived.Test.YtgopddjmmoohdaaGreatDoorSl12
import Derived.Test.YtgopddjmmoohdaaGreatDoorSl01
/- listen: what Add makes of lists, in plain words. -/
set_option linter.unusedSimpArgs false
set_option linter.unusedVariables false
set_option maxRecDepth 100000
set_option maxHeartbeats 1600000
namespace Go.Proofs.YtgopddjmmoohdaaGreatDoor
open Go.RowKit Go.Proofs.YtgopddjmmoohdaaGreatDoorW.PrintWords Go.Proofs.YtgopddjmmoohdaaGreatDoorW.PrintLast Go.Proofs.YtgopddjmmoohdaaGreatDoor.PPlaySilent

theorem LiC.x {own : Nat → Nat} {w0 w : World} {L : Nat} {ps : List Nat} {ls : List Ls} (h : LiC own w0 w L ps ls) (hn : ls ≠ []) : ∃ ib mb va g, LiX own w0 w L ps ls ls.length ps ib mb va g (fun n => ptsL ps (idxL ls n)) := by
  obtain ⟨vi, va, vm, h1, h2, h3⟩ := h.row
  rcases h3 with ⟨e, -, -⟩ | ⟨-, ib, mb, g, rfl, rfl, hM⟩
  · exact absurd e hn
  · refine ⟨ib, mb, va, g, h.pl, h.lo, h.base, hM.oi, hM.om, h1, hM.ids, h2, hM.map, hM.nd, fun n => ?_, h.pn, h.ent⟩
    have ha := hM.at_ n
    cases hg : getG g n with
    | none => rw [hg] at ha; rw [show idxL ls n = [] from ha]; rfl
    | some v => rw [hg] at ha; exact ⟨by have := ha.1; simpa [ptsL] using this, ha.2⟩
theorem LiX.c {own : Nat → Nat} {w0 w : World} {L : Nat} {ps : List Nat} {ls : List Ls} {ib mb : Nat} {va : Value} {g : List (Int × Value)} {rows : Int → List Nat} (h : LiX own w0 w L ps ls ls.length ps ib mb va g rows) (hn : ls ≠ []) (hr : ∀ n, rows n = ptsL ps (idxL ls n)) (hl : ls.length ≤ 512) (hd : ∀ s ∈ ls, 1 ≤ s.node) : LiC own w0 w L ps ls :=
  ⟨h.pl, h.lo, h.base, hl, h.pn, hd, ⟨_, va, _, h.head, h.all, .inr ⟨hn, ib, mb, g, rfl, rfl, h.oi, h.om, h.ids, h.map, h.nd, fun n => by
    have ha := h.at_ n
    rw [hr n] at ha
    cases hg : getG g n with
    | none => rw [hg] at ha; have : ptsL ps (idxL ls n) = [] := ha; simpa [ptsL, AtR] using this
    | some v => rw [hg] at ha; exact ⟨by have := ha.1; simpa [ptsL] using this, ha.2⟩⟩⟩, h.ent⟩
theorem idxL_lt {ls : List Ls} {n : Int} {i : Nat} (h : i ∈ idxL ls n) : i < ls.length := by
  unfold idxL at h
  rw [List.mem_filter] at h
  simpa using h.1
theorem idxL_push (ls : List Ls) (s : Ls) (hs : s.rem = false) (n : Int) : idxL (ls ++ [s]) n = idxL ls n ++ (if s.node = n then [ls.length] else []) := by
  unfold idxL
  rw [List.length_append, List.length_singleton, List.range_succ, List.filter_append]
  congr 1
  · refine List.filter_congr (fun i hi => ?_)
    rw [List.getElem?_append_left (by simpa using hi)]
  · rw [List.filter_cons, List.getElem?_append_right (Nat.le_refl _), Nat.sub_self]
    simp only [List.getElem?_cons_zero, Option.any_some, hs, Bool.not_false, Bool.and_true, List.filter_nil]
    by_cases e : s.node = n
    · simp [e]
    · simp [e]
theorem ptsL_push {ps : List Nat} {xs : List Nat} (p : Nat) (h : ∀ i ∈ xs, i < ps.length) : ptsL (ps ++ [p]) xs = ptsL ps xs := by
  unfold ptsL
  refine List.map_congr_left (fun i hi => ?_)
  rw [List.getD_eq_getElem?_getD, List.getD_eq_getElem?_getD, List.getElem?_append_left (h i hi)]
theorem rows_push {ls : List Ls} {ps : List Nat} {s : Ls} (hs : s.rem = false) (hp : ps.length = ls.length) (p : Nat) (n : Int) :
    rowsU (fun n => ptsL ps (idxL ls n)) s.node (ptsL ps (idxL ls s.node) ++ [p]) n = ptsL (ps ++ [p]) (idxL (ls ++ [s]) n) := by
  rw [idxL_push ls s hs]
  unfold rowsU
  have h1 : ∀ m, ptsL (ps ++ [p]) (idxL ls m) = ptsL ps (idxL ls m) := fun m => ptsL_push p (fun i hi => by rw [hp]; exact idxL_lt hi)
  by_cases e : n = s.node
  · subst e
    rw [if_pos rfl, if_pos rfl]
    show _ = List.map _ _
    rw [List.map_append]
    show _ = ptsL (ps ++ [p]) _ ++ _
    rw [h1, List.map_singleton, List.getD_eq_getElem?_getD, ← hp, List.getElem?_append_right (Nat.le_refl _), Nat.sub_self]
    rfl
  · rw [if_neg e, if_neg (Ne.symm e), List.append_nil, h1]
/-- An empty one's giver and map have been made. -/
theorem LiC.start {own : Nat → Nat} {w0 w w' : World} {L : Nat} {ps : List Nat} {va : Value} {vi vm : Value} (h : LiC own w0 w L ps []) {ib mb : Nat} (hL : w.heap[L]? = some (.cells #[vi, va, vm] 82 (0, 0))) (hS : Ste (fun k => k = L) w w') (hi : w.heap.size ≤ ib ∧ ib < w'.heap.size) (hm : w.heap.size ≤ mb ∧ mb < w'.heap.size) (hne : ib ≠ mb)
    (hL' : w'.heap[L]? = some (.cells #[.pointer (some ⟨ib, 0, none⟩), va, .map (some mb)] 82 (0, 0))) (hib : w'.heap[ib]? = some (.cells #[.int .i64 0, .int .i64 512] 234 (0, 0))) (hM : MapI w' mb []) :
    LiX (ownN (ownN own ib 2) mb 3) w0 w' L ps [] 0 ps ib mb va [] (fun _ => []) := by
  have hz : ∀ k, w.heap.size ≤ k → own k = 0 := fun k hk => by
    by_cases e : own k = 0
    · exact e
    · have := (h.lo k e).2; omega
  obtain ⟨vi2, va2, vm2, h1, h2, -⟩ := h.row
  rw [hL] at h1
  simp only [Option.some.injEq, Obj.cells.injEq, Array.mk.injEq, List.cons.injEq, and_true] at h1
  obtain ⟨-, rfl, -⟩ := h1
  have h3 : ownN own ib 2 mb = 0 := (if_neg (Ne.symm hne)).trans (hz mb hm.1)
  have ho : ∀ k, own k ≠ 0 → ownN (ownN own ib 2) mb 3 k = own k := fun k hk => by
    have := ownN_old (c := 2) (hz ib hi.1) hk
    rw [ownN_old h3 (by rw [this]; exact hk), this]
  have hb0 := h.base.size
  refine ⟨(ho L (by rw [h.pl]; decide)).trans h.pl, fun k hk => ?_, hS.base h.base h.base.size (fun k hk => by rw [show k = L from hk]; exact (h.lo L (by rw [h.pl]; decide)).1), ?_, ownN_same _ _ _, hL', hib, Kd.R_mono (R_ste h2 hS (fun k hk e => ?_)) (fun k hk => (ho k (by rw [hk]; decide)).trans hk), hM, by simp, fun n => rfl, h.pn, fun i s hi => by simp at hi⟩
  · unfold ownN at hk
    split at hk
    · rename_i e; subst e; exact ⟨by omega, hm.2⟩
    · split at hk
      · rename_i e; subst e; exact ⟨by omega, hi.2⟩
      · exact ⟨(h.lo k hk).1, Nat.lt_of_lt_of_le (h.lo k hk).2 hS.size⟩
  · exact (if_neg hne).trans (ownN_same _ _ _)
  · rw [show k = L from e, h.pl] at hk; omega
/-- What a listen operation leaves, seen from outside. -/
structure LiStep (own own' : Nat → Nat) (w w' : World) : Prop where
  ste : Ste (fun k => own k ≠ 0) w w'
  new : ∀ k, own' k ≠ 0 → own k ≠ 0 ∨ w.heap.size ≤ k
theorem LiStep.same {own : Nat → Nat} {w w' : World} (hb : Below w.heap.size w w') : LiStep own own w w' := ⟨Ste.of_below hb, fun k hk => .inl hk⟩
theorem LiStep.trans {own own1 own2 : Nat → Nat} {w w1 w2 : World} (h : LiStep own own1 w w1) (h1 : LiStep own1 own2 w1 w2) : LiStep own own2 w w2 :=
  ⟨h.ste.trans h1.ste (fun k hk => h.new k hk), fun k hk => (h1.new k hk).elim (fun hk => h.new k hk) (fun hk => .inr (Nat.le_trans h.ste.size hk))⟩
theorem ownN_new {own own' : Nat → Nat} {c : Nat} {w w1 : World} (ho : own' = own ∨ ∃ b, own' = ownN own b c ∧ w.heap.size ≤ b ∧ b < w1.heap.size) (k : Nat) (hk : own' k ≠ 0) : own k ≠ 0 ∨ w.heap.size ≤ k := by
  rcases ho with rfl | ⟨b, rfl, hb, -⟩
  · exact .inl hk
  · unfold ownN at hk
    split at hk
    · rename_i e; exact .inr (by rw [e]; exact hb)
    · exact .inl hk
/-- May a listener be added? -/
def rightL (node : Int) (x : S96) : Bool := decide (1 ≤ node) && (decide (1 ≤ x.f2) && (decide (0 ≤ x.f6) && rightW x.f1.data.toList))
def S96.ls (x : S96) (node : Int) : Ls := ⟨x.f1, x.f2, x.f3, x.f4, x.f5, x.f6, false, node⟩
/-- Add: the lists then, a number, an error. -/
def addR (ls : List Ls) (node : Int) (x : S96) : List Ls × Int × Int :=
  if rightL node x = false then (ls, 0, 1) else if 512 ≤ ls.length then (ls, 0, 9) else if (alikeF ls node x.f1 x.f2 x.f3).isSome = true then (ls, 0, 0) else (ls ++ [x.ls node], (ls.length : Int) + 1, 0)
def AddPost (own : Nat → Nat) (w0 w : World) (L : Nat) (r : List Ls × Int × Int) (e : Ending) (w' : World) : Prop := e = .returned (.tuple #[.int .i64 r.2.1, .int .i64 r.2.2]) ∧ ∃ own' ps', LiC own' w0 w' L ps' r.1 ∧ LiStep own own' w w'
end Go.Proofs.YtgopddjmmoohdaaGreatDoor

/- listen: right, Add. -/
set_option linter.unusedSimpArgs false
set_option linter.unusedVariables false
set_option maxRecDepth 100000
set_option maxHeartbeats 3200000
namespace Go.Proofs.YtgopddjmmoohdaaGreatDoor
open Go.RowKit Go.Proofs.YtgopddjmmoohdaaGreatDoorW.PrintWords Go.Proofs.YtgopddjmmoohdaaGreatDoorW.PrintLast Go.Proofs.YtgopddjmmoohdaaGreatDoor.PPlaySilent

theorem LiC.zero {own : Nat → Nat} {w0 w : World} {L : Nat} {ps : List Nat} {ls : List Ls} (h : LiC own w0 w L ps ls) {k : Nat} (hk : w.heap.size ≤ k) : own k = 0 := by
  by_cases e : own k = 0
  · exact e
  · have := (h.lo k e).2; omega
theorem keys_pos {ls : List Ls} {ps : List Nat} (h : ∀ s ∈ ls, 1 ≤ s.node) (m : Int) (hm : ptsL ps (idxL ls m) ≠ []) : 1 ≤ m := by
  cases hi : idxL ls m with
  | nil => rw [hi] at hm; exact absurd rfl hm
  | cons i r =>
    obtain ⟨s, hs, hsn, -⟩ := idxL_mem (show i ∈ idxL ls m by rw [hi]; simp)
    have := h s (List.mem_of_getElem? hs)
    omega
theorem lright_any (node : Int) (x : S96) (w : World) :
    Calls Tryz.prog 133 #[.int .i64 node, .agg #[.int .i64 x.f0, .string x.f1, .int .i64 x.f2, .bool x.f3, .bool x.f4, .bool x.f5, .int .i64 x.f6, .bool x.f7]] w fun e w' => e = .returned (.bool (rightL node x)) ∧ Below w.heap.size w w' := by
  have hr := fun X => right_any x.f1 (w.alloc X)
  have hb := fun X => below_alloc (Below.refl w.heap.size w) X
  have HR := hd_ (show rightL node x = (decide (1 ≤ node) && (decide (1 ≤ x.f2) && (decide (0 ≤ x.f6) && rightW x.f1.data.toList))) from rfl)
  generalize rightL node x = r at *
  generalize rightW x.f1.data.toList = rw_ at *
  by_cases h1 : 1 ≤ node
  · by_cases h2 : 1 ≤ x.f2
    · by_cases h3 : 0 ≤ x.f6
      · have HF : Hd (r = rw_) := ⟨by rw [HR.out]; simp [h1, h2, h3]⟩
        clear HR
        go_enter Tryz.func133, Tryz.ntmps133
        go_wp2_with (go_at_call 38; (with_reducible refine (hr _).mono ?_); rintro e w1 ⟨rfl, hB1⟩)
        go_ret
        exact ⟨by rw [HF.out]; rfl, below_then (hb _) (hb _).size hB1⟩
      · have HF : Hd (r = false) := ⟨by rw [HR.out]; simp [h1, h2, h3]⟩
        clear HR
        go_enter Tryz.func133, Tryz.ntmps133
        go_wp2
        go_ret
        exact ⟨by rw [HF.out]; rfl, hb _⟩
    · have HF : Hd (r = false) := ⟨by rw [HR.out]; simp [h1, h2]⟩
      clear HR
      go_enter Tryz.func133, Tryz.ntmps133
      go_wp2
      go_ret
      exact ⟨by rw [HF.out]; rfl, hb _⟩
  · have HF : Hd (r = false) := ⟨by rw [HR.out]; simp [h1]⟩
    clear HR
    go_enter Tryz.func133, Tryz.ntmps133
    go_wp2
    go_ret
    exact ⟨by rw [HF.out]; rfl, hb _⟩
theorem add_any (own : Nat → Nat) (w0 w : World) (L : Nat) (ps : List Nat) (ls : List Ls) (node : Int) (x : S96) (h : LiC own w0 w L ps ls) :
    Calls Tryz.prog 85 #[.pointer (some ⟨L, 0, none⟩), .int .i64 node, .agg #[.int .i64 x.f0, .string x.f1, .int .i64 x.f2, .bool x.f3, .bool x.f4, .bool x.f5, .int .i64 x.f6, .bool x.f7]] w (AddPost own w0 w L (addR ls node x)) := by
  have hb := fun X => below_alloc (Below.refl w.heap.size w) X
  have hr := fun X => lright_any node x (w.alloc X)
  have ha := fun W (hB : Below w.heap.size w W) => alike_any own w0 W L ps ls node x.f1 x.f2 x.f3 (h.below hB)
  have HA := hd_ (show addR ls node x = if rightL node x = false then (ls, 0, 1) else if 512 ≤ ls.length then (ls, 0, 9) else if (alikeF ls node x.f1 x.f2 x.f3).isSome = true then (ls, 0, 0) else (ls ++ [x.ls node], (ls.length : Int) + 1, 0) from rfl)
  have hno : Hd (∀ W v, addR ls node x = (ls, 0, v) → Below w.heap.size w W → AddPost own w0 w L (addR ls node x) (.returned (.tuple #[.int .i64 0, .int .i64 v])) W) := ⟨fun W v he hB => by
    rw [he]; exact ⟨rfl, own, ps, h.below hB, LiStep.same hB⟩⟩
  obtain ⟨vi, va, vm, hL, hRa, h3⟩ := h.row
  have h512 := h.len
  obtain ⟨Aa, ca, rfl, hca, -⟩ := Kd.R_reads hRa
  rw [h.pn] at hL hca
  have hLb := fun W (hB : Below w.heap.size w W) => blk_below hL hB
  generalize addR ls node x = ar at *
  cases hrl : rightL node x with
  | false =>
    have HF := hd_ (HA.out.trans (if_pos hrl))
    simp only [hrl] at hr
    clear HA hrl h h3 hRa ha
    go_enter Tryz.func85, Tryz.ntmps85
    go_wp2_with (go_at_call 133; (with_reducible refine (hr _).mono ?_); rintro e w1 ⟨rfl, hB1⟩; have hC1 := below_then (hb _) (hb _).size hB1)
    go_ret2
    exact hno.out _ _ HF.out hC1
  | true =>
    replace HA := hd_ (HA.out.trans (if_neg (by rw [hrl]; simp)))
    simp only [hrl] at hr
    by_cases h5 : 512 ≤ ls.length
    · have HF := hd_ (HA.out.trans (if_pos h5))
      have q5 : (512 : Int) ≤ ls.length := by omega
      clear HA hrl h h3 hRa ha hL
      go_enter Tryz.func85, Tryz.ntmps85
      go_wp2_with (go_at_call 133; (with_reducible refine (hr _).mono ?_); rintro e w1 ⟨rfl, hB1⟩; have hC1 := below_then (hb _) (hb _).size hB1; have y1 := (blk_cell (hLb _ hC1) 1).trans rfl)
      go_ret2
      exact hno.out _ _ HF.out hC1
    · replace HA := hd_ (HA.out.trans (if_neg h5))
      have q5 : ¬ (512 : Int) ≤ ls.length := by omega
      cases hal : alikeF ls node x.f1 x.f2 x.f3 with
      | some i =>
        have HF := hd_ (HA.out.trans (if_pos (by rw [hal]; rfl)))
        simp only [hal, alikeP] at ha
        clear HA hrl h h3 hRa hL hal
        go_enter Tryz.func85, Tryz.ntmps85
        go_wp2_with (first
          | (go_at_call 133; (with_reducible refine (hr _).mono ?_); rintro e w1 ⟨rfl, hB1⟩; have hC1 := below_then (hb _) (hb _).size hB1; have y1 := (blk_cell (hLb _ hC1) 1).trans rfl; have hX1 := blk_below (blk_new w (.cells #[.int .i64 x.f0, .string x.f1, .int .i64 x.f2, .bool x.f3, .bool x.f4, .bool x.f5, .int .i64 x.f6, .bool x.f7] 96)) hB1; have x1 : w1.cell? ⟨w.heap.size, 1, none⟩ = some (.string x.f1) := blk_cell hX1 1; have x2 : w1.cell? ⟨w.heap.size, 2, none⟩ = some (.int .i64 x.f2) := blk_cell hX1 2; have x3 : w1.cell? ⟨w.heap.size, 3, none⟩ = some (.bool x.f3) := blk_cell hX1 3)
          | (go_at_call 134; (with_reducible refine (ha _ hC1).mono ?_); rintro e w2 ⟨rfl, hw⟩; obtain rfl := hw.symm))
        go_ret2
        exact hno.out _ _ HF.out hC1
      | none =>
        have HF := hd_ (HA.out.trans (if_neg (by rw [hal]; simp)))
        have HPN := hd_ h.pn
        have hnod := hd_ h.nod
        have hil := hd_ (show (ptsL ps (idxL ls node)).length ≤ 512 by simp only [ptsL, List.length_map]; exact Nat.le_trans (idxL_len ls node) h.len)
        have hnode : Hd (1 ≤ node) := ⟨by unfold rightL at hrl; simp at hrl; exact hrl.1⟩
        simp only [hal, alikeP] at ha
        clear HA hrl hal hno
        by_cases hne : ls = []
        · rcases h3 with ⟨-, rfl, rfl⟩ | ⟨hn, -⟩
          rotate_left
          · exact absurd hne hn
          have hmm := @run_makeMap Tryz.prog
          have hstart := hd_ (fun w' ib mb hS hi hm hne' hL' hib hM => LiC.start (w' := w') (ib := ib) (mb := mb) (show LiC own w0 w L ps [] by rw [← hne]; exact h) (by rw [hL]) hS hi hm hne' hL' hib hM)
          have hps0 := hd_ h.pn
          replace hne := hd_ hne
          have hown := hd_ (fun k hk => LiC.zero h (k := k) hk)
          have hpl := hd_ h.pl
          have hLlt := blk_lt hL
          clear h hRa
          go_enter Tryz.func85, Tryz.ntmps85
          go_wp2_with (first
            | (go_at_call 133; (with_reducible refine (hr _).mono ?_); rintro e w1 ⟨rfl, hB1⟩; have hC1 := below_then (hb _) (hb _).size hB1; have y1 := (blk_cell (hLb _ hC1) 1).trans rfl; have y0 := (blk_cell (hLb _ hC1) 0).trans rfl; have hX1 := blk_below (blk_new w (.cells #[.int .i64 x.f0, .string x.f1, .int .i64 x.f2, .bool x.f3, .bool x.f4, .bool x.f5, .int .i64 x.f6, .bool x.f7] 96)) hB1; have x1 : w1.cell? ⟨w.heap.size, 1, none⟩ = some (.string x.f1) := blk_cell hX1 1; have x2 : w1.cell? ⟨w.heap.size, 2, none⟩ = some (.int .i64 x.f2) := blk_cell hX1 2; have x3 : w1.cell? ⟨w.heap.size, 3, none⟩ = some (.bool x.f3) := blk_cell hX1 3; have zL0 := fun X Y => (blk_cell (blk_alloc (blk_alloc (hLb w1 hC1) X) Y) 0).trans rfl; have zL2 := fun X Y => (blk_cell (blk_alloc (blk_alloc (hLb w1 hC1) X) Y) 2).trans rfl; have zf := fun X Y j => blk_frozen (blk_alloc (blk_alloc (hLb w1 hC1) X) Y) j)
            | (go_at_call 134; (with_reducible refine (ha _ hC1).mono ?_); rintro e w2 ⟨rfl, hw⟩; obtain rfl := hw.symm)
            | (go_at_call 135; refine (ids_new _).mono ?_; rintro e w2 ⟨rfl, rfl⟩))
          have hWS : Ste (fun k => k = L) w ((((w1.alloc (.cells #[.int .i64 0, .int .i64 512] 234)).alloc (.map #[] 0)).setCell ⟨L, 0, none⟩ (.pointer (some ⟨w1.heap.size, 0, none⟩))).setCell ⟨L, 2, none⟩ (.map (some (w1.heap.size + 1)))) := (((Ste.of_below (P := fun k => k = L) hC1).below (below_alloc (below_alloc (Below.refl _ _) _) _)).trans (setCell_ste _ L 0 _) (fun k hk => .inl hk)).trans (setCell_ste _ L 2 _) (fun k hk => .inl hk)
          have hsz1 := hC1.size
          have hp1 := blk_put (blk_alloc (blk_alloc (hLb w1 hC1) (.cells #[.int .i64 0, .int .i64 512] 234)) (.map #[] 0)) 0 (.pointer (some ⟨w1.heap.size, 0, none⟩)) rfl
          have hp2 := blk_put hp1 2 (.map (some (w1.heap.size + 1))) rfl
          have hib0 : ((((w1.alloc (.cells #[.int .i64 0, .int .i64 512] 234)).alloc (.map #[] 0)).setCell ⟨L, 0, none⟩ (.pointer (some ⟨w1.heap.size, 0, none⟩))).setCell ⟨L, 2, none⟩ (.map (some (w1.heap.size + 1)))).heap[w1.heap.size]? = some (.cells #[.int .i64 0, .int .i64 512] 234 (0, 0)) := (Below.heap_setCell _ _ _ _ (by show w1.heap.size ≠ L; omega)).trans ((Below.heap_setCell _ _ _ _ (by show w1.heap.size ≠ L; omega)).trans (blk_alloc (blk_new w1 _) _))
          have hmb0 : ((((w1.alloc (.cells #[.int .i64 0, .int .i64 512] 234)).alloc (.map #[] 0)).setCell ⟨L, 0, none⟩ (.pointer (some ⟨w1.heap.size, 0, none⟩))).setCell ⟨L, 2, none⟩ (.map (some (w1.heap.size + 1)))).heap[w1.heap.size + 1]? = some (.map #[] 0) := (Below.heap_setCell _ _ _ _ (by show w1.heap.size + 1 ≠ L; omega)).trans ((Below.heap_setCell _ _ _ _ (by show w1.heap.size + 1 ≠ L; omega)).trans (alloc_new' (by simp)))
          have hszW : ((((w1.alloc (.cells #[.int .i64 0, .int .i64 512] 234)).alloc (.map #[] 0)).setCell ⟨L, 0, none⟩ (.pointer (some ⟨w1.heap.size, 0, none⟩))).setCell ⟨L, 2, none⟩ (.map (some (w1.heap.size + 1)))).heap.size = w1.heap.size + 2 := by simp
          have hX0 := hstart.out _ w1.heap.size (w1.heap.size + 1) hWS ⟨by omega, by rw [hszW]; omega⟩ ⟨by omega, by rw [hszW]; omega⟩ (by omega) hp2 hib0 ⟨#[], 0, hmb0, rfl⟩
          have hXB : ((((w1.alloc (.cells #[.int .i64 0, .int .i64 512] 234)).alloc (.map #[] 0)).setCell ⟨L, 0, none⟩ (.pointer (some ⟨w1.heap.size, 0, none⟩))).setCell ⟨L, 2, none⟩ (.map (some (w1.heap.size + 1)))).heap[w.heap.size]? = some (.cells #[.int .i64 x.f0, .string x.f1, .int .i64 x.f2, .bool x.f3, .bool x.f4, .bool x.f5, .int .i64 x.f6, .bool x.f7] 96 (0, 0)) := (Below.heap_setCell _ _ _ w.heap.size (by show w.heap.size ≠ L; omega)).trans ((Below.heap_setCell _ _ _ w.heap.size (by show w.heap.size ≠ L; omega)).trans (blk_alloc (blk_alloc hX1 (.cells #[.int .i64 0, .int .i64 512] 234)) (.map #[] 0)))
          clear hp1 hp2 hib0 hmb0 hszW zL0 zL2 zf hX1 hmm hstart hB1
          generalize (((w1.alloc (.cells #[.int .i64 0, .int .i64 512] 234)).alloc (.map #[] 0)).setCell ⟨L, 0, none⟩ (.pointer (some ⟨w1.heap.size, 0, none⟩))).setCell ⟨L, 2, none⟩ (.map (some (w1.heap.size + 1))) = wx at *
          generalize hmbe : w1.heap.size + 1 = mb at *
          generalize hibe : w1.heap.size = ib at *
          have hX1 := hXB
          have hXW : LiX (ownN (ownN own ib 2) mb 3) w0 wx L ps ls ls.length ps ib mb (.slice Aa ls.length ca) [] (fun n => ptsL ps (idxL ls n)) := by
            rw [hne.out] at hX0 ⊢
            exact hX0
          have hST : LiStep own (ownN (ownN own ib 2) mb 3) w wx := ⟨hWS.mono (fun k hk => .inl (by rw [show k = L from hk, hpl.out]; decide)), fun k hk => by
            unfold ownN at hk
            split at hk
            · exact .inr (by omega)
            · split at hk
              · exact .inr (by omega)
              · exact .inl hk⟩
          have hkeys : Hd (∀ m, ptsL ps (idxL ls m) ≠ [] → 1 ≤ m) := ⟨keys_pos hnod.out⟩
          clear hXB hX0 hWS hC1 hmbe hibe hsz1 hown hpl hLlt hLb
          generalize ownN (ownN own ib 2) mb 3 = owx at *
          obtain ⟨g, hg0⟩ : ∃ g : List (Int × Value), g = [] := ⟨_, rfl⟩
          rw [← hg0] at hXW
          clear hg0
          have hneL : L ≠ ib := fun e => by have h1 := hXW.pl; have h2 := hXW.oi; rw [e, h2] at h1; omega
          have hneB : w.heap.size ≠ ib := fun e => by have h1 := hXW.ids; rw [← e, hX1] at h1; simp at h1
          refine start_ (n := 16) (S := (fun W_ => W_.heap[L]? = some (.cells #[.pointer (some ⟨ib, 0, none⟩), .slice Aa ls.length ca, .map (some mb)] 82 (0, 0)) ∧ W_.heap[w.heap.size]? = some (.cells #[.int .i64 x.f0, .string x.f1, .int .i64 x.f2, .bool x.f3, .bool x.f4, .bool x.f5, .int .i64 x.f6, .bool x.f7] 96 (0, 0)))) (ds := []) (bm 16 0) (by kernel_rfl) rfl (by kernel_rfl) ⟨hXW.head, hX1⟩ (fun hHeld => ?_)
          refine pu_ 0 (some 50) (bm 16 1) ?_
          refine pu_ 1 (some 51) (bm 16 3) ?_
          refine pu_ 2 (some 52) (bm 16 7) ?_
          refine ta_ 3 (some 53) (bm 16 15) hHeld (fun _ hSw => blk_cell hSw.1 0) ?_
          refine pu_ 5 (some 55) (bm 16 47) ?_
          refine ta_ 6 (some 56) (bm 16 111) hHeld (fun _ hSw => (blk_cell hSw.2 1).trans rfl) ?_
          refine pu_ 7 (some 57) (bm 16 239) ?_
          refine ta_ 8 (some 58) (bm 16 495) hHeld (fun _ hSw => (blk_cell hSw.2 2).trans rfl) ?_
          refine pu_ 9 (some 59) (bm 16 1007) ?_
          refine tb_ 10 (some 60) (bm 16 2031) hHeld ?_ (hy := by intro w' hSw; have z3 := (blk_cell hSw.2 3).trans rfl; have z4 := (blk_cell hSw.2 4).trans rfl; have z5 := (blk_cell hSw.2 5).trans rfl; have z6 := (blk_cell hSw.2 6).trans rfl; go_simp; with_reducible rfl)
          refine pu_ 12 (some 62) (bm 16 6127) ?_
          refine one_ (i := 4) (N := (some 54)) (bm 16 6143) rfl rfl (by kernel_rfl) (by decide) (fun K hK => ?_)
          refine goes_ Tryz.func136 (by kernel_rfl) rfl #[.pointer (some ⟨ib, 0, none⟩)] (by rfl) rfl rfl (by try simp only [List.map_toArray, List.map_cons, List.map_nil]; first | done | rfl) ?_
          refine (ids_next ib (ls.length : Int) _ (hXW.below (below_drew (Below.refl _ _))).ids (by omega) (by omega)).mono ?_
          rintro e w' ⟨rfl, rfl⟩
          refine ⟨_, rfl, ?_⟩
          refine hK.out _ _ ⟨(Below.heap_setCell _ _ _ L hneL).trans hHeld.1, (Below.heap_setCell _ _ _ w.heap.size hneB).trans hHeld.2⟩ (fun hHeld => ?_)
          clear hK K
          refine norm_ (a' := ?_) ?_ ?_
          rotate_left
          · show Act.put _ (some 54) _ = _
            simp only [Act.put, List.setIfInBounds_toArray, List.set_cons_zero, List.set_cons_succ]
            rfl
          refine pu_ 11 (some 61) (bm 16 8191) ?_
          refine pu_ 13 (some 63) (bm 16 16383) ?_
          refine one_ (i := 14) (N := (some 64)) (bm 16 32767) rfl rfl (by kernel_rfl) (by decide) (fun K hK => ?_)
          refine value_ (w1 := ((wx.drew.setCell ⟨ib, 0, none⟩ (.int .i64 ((ls.length : Int) + 1))).alloc (.cells #[.int .i64 ((ls.length : Int) + 1), .string x.f1, .int .i64 x.f2, .bool x.f3, .bool x.f4, .bool x.f5, .int .i64 x.f6, .bool false, .int .i64 node] 201))) (v := .pointer (some ⟨wx.heap.size, 0, none⟩)) (by rfl) rfl ?_ ?_
          · go_simp
          refine hK.out _ _ ⟨alloc_at hHeld.1 _, alloc_at hHeld.2 _⟩ (fun hHeld => ?_)
          clear hK K
          refine norm_ (a' := ?_) ?_ ?_
          rotate_left
          · show Act.put _ (some 64) _ = _
            simp only [Act.put, List.setIfInBounds_toArray, List.set_cons_zero, List.set_cons_succ]
            rfl
          refine pu_ 15 (some 8) (bm 16 65535) ?_
          refine done_ (by kernel_rfl) ?_
          have hsz : (wx.drew.setCell ⟨ib, 0, none⟩ (.int .i64 ((ls.length : Int) + 1))).heap.size = wx.heap.size := by simp
          have hXa := ((hXW.below (below_drew (Below.refl _ _))).next).newp (x.ls node)
          rw [hsz] at hXa
          have hsz2 : wx.heap.size < ((wx.drew.setCell ⟨ib, 0, none⟩ (.int .i64 ((ls.length : Int) + 1))).alloc (.cells #[.int .i64 ((ls.length : Int) + 1), .string x.f1, .int .i64 x.f2, .bool x.f3, .bool x.f4, .bool x.f5, .int .i64 x.f6, .bool false, .int .i64 node] 201)).heap.size := by simp
          replace hXa : LiX (ownN owx wx.heap.size (5 + 2 * ls.length)) w0 ((wx.drew.setCell ⟨ib, 0, none⟩ (.int .i64 ((ls.length : Int) + 1))).alloc (.cells #[.int .i64 ((ls.length : Int) + 1), .string x.f1, .int .i64 x.f2, .bool x.f3, .bool x.f4, .bool x.f5, .int .i64 x.f6, .bool false, .int .i64 node] 201)) L (ps ++ [wx.heap.size]) (ls ++ [x.ls node]) (ls.length + 1) ps ib mb (.slice Aa ls.length ca) g (fun n => ptsL ps (idxL ls n)) := hXa
          have hSA : LiStep owx (ownN owx wx.heap.size (5 + 2 * ls.length)) wx ((wx.drew.setCell ⟨ib, 0, none⟩ (.int .i64 ((ls.length : Int) + 1))).alloc (.cells #[.int .i64 ((ls.length : Int) + 1), .string x.f1, .int .i64 x.f2, .bool x.f3, .bool x.f4, .bool x.f5, .int .i64 x.f6, .bool false, .int .i64 node] 201)) := ⟨((Ste.of_below (below_drew (Below.refl _ _))).trans ((setCell_ste _ ib 0 _).mono (P' := fun k => owx k ≠ 0) (fun k hk => .inl (by rw [show k = ib from hk, hXW.oi]; decide))) (fun k hk => .inl hk)).trans (Ste.of_below (P := fun _ => False) (below_alloc (Below.refl _ _) _)) (fun _ h => h.elim), fun k hk => by
            unfold ownN at hk
            split at hk
            · rename_i e; exact .inr (by rw [e]; exact Nat.le_refl _)
            · exact .inl hk⟩
          clear hsz hHeld hneL hneB hX1 y0 y1 x1 x2 x3
          generalize ((wx.drew.setCell ⟨ib, 0, none⟩ (.int .i64 ((ls.length : Int) + 1))).alloc (.cells #[.int .i64 ((ls.length : Int) + 1), .string x.f1, .int .i64 x.f2, .bool x.f3, .bool x.f4, .bool x.f5, .int .i64 x.f6, .bool false, .int .i64 node] 201)) = wa at *
          generalize ownN owx wx.heap.size (5 + 2 * ls.length) = ownA at *
          have ya0 := (blk_cell hXa.head 1).trans rfl
          have hvB : ∀ k, (Value.slice Aa ls.length ca).ownBlock = some k → k ≠ L := fun k hk e => by have h1 := hXa.all.1 k hk; rw [e, hXa.pl] at h1; omega
          go_wp2_with (at_builtin; refine Kd.R_append KdP (w0 := wa) w0.heap.size rfl (.tmp 69) (.tmp 71) 79 198 (.pointer none) 8 rfl Tryz.underlying79 info198 rfl (by decide) (by decide) (.slice Aa ls.length ca) ps wx.heap.size [.pointer (some ⟨wx.heap.size, 0, none⟩)] (fun k => ownA k = 4 ∨ wa.heap.size ≤ k) (fun _ => False) rfl rfl rfl (fun _ hk => hk.elim) (fun k hk => .inr hk) (Kd.R_mono hXa.all (fun k hk => .inl hk)) (Below.refl _ _) hXa.base.size (by have := HPN.out; omega) ?_; intro v1 w3 hR3 hB3 hg3 hat3; obtain ⟨A5, c5, hv1, hl5, -⟩ := Kd.R_reads hR3; rw [List.length_append, List.length_singleton] at hv1; subst hv1; have hX3 := blk_grown hXa.head hg3 (fun e => hvB L e.symm rfl); have y2 := (blk_cell hX3 1).trans rfl; have f2 := blk_frozen hX3 1)
          obtain ⟨ownB, hoB, hSB, hXb⟩ := hXa.allp hR3 hB3 hg3 hat3
          have hs3 : (w3.setCell ⟨L, 1, none⟩ (.slice A5 (ps.length + 1) c5)).heap.size = w3.heap.size := by simp
          have hSB' : LiStep ownA ownB wa (w3.setCell ⟨L, 1, none⟩ (.slice A5 (ps.length + 1) c5)) := ⟨hSB, ownN_new hoB⟩
          clear hR3 hB3 hg3 hat3 hX3 y2 f2 ya0 hoB hSB hs3
          generalize w3.setCell ⟨L, 1, none⟩ (.slice A5 (ps.length + 1) c5) = wb at *
          refine start_ (n := 15) (S := (fun W_ => W_.heap[L]? = some (.cells #[.pointer (some ⟨ib, 0, none⟩), .slice A5 (ps.length + 1) c5, .map (some mb)] 82 (0, 0)) ∧ MapI W_ mb g)) (ds := [14]) (bm 15 0) (by kernel_rfl) rfl (by kernel_rfl) ⟨hXb.head, hXb.map.below (below_drew (Below.refl _ wb))⟩ (fun hHeld => ?_)
          refine pu_ 0 (some 75) (bm 15 1) ?_
          refine pu_ 1 (some 76) (bm 15 3) ?_
          refine pu_ 2 (some 77) (bm 15 7) ?_
          refine ta_ 3 (some 78) (bm 15 15) hHeld (fun _ hSw => (blk_cell hSw.1 2).trans rfl) ?_
          refine pu_ 4 (some 79) (bm 15 31) ?_
          refine pu_ 5 (some 80) (bm 15 63) ?_
          refine pu_ 6 (some 81) (bm 15 127) ?_
          refine pu_ 7 (some 82) (bm 15 255) ?_
          refine ta_ 8 (some 83) (bm 15 511) hHeld (fun _ hSw => (blk_cell hSw.1 2).trans rfl) ?_
          refine pu_ 9 (some 84) (bm 15 1023) ?_
          refine tb_ 10 (some 85) (bm 15 2047) hHeld ?_ (hy := by intro w' hSw; have hz8 : (Instr.lookup 80 (.map (some mb)) (.int .i64 node) false).run Tryz.prog w' = .ok (rowV g node) w' := hSw.2.lookup (P := Tryz.prog) (t := 80) Tryz.underlying80 Tryz.underlying3 (Tryz.zeroValue79 w') node; go_simp; with_reducible rfl)
          refine pu_ 11 (some 86) (bm 15 4095) ?_
          refine one_ (i := 12) (N := (some 87)) (bm 15 8191) rfl rfl (by kernel_rfl) (by decide) (fun K hK => ?_)
          refine value_ (w1 := wb.drew.alloc (.cells #[.pointer (some ⟨wx.heap.size, 0, none⟩)] 198)) (v := .slice (some ⟨wb.heap.size, 0, none⟩) 1 1) (by rfl) rfl ?_ ?_
          · go_simp
          refine hK.out _ _ ⟨alloc_at hHeld.1 _, hHeld.2.below (below_alloc (Below.refl _ _) _)⟩ (fun hHeld => ?_)
          clear hK K
          refine norm_ (a' := ?_) ?_ ?_
          rotate_left
          · show Act.put _ (some 87) _ = _
            simp only [Act.put, List.setIfInBounds_toArray, List.set_cons_zero, List.set_cons_succ]
            rfl
          refine one_ (i := 13) (N := (some 88)) (bm 15 16383) rfl rfl (by kernel_rfl) (by decide) (fun K hK => ?_)
          refine Kd.R_append_step KdP (w0 := wb.drew) w0.heap.size (by rfl) (.tmp 85) (.tmp 87) 79 198 (.pointer none) 8 rfl Tryz.underlying79 info198 rfl (by decide) (by decide) (rowV g node) (ptsL ps (idxL ls node)) wx.heap.size [.pointer (some ⟨wx.heap.size, 0, none⟩)] (fun k => ownB k = 6 + 2 * node.toNat ∨ wb.heap.size ≤ k) (fun _ => False) rfl rfl rfl (fun _ hk => hk.elim) (fun k hk => .inr hk) (Kd.R_mono (Kd.R_below (hXb.rowR node) (below_drew (Below.refl _ _))) (fun k hk => .inl hk)) (Below.refl _ _) hXb.base.size (by have := hil.out; omega) ?_
          intro v5 w5 hR5 hB5 hg5 hat5
          have hS5 := (grown_ste hg5 ⟨hB5.os, hB5.tape, hB5.output, hB5.size, fun k hk => absurd hk (Nat.not_lt_zero k)⟩).mono (P' := fun k => ownB k = 6 + 2 * node.toNat) (fun k hk => .inl ((hXb.rowR node).1 k hk))
          obtain ⟨es, cl, hup, hMu⟩ := (hXb.map.ste ((Ste.of_below (P := fun k => ownB k = 6 + 2 * node.toNat) (below_drew (Below.refl _ wb))).trans hS5 (fun k hk => .inl hk)) (by rw [hXb.om]; omega)).update (P := Tryz.prog) (t := 80) Tryz.underlying80 Tryz.underlying3 node v5
          refine hK.out _ _ ⟨hS5.blk (show wb.drew.heap[L]? = _ from hXb.head) (by rw [hXb.pl]; omega), (hXb.map.below (below_drew (Below.refl _ wb))).ste hS5 (show ¬ ownB mb = _ by rw [hXb.om]; omega)⟩ (fun hHeld => ?_)
          clear hK K
          refine norm_ (a' := ?_) ?_ ?_
          rotate_left
          · show Act.put _ (some 88) _ = _
            simp only [Act.put, List.setIfInBounds_toArray, List.set_cons_zero, List.set_cons_succ]
            rfl
          refine last_ (i := 14) (N := none) (bm 15 32767) rfl rfl (by kernel_rfl) (by decide) (fun K hK => ?_)
          refine skip_ (w1 := w5.putObj mb (.map es cl)) (by rfl) rfl ?_ ?_
          · have hz8 := hup
            go_simp
          refine hK.out _ _ ?_
          clear hK K
          refine done_ (by kernel_rfl) ?_
          obtain ⟨ownC, hoC, hSC, hXc⟩ := hXb.rowp (n := node) (v1 := v5) (xs := ptsL ps (idxL ls node) ++ [wx.heap.size]) (g' := updG g node v5) hnode.out hkeys.out hR5 ((Ste.of_below (below_drew (Below.refl _ wb))).trans hS5 (fun k hk => .inl hk)) hat5 (putObj_ste _) hMu (updG_keys node v5 g hXb.nd).1 (fun m => by rw [getG_upd, if_neg (show ¬ ptsL ps (idxL ls node) ++ [wx.heap.size] = [] by simp)])
          have hSC' : LiStep ownB ownC wb (w5.putObj mb (.map es cl)) := ⟨hSC, ownN_new hoC⟩
          have hSall := ((hST.trans hSA).trans hSB').trans hSC'
          have hXf : LiC ownC w0 (w5.putObj mb (.map es cl)) L (ps ++ [wx.heap.size]) (ls ++ [x.ls node]) := LiX.c (ib := ib) (mb := mb) (va := .slice A5 (ps.length + 1) c5) (g := updG g node v5) (rows := rowsU (fun n => ptsL ps (idxL ls n)) node (ptsL ps (idxL ls node) ++ [wx.heap.size])) (by rw [List.length_append]; exact hXc) (by simp) (fun n => rows_push (s := x.ls node) rfl HPN.out _ n) (by rw [List.length_append, List.length_singleton]; omega) (fun t ht => (List.mem_append.1 ht).elim (hnod.out t) (fun ht => by rw [List.mem_singleton.1 ht]; exact hnode.out))
          obtain ⟨s0, hs0, hc0⟩ : ∃ p, (ps ++ [wx.heap.size])[ls.length]? = some p ∧ (w5.putObj mb (.map es cl)).heap[p]? = some (.cells (LsC ((ls.length + 1 : Nat) : Int) (x.ls node)) 201 (0, 0)) := by
            obtain ⟨p, hp, -, hc⟩ := hXf.ent ls.length (x.ls node) (by rw [List.getElem?_append_right (Nat.le_refl _), Nat.sub_self]; rfl)
            exact ⟨p, hp, hc⟩
          have hpw : s0 = wx.heap.size := by
            rw [← HPN.out, List.getElem?_append_right (Nat.le_refl _), Nat.sub_self] at hs0
            simpa using hs0.symm
          subst hpw
          have yf : (w5.putObj mb (.map es cl)).cell? ⟨wx.heap.size, 0, none⟩ = some (.int .i64 ((ls.length : Int) + 1)) := (blk_cell hc0 0).trans rfl
          clear hR5 hB5 hg5 hat5 hS5 hup hMu hoC hSC hSC' hXc hc0 hs0 hXb hSA hSB' hXa
          go_wp2
          go_ret2
          refine ⟨by rw [HF.out]; rfl, ownC, ps ++ [wx.heap.size], ?_, hSall⟩
          rw [HF.out]
          exact hXf
        · obtain ⟨ib, mb, va', g, hX⟩ := h.x hne
          have e1 := hL.symm.trans (by have := hX.head; exact this)
          simp only [Option.some.injEq, Obj.cells.injEq, Array.mk.injEq, List.cons.injEq, and_true] at e1
          obtain ⟨rfl, rfl, rfl⟩ := e1
          clear h h3 hRa
          go_enter Tryz.func85, Tryz.ntmps85
          go_wp2_with (first
            | (go_at_call 133; (with_reducible refine (hr _).mono ?_); rintro e w1 ⟨rfl, hB1⟩; have hC1 := below_then (hb _) (hb _).size hB1; have y1 := (blk_cell (hLb _ hC1) 1).trans rfl; have y0 := (blk_cell (hLb _ hC1) 0).trans rfl; have hX1 := blk_below (blk_new w (.cells #[.int .i64 x.f0, .string x.f1, .int .i64 x.f2, .bool x.f3, .bool x.f4, .bool x.f5, .int .i64 x.f6, .bool x.f7] 96)) hB1; have x1 : w1.cell? ⟨w.heap.size, 1, none⟩ = some (.string x.f1) := blk_cell hX1 1; have x2 : w1.cell? ⟨w.heap.size, 2, none⟩ = some (.int .i64 x.f2) := blk_cell hX1 2; have x3 : w1.cell? ⟨w.heap.size, 3, none⟩ = some (.bool x.f3) := blk_cell hX1 3)
            | (go_at_call 134; (with_reducible refine (ha _ hC1).mono ?_); rintro e w2 ⟨rfl, hw⟩; obtain rfl := hw.symm))
          have hXW := hX.below hC1
          have hST : LiStep own own w w1 := LiStep.same hC1
          have hkeys : Hd (∀ m, ptsL ps (idxL ls m) ≠ [] → 1 ≤ m) := ⟨keys_pos hnod.out⟩
          have hneL : L ≠ ib := fun e => by have h1 := hXW.pl; have h2 := hXW.oi; rw [e, h2] at h1; omega
          have hneB : w.heap.size ≠ ib := fun e => by have h1 := hXW.ids; rw [← e, hX1] at h1; simp at h1
          refine start_ (n := 16) (S := (fun W_ => W_.heap[L]? = some (.cells #[.pointer (some ⟨ib, 0, none⟩), .slice Aa ls.length ca, .map (some mb)] 82 (0, 0)) ∧ W_.heap[w.heap.size]? = some (.cells #[.int .i64 x.f0, .string x.f1, .int .i64 x.f2, .bool x.f3, .bool x.f4, .bool x.f5, .int .i64 x.f6, .bool x.f7] 96 (0, 0)))) (ds := []) (bm 16 0) (by kernel_rfl) rfl (by kernel_rfl) ⟨hXW.head, hX1⟩ (fun hHeld => ?_)
          refine pu_ 0 (some 50) (bm 16 1) ?_
          refine pu_ 1 (some 51) (bm 16 3) ?_
          refine pu_ 2 (some 52) (bm 16 7) ?_
          refine ta_ 3 (some 53) (bm 16 15) hHeld (fun _ hSw => blk_cell hSw.1 0) ?_
          refine pu_ 5 (some 55) (bm 16 47) ?_
          refine ta_ 6 (some 56) (bm 16 111) hHeld (fun _ hSw => (blk_cell hSw.2 1).trans rfl) ?_
          refine pu_ 7 (some 57) (bm 16 239) ?_
          refine ta_ 8 (some 58) (bm 16 495) hHeld (fun _ hSw => (blk_cell hSw.2 2).trans rfl) ?_
          refine pu_ 9 (some 59) (bm 16 1007) ?_
          refine tb_ 10 (some 60) (bm 16 2031) hHeld ?_ (hy := by intro w' hSw; have z3 := (blk_cell hSw.2 3).trans rfl; have z4 := (blk_cell hSw.2 4).trans rfl; have z5 := (blk_cell hSw.2 5).trans rfl; have z6 := (blk_cell hSw.2 6).trans rfl; go_simp; with_reducible rfl)
          refine pu_ 12 (some 62) (bm 16 6127) ?_
          refine one_ (i := 4) (N := (some 54)) (bm 16 6143) rfl rfl (by kernel_rfl) (by decide) (fun K hK => ?_)
          refine goes_ Tryz.func136 (by kernel_rfl) rfl #[.pointer (some ⟨ib, 0, none⟩)] (by rfl) rfl rfl (by try simp only [List.map_toArray, List.map_cons, List.map_nil]; first | done | rfl) ?_
          refine (ids_next ib (ls.length : Int) _ (hXW.below (below_drew (Below.refl _ _))).ids (by omega) (by omega)).mono ?_
          rintro e w' ⟨rfl, rfl⟩
          refine ⟨_, rfl, ?_⟩
          refine hK.out _ _ ⟨(Below.heap_setCell _ _ _ L hneL).trans hHeld.1, (Below.heap_setCell _ _ _ w.heap.size hneB).trans hHeld.2⟩ (fun hHeld => ?_)
          clear hK K
          refine norm_ (a' := ?_) ?_ ?_
          rotate_left
          · show Act.put _ (some 54) _ = _
            simp only [Act.put, List.setIfInBounds_toArray, List.set_cons_zero, List.set_cons_succ]
            rfl
          refine pu_ 11 (some 61) (bm 16 8191) ?_
          refine pu_ 13 (some 63) (bm 16 16383) ?_
          refine one_ (i := 14) (N := (some 64)) (bm 16 32767) rfl rfl (by kernel_rfl) (by decide) (fun K hK => ?_)
          refine value_ (w1 := ((w1.drew.setCell ⟨ib, 0, none⟩ (.int .i64 ((ls.length : Int) + 1))).alloc (.cells #[.int .i64 ((ls.length : Int) + 1), .string x.f1, .int .i64 x.f2, .bool x.f3, .bool x.f4, .bool x.f5, .int .i64 x.f6, .bool false, .int .i64 node] 201))) (v := .pointer (some ⟨w1.heap.size, 0, none⟩)) (by rfl) rfl ?_ ?_
          · go_simp
          refine hK.out _ _ ⟨alloc_at hHeld.1 _, alloc_at hHeld.2 _⟩ (fun hHeld => ?_)
          clear hK K
          refine norm_ (a' := ?_) ?_ ?_
          rotate_left
          · show Act.put _ (some 64) _ = _
            simp only [Act.put, List.setIfInBounds_toArray, List.set_cons_zero, List.set_cons_succ]
            rfl
          refine pu_ 15 (some 8) (bm 16 65535) ?_
          refine done_ (by kernel_rfl) ?_
          have hsz : (w1.drew.setCell ⟨ib, 0, none⟩ (.int .i64 ((ls.length : Int) + 1))).heap.size = w1.heap.size := by simp
          have hXa := ((hXW.below (below_drew (Below.refl _ _))).next).newp (x.ls node)
          rw [hsz] at hXa
          have hsz2 : w1.heap.size < ((w1.drew.setCell ⟨ib, 0, none⟩ (.int .i64 ((ls.length : Int) + 1))).alloc (.cells #[.int .i64 ((ls.length : Int) + 1), .string x.f1, .int .i64 x.f2, .bool x.f3, .bool x.f4, .bool x.f5, .int .i64 x.f6, .bool false, .int .i64 node] 201)).heap.size := by simp
          replace hXa : LiX (ownN own w1.heap.size (5 + 2 * ls.length)) w0 ((w1.drew.setCell ⟨ib, 0, none⟩ (.int .i64 ((ls.length : Int) + 1))).alloc (.cells #[.int .i64 ((ls.length : Int) + 1), .string x.f1, .int .i64 x.f2, .bool x.f3, .bool x.f4, .bool x.f5, .int .i64 x.f6, .bool false, .int .i64 node] 201)) L (ps ++ [w1.heap.size]) (ls ++ [x.ls node]) (ls.length + 1) ps ib mb (.slice Aa ls.length ca) g (fun n => ptsL ps (idxL ls n)) := hXa
          have hSA : LiStep own (ownN own w1.heap.size (5 + 2 * ls.length)) w1 ((w1.drew.setCell ⟨ib, 0, none⟩ (.int .i64 ((ls.length : Int) + 1))).alloc (.cells #[.int .i64 ((ls.length : Int) + 1), .string x.f1, .int .i64 x.f2, .bool x.f3, .bool x.f4, .bool x.f5, .int .i64 x.f6, .bool false, .int .i64 node] 201)) := ⟨((Ste.of_below (below_drew (Below.refl _ _))).trans ((setCell_ste _ ib 0 _).mono (P' := fun k => own k ≠ 0) (fun k hk => .inl (by rw [show k = ib from hk, hXW.oi]; decide))) (fun k hk => .inl hk)).trans (Ste.of_below (P := fun _ => False) (below_alloc (Below.refl _ _) _)) (fun _ h => h.elim), fun k hk => by
            unfold ownN at hk
            split at hk
            · rename_i e; exact .inr (by rw [e]; exact Nat.le_refl _)
            · exact .inl hk⟩
          clear hsz hHeld hneL hneB hX1 y0 y1 x1 x2 x3
          generalize ((w1.drew.setCell ⟨ib, 0, none⟩ (.int .i64 ((ls.length : Int) + 1))).alloc (.cells #[.int .i64 ((ls.length : Int) + 1), .string x.f1, .int .i64 x.f2, .bool x.f3, .bool x.f4, .bool x.f5, .int .i64 x.f6, .bool false, .int .i64 node] 201)) = wa at *
          generalize ownN own w1.heap.size (5 + 2 * ls.length) = ownA at *
          have ya0 := (blk_cell hXa.head 1).trans rfl
          have hvB : ∀ k, (Value.slice Aa ls.length ca).ownBlock = some k → k ≠ L := fun k hk e => by have h1 := hXa.all.1 k hk; rw [e, hXa.pl] at h1; omega
          go_wp2_with (at_builtin; refine Kd.R_append KdP (w0 := wa) w0.heap.size rfl (.tmp 69) (.tmp 71) 79 198 (.pointer none) 8 rfl Tryz.underlying79 info198 rfl (by decide) (by decide) (.slice Aa ls.length ca) ps w1.heap.size [.pointer (some ⟨w1.heap.size, 0, none⟩)] (fun k => ownA k = 4 ∨ wa.heap.size ≤ k) (fun _ => False) rfl rfl rfl (fun _ hk => hk.elim) (fun k hk => .inr hk) (Kd.R_mono hXa.all (fun k hk => .inl hk)) (Below.refl _ _) hXa.base.size (by have := HPN.out; omega) ?_; intro v1 w3 hR3 hB3 hg3 hat3; obtain ⟨A5, c5, hv1, hl5, -⟩ := Kd.R_reads hR3; rw [List.length_append, List.length_singleton] at hv1; subst hv1; have hX3 := blk_grown hXa.head hg3 (fun e => hvB L e.symm rfl); have y2 := (blk_cell hX3 1).trans rfl; have f2 := blk_frozen hX3 1)
          obtain ⟨ownB, hoB, hSB, hXb⟩ := hXa.allp hR3 hB3 hg3 hat3
          have hs3 : (w3.setCell ⟨L, 1, none⟩ (.slice A5 (ps.length + 1) c5)).heap.size = w3.heap.size := by simp
          have hSB' : LiStep ownA ownB wa (w3.setCell ⟨L, 1, none⟩ (.slice A5 (ps.length + 1) c5)) := ⟨hSB, ownN_new hoB⟩
          clear hR3 hB3 hg3 hat3 hX3 y2 f2 ya0 hoB hSB hs3
          generalize w3.setCell ⟨L, 1, none⟩ (.slice A5 (ps.length + 1) c5) = wb at *
          refine start_ (n := 15) (S := (fun W_ => W_.heap[L]? = some (.cells #[.pointer (some ⟨ib, 0, none⟩), .slice A5 (ps.length + 1) c5, .map (some mb)] 82 (0, 0)) ∧ MapI W_ mb g)) (ds := [14]) (bm 15 0) (by kernel_rfl) rfl (by kernel_rfl) ⟨hXb.head, hXb.map.below (below_drew (Below.refl _ wb))⟩ (fun hHeld => ?_)
          refine pu_ 0 (some 75) (bm 15 1) ?_
          refine pu_ 1 (some 76) (bm 15 3) ?_
          refine pu_ 2 (some 77) (bm 15 7) ?_
          refine ta_ 3 (some 78) (bm 15 15) hHeld (fun _ hSw => (blk_cell hSw.1 2).trans rfl) ?_
          refine pu_ 4 (some 79) (bm 15 31) ?_
          refine pu_ 5 (some 80) (bm 15 63) ?_
          refine pu_ 6 (some 81) (bm 15 127) ?_
          refine pu_ 7 (some 82) (bm 15 255) ?_
          refine ta_ 8 (some 83) (bm 15 511) hHeld (fun _ hSw => (blk_cell hSw.1 2).trans rfl) ?_
          refine pu_ 9 (some 84) (bm 15 1023) ?_
          refine tb_ 10 (some 85) (bm 15 2047) hHeld ?_ (hy := by intro w' hSw; have hz8 : (Instr.lookup 80 (.map (some mb)) (.int .i64 node) false).run Tryz.prog w' = .ok (rowV g node) w' := hSw.2.lookup (P := Tryz.prog) (t := 80) Tryz.underlying80 Tryz.underlying3 (Tryz.zeroValue79 w') node; go_simp; with_reducible rfl)
          refine pu_ 11 (some 86) (bm 15 4095) ?_
          refine one_ (i := 12) (N := (some 87)) (bm 15 8191) rfl rfl (by kernel_rfl) (by decide) (fun K hK => ?_)
          refine value_ (w1 := wb.drew.alloc (.cells #[.pointer (some ⟨w1.heap.size, 0, none⟩)] 198)) (v := .slice (some ⟨wb.heap.size, 0, none⟩) 1 1) (by rfl) rfl ?_ ?_
          · go_simp
          refine hK.out _ _ ⟨alloc_at hHeld.1 _, hHeld.2.below (below_alloc (Below.refl _ _) _)⟩ (fun hHeld => ?_)
          clear hK K
          refine norm_ (a' := ?_) ?_ ?_
          rotate_left
          · show Act.put _ (some 87) _ = _
            simp only [Act.put, List.setIfInBounds_toArray, List.set_cons_zero, List.set_cons_succ]
            rfl
          refine one_ (i := 13) (N := (some 88)) (bm 15 16383) rfl rfl (by kernel_rfl) (by decide) (fun K hK => ?_)
          refine Kd.R_append_step KdP (w0 := wb.drew) w0.heap.size (by rfl) (.tmp 85) (.tmp 87) 79 198 (.pointer none) 8 rfl Tryz.underlying79 info198 rfl (by decide) (by decide) (rowV g node) (ptsL ps (idxL ls node)) w1.heap.size [.pointer (some ⟨w1.heap.size, 0, none⟩)] (fun k => ownB k = 6 + 2 * node.toNat ∨ wb.heap.size ≤ k) (fun _ => False) rfl rfl rfl (fun _ hk => hk.elim) (fun k hk => .inr hk) (Kd.R_mono (Kd.R_below (hXb.rowR node) (below_drew (Below.refl _ _))) (fun k hk => .inl hk)) (Below.refl _ _) hXb.base.size (by have := hil.out; omega) ?_
          intro v5 w5 hR5 hB5 hg5 hat5
          have hS5 := (grown_ste hg5 ⟨hB5.os, hB5.tape, hB5.output, hB5.size, fun k hk => absurd hk (Nat.not_lt_zero k)⟩).mono (P' := fun k => ownB k = 6 + 2 * node.toNat) (fun k hk => .inl ((hXb.rowR node).1 k hk))
          obtain ⟨es, cl, hup, hMu⟩ := (hXb.map.ste ((Ste.of_below (P := fun k => ownB k = 6 + 2 * node.toNat) (below_drew (Below.refl _ wb))).trans hS5 (fun k hk => .inl hk)) (by rw [hXb.om]; omega)).update (P := Tryz.prog) (t := 80) Tryz.underlying80 Tryz.underlying3 node v5
          refine hK.out _ _ ⟨hS5.blk (show wb.drew.heap[L]? = _ from hXb.head) (by rw [hXb.pl]; omega), (hXb.map.below (below_drew (Below.refl _ wb))).ste hS5 (show ¬ ownB mb = _ by rw [hXb.om]; omega)⟩ (fun hHeld => ?_)
          clear hK K
          refine norm_ (a' := ?_) ?_ ?_
          rotate_left
          · show Act.put _ (some 88) _ = _
            simp only [Act.put, List.setIfInBounds_toArray, List.set_cons_zero, List.set_cons_succ]
            rfl
          refine last_ (i := 14) (N := none) (bm 15 32767) rfl rfl (by kernel_rfl) (by decide) (fun K hK => ?_)
          refine skip_ (w1 := w5.putObj mb (.map es cl)) (by rfl) rfl ?_ ?_
          · have hz8 := hup
            go_simp
          refine hK.out _ _ ?_
          clear hK K
          refine done_ (by kernel_rfl) ?_
          obtain ⟨ownC, hoC, hSC, hXc⟩ := hXb.rowp (n := node) (v1 := v5) (xs := ptsL ps (idxL ls node) ++ [w1.heap.size]) (g' := updG g node v5) hnode.out hkeys.out hR5 ((Ste.of_below (below_drew (Below.refl _ wb))).trans hS5 (fun k hk => .inl hk)) hat5 (putObj_ste _) hMu (updG_keys node v5 g hXb.nd).1 (fun m => by rw [getG_upd, if_neg (show ¬ ptsL ps (idxL ls node) ++ [w1.heap.size] = [] by simp)])
          have hSC' : LiStep ownB ownC wb (w5.putObj mb (.map es cl)) := ⟨hSC, ownN_new hoC⟩
          have hSall := ((hST.trans hSA).trans hSB').trans hSC'
          have hXf : LiC ownC w0 (w5.putObj mb (.map es cl)) L (ps ++ [w1.heap.size]) (ls ++ [x.ls node]) := LiX.c (ib := ib) (mb := mb) (va := .slice A5 (ps.length + 1) c5) (g := updG g node v5) (rows := rowsU (fun n => ptsL ps (idxL ls n)) node (ptsL ps (idxL ls node) ++ [w1.heap.size])) (by rw [List.length_append]; exact hXc) (by simp) (fun n => rows_push (s := x.ls node) rfl HPN.out _ n) (by rw [List.length_append, List.length_singleton]; omega) (fun t ht => (List.mem_append.1 ht).elim (hnod.out t) (fun ht => by rw [List.mem_singleton.1 ht]; exact hnode.out))
          obtain ⟨s0, hs0, hc0⟩ : ∃ p, (ps ++ [w1.heap.size])[ls.length]? = some p ∧ (w5.putObj mb (.map es cl)).heap[p]? = some (.cells (LsC ((ls.length + 1 : Nat) : Int) (x.ls node)) 201 (0, 0)) := by
            obtain ⟨p, hp, -, hc⟩ := hXf.ent ls.length (x.ls node) (by rw [List.getElem?_append_right (Nat.le_refl _), Nat.sub_self]; rfl)
            exact ⟨p, hp, hc⟩
          have hpw : s0 = w1.heap.size := by
            rw [← HPN.out, List.getElem?_append_right (Nat.le_refl _), Nat.sub_self] at hs0
            simpa using hs0.symm
          subst hpw
          have yf : (w5.putObj mb (.map es cl)).cell? ⟨w1.heap.size, 0, none⟩ = some (.int .i64 ((ls.length : Int) + 1)) := (blk_cell hc0 0).trans rfl
          clear hR5 hB5 hg5 hat5 hS5 hup hMu hoC hSC hSC' hXc hc0 hs0 hXb hSA hSB' hXa
          go_wp2
          go_ret2
          refine ⟨by rw [HF.out]; rfl, ownC, ps ++ [w1.heap.size], ?_, hSall⟩
          rw [HF.out]
          exact hXf
end Go.Proofs.YtgopddjmmoohdaaGreatDoor
