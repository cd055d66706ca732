/- The texts of this seat, joined: part 12 of 25. -/
import Derived.Test.YtgopddjmmoohdaaGreatDoorSl11
import Derived.Outline
/- signal: New, Make. -/
set_option linter.unusedSimpArgs false
set_option linter.unusedVariables false
set_option maxRecDepth 100000
set_option maxHeartbeats 1600000
namespace Go.Proofs.YtgopddjmmoohdaaGreatDoor
open Go.RowKit Go.Proofs.YtgopddjmmoohdaaGreatDoorW.PrintWords Go.Proofs.YtgopddjmmoohdaaGreatDoorW.PrintLast Go.Proofs.YtgopddjmmoohdaaGreatDoor.PPlaySilent

theorem any_take_next {p : Int → Bool} {xs : List Int} {j : Nat} {x : Int} (h : xs[j]? = some x) (h0 : (xs.take j).any p = false) : (xs.take (j + 1)).any p = p x := by
  rw [List.take_add_one, h, List.any_append, h0]; simp
theorem any_at {p : Int → Bool} {xs : List Int} {j : Nat} {x : Int} (h : xs[j]? = some x) (hp : p x = true) : xs.any p = true := List.any_eq_true.2 ⟨x, List.mem_of_getElem? h, hp⟩
theorem indexGiven_any (own : Nat → Nat) (w0 w : World) (B : Nat) (l : List SigS) (fol : List Int) (A : Option Addr) (c : Nat) (h : BoC own w0 w B l) (hf : (Kd.int .i64).C w A fol.length fol) (hl : fol.length ≤ 100000) :
    Calls Tryz.prog 79 #[.slice A fol.length c, .func (.func 77) #[.pointer (some ⟨B, 0, none⟩)] #[]] w fun e w' => ∃ i : Int, e = .returned (.int .i64 i) ∧ Hd (decide (0 ≤ i) = fol.any (givenF l)) ∧ w' = w := by
  have hg := fun id => given_any own w0 w B id l h
  clear h
  go_enter Tryz.func79, Tryz.ntmps79
  go_wp2
  go_loop [5, 8] (fun _ iv => ∃ j : Nat, j ≤ fol.length ∧ iv = .int .i64 j ∧ Hd ((fol.take j).any (givenF l) = false)) (fun _ iv => fol.length - (intOf iv).toNat)
  case atStart => exact ⟨0, Nat.zero_le _, rfl, ⟨by simp⟩⟩
  case round =>
    obtain ⟨j, hj, rfl, hJ⟩ := hrel
    by_cases hlt : j < fol.length
    · obtain ⟨x, hx⟩ : ∃ x, fol[j]? = some x := ⟨_, List.getElem?_eq_getElem hlt⟩
      obtain ⟨b1, o1, rfl, hcell⟩ := ints_at hf hx
      have HT := hd_ (any_take_next (p := givenF l) hx hJ.out)
      have HA := hd_ (fun hp => any_at (p := givenF l) hx hp)
      have hgx := hg x
      clear hg hx hf hJ
      generalize givenF l x = r at *
      cases r with
      | true =>
        go_wp2_with (go_at_call 77; (with_reducible refine hgx.mono ?_); rintro e w1 ⟨rfl, hw⟩; obtain rfl := hw.symm)
        go_ret
        exact ⟨j, rfl, ⟨by rw [HA.out (by simp)]; simp⟩, rfl⟩
      | false =>
        go_wp2_with (go_at_call 77; (with_reducible refine hgx.mono ?_); rintro e w1 ⟨rfl, hw⟩; obtain rfl := hw.symm)
        go_round
        case rel => exact ⟨j + 1, by omega, by go_num, HT⟩
        case measure => simp [intOf]; omega
    · have HF := hd_ (show fol.any (givenF l) = false by have := hJ.out; rwa [List.take_of_length_le (by omega)] at this)
      clear hg hf hJ
      go_wp2
      go_ret
      exact ⟨-1, rfl, ⟨by rw [HF.out]; simp⟩, rfl⟩
theorem containsGiven_any (own : Nat → Nat) (w0 w : World) (B : Nat) (l : List SigS) (fol : List Int) (A : Option Addr) (c : Nat) (h : BoC own w0 w B l) (hf : (Kd.int .i64).C w A fol.length fol) (hl : fol.length ≤ 100000) :
    Calls Tryz.prog 76 #[.slice A fol.length c, .func (.func 77) #[.pointer (some ⟨B, 0, none⟩)] #[]] w fun e w' => e = .returned (.bool (fol.any (givenF l))) ∧ w' = w := by
  have hi := indexGiven_any own w0 w B l fol A c h hf hl
  clear h hf
  generalize fol.any (givenF l) = r at *
  go_enter Tryz.func76, Tryz.ntmps76
  go_wp2_with (go_at_call 79; (with_reducible refine hi.mono ?_); rintro e w1 ⟨i, rfl, hi2, hw⟩; obtain rfl := hw.symm)
  go_ret
  exact ⟨congrArg (fun b => Ending.returned (.bool b)) (by rw [← hi2.out]), rfl⟩
/-- Make: the signals then, a number, an error. -/
def makeG (g : List Sg) (fol : List Int) : List Sg × Int × Int :=
  if fol.any (fun id => (sgF g id).isNone) = true then (g, 0, 1) else if 64 ≤ g.length then (g, 0, 9) else (g ++ [⟨fol.any (fun id => (sgF g id).any (·.shut)), fol, []⟩], (g.length : Int) + 1, 0)
theorem givenF_abs (l : List SigS) (id : Int) : givenF l id = (sgF (l.map SigS.abs) id).any (·.shut) := by
  rw [sgF_abs]; unfold givenF; cases sigF l id <;> rfl
theorem info134 : (Tryz.prog.info? 134).map (fun i => (i.zero, i.size, i.bytes)) = some (some (.pointer none), 1, 8) := by kernel_rfl
/-- An entry is put behind all. -/
theorem BoC.push {own : Nat → Nat} {w0 w w' : World} {B : Nat} {l : List SigS} {v1 : Value} {s : SigS} (h : BoC own w0 w B l) (hl : l.length < 64) (hS : Ste (fun k => own k = 1) w w') (hB : w'.heap[B]? = some (.cells #[v1] 85 (0, 0)))
    (hR : KdP.R 134 w' w0.heap.size (fun k => (own k = 1 ∨ w.heap.size ≤ k) ∧ k ≠ B) v1 ((l ++ [s]).map (·.ob))) (hE : EntC (fun k => (w.heap.size ≤ k ∧ k < w'.heap.size) ∧ v1.ownBlock ≠ some k) w0 w' s) :
    ∃ own', BoC own' w0 w' B (l ++ [s]) ∧ BoStep own own' w w' := by
  have hb0 := h.base.size
  refine ⟨fun k => if k < w.heap.size then own k else if k < w'.heap.size then (if v1.ownBlock = some k then 1 else l.length + 2) else 0, ⟨?_, fun k hk => ?_, hS.base h.base h.base.size (fun k hk => (h.lo k (by rw [hk]; decide)).1), ?_, ⟨v1, hB, ?_⟩, fun i t hi => ?_⟩, hS.mono (fun k hk => .inl (by show own k ≠ 0; rw [hk]; decide)), fun k hk => ?_⟩
  · rw [if_pos (h.lo B (by rw [h.pb]; decide)).2]; exact h.pb
  · split at hk
    · exact ⟨(h.lo k hk).1, Nat.lt_of_lt_of_le (by assumption) hS.size⟩
    · split at hk
      · exact ⟨by omega, by assumption⟩
      · exact absurd rfl hk
  · rw [List.length_append]; simp; omega
  · refine Kd.R_mono (Kd.R_tight rfl hR) (fun k hk => ?_)
    have h1 := hR.1 k hk.symm
    have h2 := Kd.R_lt hR k hk.symm
    refine ⟨?_, h1.2⟩
    by_cases hlt : k < w.heap.size
    · rw [if_pos hlt]; exact h1.1.elim id (fun h => by omega)
    · rw [if_neg hlt, if_pos h2, if_pos hk.symm]
  · by_cases hlt : i < l.length
    · rw [List.getElem?_append_left hlt] at hi
      refine ((h.ent i t hi).ste hS (fun k hk e => by omega)).mono (fun k hk => ?_)
      rw [if_pos (h.lo k (by rw [hk]; omega)).2]
      exact hk
    · obtain ⟨hi1, hi2⟩ := List.getElem?_eq_some_iff.1 hi
      have hie : i = l.length := by rw [List.length_append] at hi1; simp at hi1; omega
      subst hie
      rw [List.getElem?_append_right (Nat.le_refl _), Nat.sub_self] at hi
      simp only [List.getElem?_cons_zero, Option.some.injEq] at hi
      subst hi
      refine hE.mono (fun k hk => ?_)
      rw [if_neg (by omega), if_pos hk.1.2, if_neg hk.2]
  · by_cases hlt : k < w.heap.size
    · rw [if_pos hlt] at hk; exact .inl hk
    · exact .inr (by omega)
def BmPost (own : Nat → Nat) (w0 w : World) (B : Nat) (r : List Sg × Int × Int) (e : Ending) (w' : World) : Prop := e = .returned (.tuple #[.int .i64 r.2.1, .int .i64 r.2.2]) ∧ ∃ own' l', BoC own' w0 w' B l' ∧ l'.map SigS.abs = r.1 ∧ BoStep own own' w w'
theorem sigF_isNone (l : List SigS) (id : Int) : (sgF (l.map SigS.abs) id).isNone = (sigF l id).isNone := by rw [sgF_abs]; cases sigF l id <;> rfl
set_option maxHeartbeats 6400000 in
theorem bmake_any (own : Nat → Nat) (w0 w : World) (B : Nat) (l : List SigS) (fol : List Int) (A : Option Addr) (c : Nat) (h : BoC own w0 w B l) (hf : (Kd.int .i64).C w A fol.length fol) (hl : fol.length ≤ 100000) :
    Calls Tryz.prog 49 #[.pointer (some ⟨B, 0, none⟩), .slice A fol.length c] w (BmPost own w0 w B (makeG (l.map SigS.abs) fol)) := by
  have hcl := clone_any fol A c (w.alloc (latchB false)) (Kd.C_below hf (below_alloc (Below.refl _ _) _)) (by omega)
  have hln := latch_new w
  have HM := hd_ (show makeG (l.map SigS.abs) fol = if fol.any (fun id => (sgF (l.map SigS.abs) id).isNone) = true then (l.map SigS.abs, 0, 1) else if 64 ≤ (l.map SigS.abs).length then (l.map SigS.abs, 0, 9) else (l.map SigS.abs ++ [⟨fol.any (fun id => (sgF (l.map SigS.abs) id).any (·.shut)), fol, []⟩], ((l.map SigS.abs).length : Int) + 1, 0) from rfl)
  simp only [sigF_isNone, ← givenF_abs, List.length_map] at HM
  have hno : Hd (∀ W v, makeG (l.map SigS.abs) fol = (l.map SigS.abs, 0, v) → Below w.heap.size w W → BmPost own w0 w B (makeG (l.map SigS.abs) fol) (.returned (.tuple #[.int .i64 0, .int .i64 v])) W) := ⟨fun W v he hB => by
    rw [he]; exact ⟨rfl, own, l, h.below hB, rfl, BoStep.same hB⟩⟩
  generalize makeG (l.map SigS.abs) fol = mg at *
  go_enter Tryz.func49, Tryz.ntmps49
  go_wp2_with (first
    | (go_at_call 73; (with_reducible refine hln.mono ?_); rintro e w1 ⟨rfl, rfl⟩)
    | (go_at_call 74; (with_reducible refine hcl.mono ?_); rintro e w2 ⟨A2, c2, rfl, hc2, -, hR2, hB2⟩))
  have hB12 := below_then (below_alloc (Below.refl w.heap.size w) (latchB false)) (below_alloc (Below.refl w.heap.size w) (latchB false)).size hB2
  have hX2 : w2.heap[w.heap.size]? = some (latchB false) := blk_below (show (w.alloc (latchB false)).heap[w.heap.size]? = some (latchB false) from alloc_new' rfl) hB2
  have hX3 := blk_new w2 (.cells #[.pointer (some ⟨w.heap.size, 0, none⟩), .slice A2 fol.length c2, .slice none 0 0] 139)
  have hl3 := alloc_at hX2 (.cells #[.pointer (some ⟨w.heap.size, 0, none⟩), .slice A2 fol.length c2, .slice none 0 0] 139)
  have hR3 := Kd.R_below hR2 (below_alloc (Below.refl w2.heap.size w2) (.cells #[.pointer (some ⟨w.heap.size, 0, none⟩), .slice A2 fol.length c2, .slice none 0 0] 139))
  have hB3 := below_alloc hB12 (.cells #[.pointer (some ⟨w.heap.size, 0, none⟩), .slice A2 fol.length c2, .slice none 0 0] 139)
  have hs3 : w2.heap.size < (w2.alloc (.cells #[.pointer (some ⟨w.heap.size, 0, none⟩), .slice A2 fol.length c2, .slice none 0 0] 139)).heap.size := by simp
  have hs2 : w.heap.size < w2.heap.size := by have := hB2.size; simp at this; omega
  have hRb := Kd.R_base hR2
  have hRl := Kd.R_lt hR2
  generalize hw3 : w2.alloc (.cells #[.pointer (some ⟨w.heap.size, 0, none⟩), .slice A2 fol.length c2, .slice none 0 0] 139) = w3 at *
  obtain ⟨ob, hob⟩ : ∃ ob, ob = w2.heap.size := ⟨_, rfl⟩
  rw [← hob] at hX3 hs3 hs2 hRl
  obtain ⟨lb, hlb⟩ : ∃ lb, lb = w.heap.size := ⟨_, rfl⟩
  have hbw := h.lo B (by rw [h.pb]; decide)
  obtain ⟨v, hBr, hRr⟩ := h.row
  have hBr3 := blk_below hBr hB3
  have hvl := Kd.R_lt hRr
  obtain ⟨Ar, cr, rfl, hcr, -⟩ := Kd.R_reads hRr
  have hml : (l.map (·.ob)).length = l.length := by simp
  rw [hml] at hBr hBr3 hRr hcr hvl
  have hRr3 : KdP.R 134 w3 w0.heap.size (fun k => (own k = 1 ∨ w.heap.size ≤ k) ∧ k ≠ B) (.slice Ar l.length cr) (l.map (·.ob)) := Kd.R_mono (Kd.R_below hRr hB3) (fun k hk => ⟨.inl hk.1, hk.2⟩)
  have hDone : Hd (∀ w4 r v1 w1, l.length < 64 → Ste (fun k => k = w.heap.size) w3 w4 → w4.heap[w.heap.size]? = some (latchB r) → KdP.R 134 w1 w0.heap.size (fun k => (own k = 1 ∨ w.heap.size ≤ k) ∧ k ≠ B) v1 (l.map (·.ob) ++ [ob]) → Below w0.heap.size w4 w1 → w4.grownBy w1 (Value.slice Ar l.length cr).ownBlock → (v1.ownBlock = (Value.slice Ar l.length cr).ownBlock ∨ ∃ b, v1.ownBlock = some b ∧ w4.heap.size ≤ b) →
      mg = (l.map SigS.abs ++ [⟨r, fol, []⟩], (l.length : Int) + 1, 0) → BmPost own w0 w B mg (.returned (.tuple #[.int .i64 ((l.length : Int) + 1), .int .i64 0])) (w1.setCell ⟨B, 0, none⟩ v1)) := ⟨fun w4 r v1 w1 hlt hS4 hl4 hR1 hB1 hg1 hat1 hm => by
    rw [hm]
    have h34 := hS4.size
    have h41 := hg1.size
    have hS1 := grown_ste hg1 ⟨hB1.os, hB1.tape, hB1.output, hB1.size, fun k hk => absurd hk (Nat.not_lt_zero k)⟩
    have hsc := setCell_ste w1 B 0 v1
    have hsz : (w1.setCell ⟨B, 0, none⟩ v1).heap.size = w1.heap.size := by simp
    have hv1 : ∀ k, w.heap.size ≤ k → k < w3.heap.size → v1.ownBlock ≠ some k := fun k hk hk3 e => by
      rcases hat1 with e1 | ⟨b, e1, hb⟩
      · rw [e1] at e; have := hvl k e; omega
      · rw [e1] at e; cases e; omega
    have hv : ∀ k, w.heap.size ≤ k → (Value.slice Ar l.length cr).ownBlock ≠ some k := fun k hk e => by have := hvl k e; omega
    have hSt : Ste (fun k => own k = 1) w (w1.setCell ⟨B, 0, none⟩ v1) := (((Ste.of_below hB3).trans hS4 (fun k hk => .inr (by omega))).trans hS1 (fun k hk => by
      by_cases hlt : k < w.heap.size
      · exact .inl (hRr.1 k hk).1
      · exact .inr (by omega))).trans hsc (fun k hk => .inl (by rw [show k = B from hk]; exact h.pb))
    have hBX := hS1.blk (hS4.blk hBr3 (by omega)) (fun e => Kd.R_ne hRr hBr (by decide) e.symm)
    have hnew : ∀ k o, w.heap.size ≤ k → k ≠ w.heap.size → w3.heap[k]? = some o → (w1.setCell ⟨B, 0, none⟩ v1).heap[k]? = some o := fun k o hk hne ho => hsc.blk (hS1.blk (hS4.blk ho hne) (hv k hk)) (by omega)
    have hRf : (Kd.int .i64).R 3 (w1.setCell ⟨B, 0, none⟩ v1) w0.heap.size (fun k => (w.heap.size ≤ k ∧ k < (w1.setCell ⟨B, 0, none⟩ v1).heap.size) ∧ v1.ownBlock ≠ some k) (.slice A2 fol.length c2) fol := by
      have hR4 := R_ste (Kd.R_tight rfl hR3) hS4 (fun k hk e => by have := hRb k hk.symm; simp at this; omega)
      have hR5 := R_ste (Kd.R_tight rfl hR4) hS1 (fun k hk e => hv k (by have := hRb k hk.symm; simp at this; omega) e)
      have hR6 := R_ste (Kd.R_tight rfl hR5) hsc (fun k hk e => by have := hRb k hk.symm; simp at this; omega)
      refine Kd.R_mono (Kd.R_lower hR6 (by have := h.base.size; simp; omega)) (fun k hk => ?_)
      have h1 := hRb k hk.symm
      have h2 := hRl k hk.symm
      simp at h1
      exact ⟨⟨by omega, by rw [hsz]; omega⟩, hv1 k (by omega) (by omega)⟩
    obtain ⟨own', hBo, hSo⟩ := h.push (s := ⟨ob, w.heap.size, r, fol, []⟩) hlt hSt (blk_put hBX 0 v1 rfl) (by rw [List.map_append]; exact Kd.R_mono (R_ste (Kd.R_tight rfl hR1) hsc (fun k hk e => by obtain rfl : k = B := e; exact Kd.R_ne hR1 hBX (by decide) hk)) (fun k hk => hR1.1 k hk.symm))
      ⟨⟨⟨Nat.le_of_lt hs2, Nat.lt_of_lt_of_le hs3 (by rw [hsz]; omega)⟩, hv1 ob (Nat.le_of_lt hs2) hs3⟩, ⟨⟨Nat.le_refl _, Nat.lt_of_lt_of_le (Nat.lt_trans hs2 hs3) (by rw [hsz]; omega)⟩, hv1 _ (Nat.le_refl _) (Nat.lt_trans hs2 hs3)⟩, hsc.blk (hS1.blk hl4 (hv _ (Nat.le_refl _))) (by show ¬ w.heap.size = B; omega), .slice A2 fol.length c2, .slice none 0 0, hnew ob _ (by omega) (by omega) hX3, hRf, Kd.R_nil _ _ _ _ _⟩
    exact ⟨rfl, own', l ++ [⟨ob, w.heap.size, r, fol, []⟩], hBo, by rw [List.map_append]; rfl, hSo⟩⟩
  have hR4f := hd_ (fun W (hS : Ste (fun k => k = w.heap.size) w3 W) => (⟨Kd.R_mono (R_ste (Kd.R_tight rfl hRr3) hS (fun k hk e => by have := hvl k hk.symm; omega)) (fun k hk => hRr3.1 k hk.symm), hS.blk hBr3 (by omega)⟩ : KdP.R 134 W w0.heap.size (fun k => (own k = 1 ∨ w.heap.size ≤ k) ∧ k ≠ B) (.slice Ar l.length cr) (l.map (·.ob)) ∧ W.heap[B]? = some (.cells #[.slice Ar l.length cr] 85 (0, 0))))
  have hne5 : (Value.slice Ar l.length cr).ownBlock ≠ some B := fun e => Kd.R_ne hRr hBr (by decide) e.symm
  have hfr5 : ∀ k, w.heap.size ≤ k → (own k = 1 ∨ w.heap.size ≤ k) ∧ k ≠ B := fun k hk => ⟨.inr hk, by omega⟩
  have hb05 := h.base.size
  have hlen5 : Hd ((l.map (·.ob) ++ [ob]).length = l.length + 1) := ⟨by simp⟩
  clear hRb hRl hR3 hX2 hB12 hvl hml hBr hRr hR2 hB2 hcl hln hw3 hbw
  have hat := fun x => bat_any own w0 w3 B x l (h.below hB3)
  have hf3 := Kd.C_below hf hB3
  have hcg := containsGiven_any own w0 w3 B l fol A c (h.below hB3) hf3 hl
  have hdn := latch_do_nil w.heap.size w3 hl3
  subst hob hlb
  clear hf h
  go_loop [8, 18] (fun _ iv => ∃ i : Nat, i ≤ fol.length ∧ iv = .int .i64 i ∧ Hd ((fol.take i).any (fun id => (sigF l id).isNone) = false)) (fun _ iv => fol.length - (intOf iv).toNat)
  case atStart => exact ⟨0, Nat.zero_le _, rfl, ⟨by simp⟩⟩
  case round =>
    obtain ⟨i, hi, rfl, hI⟩ := hrel
    by_cases hlt : i < fol.length
    · obtain ⟨x, hx⟩ : ∃ x, fol[i]? = some x := ⟨_, List.getElem?_eq_getElem hlt⟩
      obtain ⟨b1, o1, rfl, hcell⟩ := ints_at hf3 hx
      have HT := hd_ (any_take_next (p := fun id => (sigF l id).isNone) hx hI.out)
      have HA := hd_ (fun hp => any_at (p := fun id => (sigF l id).isNone) hx hp)
      have hatx := hat x
      clear hx hf3 hI hDone hcg hdn hRr3 hBr3
      cases hn : sigF l x with
      | none =>
        have HZ := hd_ (HM.out.trans (if_pos (HA.out (by rw [hn]; rfl))))
        rw [show sigP l x = .pointer none by unfold sigP; rw [hn]] at hatx
        clear hn HT HA
        go_wp2_with (go_at_call 75; (with_reducible refine hatx.mono ?_); rintro e w1 ⟨rfl, hw⟩; obtain rfl := hw.symm)
        go_ret2
        exact hno.out _ _ HZ.out hB3
      | some t =>
        replace HT := hd_ (HT.out.trans (by rw [hn]; first | done | rfl))
        rw [show sigP l x = .pointer (some ⟨t.ob, 0, none⟩) by unfold sigP; rw [hn]] at hatx
        clear hn HA
        go_wp2_with (go_at_call 75; (with_reducible refine hatx.mono ?_); rintro e w1 ⟨rfl, hw⟩; obtain rfl := hw.symm)
        go_round
        case rel => exact ⟨i + 1, by omega, by go_num, HT⟩
        case measure => simp [intOf]; omega
    · have HM1 := hd_ (HM.out.trans (if_neg (by have := hI.out; rw [List.take_of_length_le (by omega)] at this; rw [this]; simp)))
      have y0 := blk_cell hBr3 0
      clear hI HM hat
      by_cases h64 : 64 ≤ l.length
      · have HZ := hd_ (HM1.out.trans (if_pos h64))
        have q2 : (64 : Int) ≤ l.length := by omega
        clear HM1 hDone hcg hdn
        go_wp2
        go_ret2
        exact hno.out _ _ HZ.out hB3
      · have HZ := hd_ (HM1.out.trans (if_neg h64))
        have q2 : ¬ (64 : Int) ≤ l.length := by omega
        have q3 : l.length < 64 := by omega
        have fl : ∀ (W : World), Below w3.heap.size w3 W → True := fun _ _ => trivial
        clear HM1
        generalize (fol.any fun id => givenF l id) = r at *
        have z0 := blk_cell hX3 0
        have hs3' := hB3.size
        cases r with
        | true =>
          go_wp2_with (first
            | (go_at_call 76; (with_reducible refine hcg.mono ?_); rintro e w1 ⟨rfl, hw⟩; obtain rfl := hw.symm)
            | (go_at_call 78; (with_reducible refine hdn.mono ?_); rintro e w4 ⟨rfl, hS4, hl4⟩; have hR4 := hR4f.out w4 hS4; have y4 := blk_cell hR4.2 0; have hs4 := hS4.size; clear y0)
            | (at_builtin; refine Kd.R_append KdP (w0 := w4) w0.heap.size rfl (.tmp 46) (.tmp 48) 83 134 (.pointer none) 8 rfl Tryz.underlying83 info134 rfl (by decide) (by decide) (.slice Ar l.length cr) (l.map (·.ob)) w2.heap.size [.pointer (some ⟨w2.heap.size, 0, none⟩)] (fun k => (own k = 1 ∨ w.heap.size ≤ k) ∧ k ≠ B) (fun _ => False) rfl rfl rfl (fun _ hk => hk.elim) (fun k hk => hfr5 k (by omega)) hR4.1 (Below.refl _ _) (by omega) (by simp; omega) ?_; intro v1 w1 hR1 hB1 hg1 hat1; obtain ⟨A5, c5, hv1, hl5, -⟩ := Kd.R_reads hR1; rw [hlen5.out] at hv1 hl5; subst hv1; have hX1 := blk_grown hR4.2 hg1 (Ne.symm hne5); have y2 := blk_cell hX1 0; have f2 := blk_frozen hX1 0))
          go_ret2
          exact hDone.out w4 true _ w1 q3 hS4 hl4 hR1 hB1 hg1 hat1 HZ.out
        | false =>
          have hR4 := hR4f.out w3 (Ste.refl _ _)
          go_wp2_with (first
            | (go_at_call 76; (with_reducible refine hcg.mono ?_); rintro e w1 ⟨rfl, hw⟩; obtain rfl := hw.symm)
            | (at_builtin; refine Kd.R_append KdP (w0 := w3) w0.heap.size rfl (.tmp 46) (.tmp 48) 83 134 (.pointer none) 8 rfl Tryz.underlying83 info134 rfl (by decide) (by decide) (.slice Ar l.length cr) (l.map (·.ob)) w2.heap.size [.pointer (some ⟨w2.heap.size, 0, none⟩)] (fun k => (own k = 1 ∨ w.heap.size ≤ k) ∧ k ≠ B) (fun _ => False) rfl rfl rfl (fun _ hk => hk.elim) (fun k hk => hfr5 k (by omega)) hR4.1 (Below.refl _ _) (by omega) (by simp; omega) ?_; intro v1 w1 hR1 hB1 hg1 hat1; obtain ⟨A5, c5, hv1, hl5, -⟩ := Kd.R_reads hR1; rw [hlen5.out] at hv1 hl5; subst hv1; have hX1 := blk_grown hR4.2 hg1 (Ne.symm hne5); have y2 := blk_cell hX1 0; have f2 := blk_frozen hX1 0))
          go_ret2
          exact hDone.out w3 false _ w1 q3 (Ste.refl _ _) hl3 hR1 hB1 hg1 hat1 HZ.out
end Go.Proofs.YtgopddjmmoohdaaGreatDoor

/- ids: New, Next. -/
set_option linter.unusedSimpArgs false
set_option linter.unusedVariables false
set_option maxRecDepth 100000
set_option maxHeartbeats 1600000
namespace Go.Proofs.YtgopddjmmoohdaaGreatDoor
open Go.RowKit Go.Proofs.YtgopddjmmoohdaaGreatDoorW.PrintWords Go.Proofs.YtgopddjmmoohdaaGreatDoorW.PrintLast Go.Proofs.YtgopddjmmoohdaaGreatDoor.PPlaySilent

theorem iload_any (a : Addr) (d : Int) (w : World) (h0 : w.cell? a = some (.int .i64 d)) :
    Calls Tryz.prog 160 #[.pointer (some a)] w fun e w' => e = .returned (.int .i64 d) ∧ w' = w := by
  have hl := run_call_load (P := Tryz.prog) Tryz.func171 (by kernel_rfl) (by kernel_rfl) (by kernel_rfl) .i64 (by kernel_rfl) h0
  go_enter Tryz.func160, Tryz.ntmps160
  go_wp2
  go_ret
  exact ⟨rfl, rfl⟩
theorem icas_any (a : Addr) (x y : Int) (w : World) (hc : w.cell? a = some (.int .i64 x)) (hz : w.frozen? a = false) :
    Calls Tryz.prog 161 #[.pointer (some a), .int .i64 x, .int .i64 y] w fun e w' => e = .returned (.bool true) ∧ w' = w.setCell a (.int .i64 y) := by
  have hcas := run_call_cas_hit (P := Tryz.prog) Tryz.func172 (by kernel_rfl) (by kernel_rfl) (by kernel_rfl) .i64 (by kernel_rfl) (y := y) hc hz
  go_enter Tryz.func161, Tryz.ntmps161
  go_wp2
  go_ret
  exact ⟨rfl, rfl⟩
theorem ids_new (w : World) : Calls Tryz.prog 135 #[.int .i64 512] w fun e w' => e = .returned (.pointer (some ⟨w.heap.size, 0, none⟩)) ∧ w' = w.alloc (.cells #[.int .i64 0, .int .i64 512] 234) := by
  go_enter Tryz.func135, Tryz.ntmps135
  go_wp2
  go_ret
  exact ⟨rfl, rfl⟩
theorem ids_next (b : Nat) (n : Int) (w : World) (hb : w.heap[b]? = some (.cells #[.int .i64 n, .int .i64 512] 234 (0, 0))) (h0 : 0 ≤ n) (hn : n < 512) :
    Calls Tryz.prog 136 #[.pointer (some ⟨b, 0, none⟩)] w fun e w' => e = .returned (.int .i64 (n + 1)) ∧ w' = w.setCell ⟨b, 0, none⟩ (.int .i64 (n + 1)) := by
  have z0 := (blk_cell hb 0).trans rfl
  have z1 := (blk_cell hb 1).trans rfl
  have f0 := blk_frozen hb 0
  have hl := iload_any ⟨b, 0, none⟩ n w (blk_cell hb 0)
  have hcs := icas_any ⟨b, 0, none⟩ n (n + 1) w (blk_cell hb 0) f0
  have q : ¬ (512 : Int) ≤ n := by omega
  clear hb
  go_enter Tryz.func136, Tryz.ntmps136
  go_wp2
  refine wp_loop_rounds 1 ?_
  rw [rounds_succ]
  go_wp2_with (first
    | (go_at_call 160; (with_reducible refine hl.mono ?_); rintro e w1 ⟨rfl, hw⟩; obtain rfl := hw.symm)
    | (go_at_call 161; (with_reducible refine hcs.mono ?_); rintro e w1 ⟨rfl, hw⟩; obtain rfl := hw.symm))
  go_ret
  exact ⟨rfl, rfl⟩
end Go.Proofs.YtgopddjmmoohdaaGreatDoor

/- Kinds of flat structs: listeners, steps, turns. -/
set_option linter.unusedSimpArgs false
set_option linter.unusedVariables false
namespace Go.Proofs.YtgopddjmmoohdaaGreatDoor
open Go.RowKit Go.Proofs.YtgopddjmmoohdaaGreatDoorW.PrintWords Go.Proofs.YtgopddjmmoohdaaGreatDoorW.PrintLast Go.Proofs.YtgopddjmmoohdaaGreatDoor.PPlaySilent

/-- A listener: its number, type, callback, options, whether it was removed. -/
structure S96 where
  f0 : Int
  f1 : ByteArray
  f2 : Int
  f3 : Bool
  f4 : Bool
  f5 : Bool
  f6 : Int
  f7 : Bool
/-- A step. -/
structure S157 where
  f0 : Int
  f1 : Int
  f2 : Int
  f3 : Bool
  f4 : Bool
def k157 : Kd S157 := Kd.iso (Kd.pair (Kd.int .i64) (Kd.pair (Kd.int .i64) (Kd.pair (Kd.int .i64) (Kd.pair Kd.bool Kd.bool)))) (fun x : S157 => (x.f0, x.f1, x.f2, x.f3, x.f4))
/-- A turn. -/
structure S165 where
  f0 : Int
  f1 : Int
  f2 : Bool
theorem info198 : (Tryz.prog.info? 198).map (fun i => (i.zero, i.size, i.bytes)) = some (some (.pointer none), 1, 8) := by kernel_rfl
theorem info42 : (Tryz.prog.info? 42).map (fun i => (i.zero, i.size, i.bytes)) = some (some (.pointer none), 1, 8) := by kernel_rfl
end Go.Proofs.YtgopddjmmoohdaaGreatDoor

/- listen: lists of listeners, what stands apart; get, Get, alike. -/
set_option linter.unusedSimpArgs false
set_option linter.unusedVariables false
set_option maxRecDepth 100000
set_option maxHeartbeats 1600000
namespace Go.Proofs.YtgopddjmmoohdaaGreatDoor
open Go.RowKit Go.Proofs.YtgopddjmmoohdaaGreatDoorW.PrintWords Go.Proofs.YtgopddjmmoohdaaGreatDoorW.PrintLast Go.Proofs.YtgopddjmmoohdaaGreatDoor.PPlaySilent

/-- A listener, and its node. -/
structure Ls where
  typ : ByteArray
  cb : Int
  cap : Bool
  once : Bool
  pas : Bool
  sig : Int
  rem : Bool
  node : Int
def LsC (id : Int) (s : Ls) : Array Value := #[.int .i64 id, .string s.typ, .int .i64 s.cb, .bool s.cap, .bool s.once, .bool s.pas, .int .i64 s.sig, .bool s.rem, .int .i64 s.node]
def Ls.lr (s : Ls) (id : Int) : S96 := ⟨id, s.typ, s.cb, s.cap, s.once, s.pas, s.sig, s.rem⟩
/-- The places of a node's listeners. -/
def idxL (ls : List Ls) (n : Int) : List Nat := (List.range ls.length).filter (fun i => ls[i]?.any (fun s => s.node == n && !s.rem))
theorem idxL_mem {ls : List Ls} {n : Int} {i : Nat} (h : i ∈ idxL ls n) : ∃ s, ls[i]? = some s ∧ s.node = n ∧ s.rem = false := by
  unfold idxL at h
  rw [List.mem_filter] at h
  cases hs : ls[i]? with
  | none => rw [hs] at h; simp at h
  | some s => rw [hs] at h; simp at h; exact ⟨s, rfl, h.2.1, h.2.2⟩
theorem idxL_len (ls : List Ls) (n : Int) : (idxL ls n).length ≤ ls.length := Nat.le_trans (List.length_filter_le _ _) (by simp)
def getG (g : List (Int × Value)) (k : Int) : Option Value := (findG g k 0).map (·.2)
def ptsL (ps : List Nat) (xs : List Nat) : List Nat := xs.map (fun i => ps.getD i 0)
/-- A node's row. -/
def AtR (own : Nat → Nat) (w0 w : World) (ps : List Nat) (ls : List Ls) (n : Int) : Option Value → Prop
  | none => idxL ls n = []
  | some v => idxL ls n ≠ [] ∧ KdP.R 198 w w0.heap.size (fun k => own k = 6 + 2 * n.toNat) v (ptsL ps (idxL ls n))
structure LiM (own : Nat → Nat) (w0 w : World) (ps : List Nat) (ls : List Ls) (ib mb : Nat) (g : List (Int × Value)) : Prop where
  oi : own ib = 2
  om : own mb = 3
  ids : w.heap[ib]? = some (.cells #[.int .i64 ls.length, .int .i64 512] 234 (0, 0))
  map : MapI w mb g
  nd : (g.map (·.1)).Nodup
  at_ : ∀ n, AtR own w0 w ps ls n (getG g n)
/-- Lists at block L. Whose a block is: 1: the lists'; 2: the giver's; 3: the map's; 4: all; 5 + 2 i: listener i's; 6 + 2 n: node n's row's. -/
structure LiC (own : Nat → Nat) (w0 w : World) (L : Nat) (ps : List Nat) (ls : List Ls) : Prop where
  pl : own L = 1
  lo : ∀ k, own k ≠ 0 → w0.heap.size ≤ k ∧ k < w.heap.size
  base : Below w0.heap.size w0 w
  len : ls.length ≤ 512
  pn : ps.length = ls.length
  nod : ∀ s ∈ ls, 1 ≤ s.node
  row : ∃ vi va vm, w.heap[L]? = some (.cells #[vi, va, vm] 82 (0, 0)) ∧ KdP.R 198 w w0.heap.size (fun k => own k = 4) va ps ∧ ((ls = [] ∧ vi = .pointer none ∧ vm = .map none) ∨ (ls ≠ [] ∧ ∃ ib mb g, vi = .pointer (some ⟨ib, 0, none⟩) ∧ vm = .map (some mb) ∧ LiM own w0 w ps ls ib mb g))
  ent : ∀ i s, ls[i]? = some s → ∃ p, ps[i]? = some p ∧ own p = 5 + 2 * i ∧ w.heap[p]? = some (.cells (LsC ((i + 1 : Nat) : Int) s) 201 (0, 0))
theorem MapI.ste {P : Nat → Prop} {w w' : World} {m : Nat} {g : List (Int × Value)} (h : MapI w m g) (hs : Ste P w w') (hm : ¬ P m) : MapI w' m g := by
  obtain ⟨es, c, h1, h2⟩ := h
  exact ⟨es, c, hs.blk h1 hm, h2⟩
theorem AtR.ste {own : Nat → Nat} {w0 w w' : World} {ps : List Nat} {ls : List Ls} {n : Int} {ov : Option Value} {P : Nat → Prop} (h : AtR own w0 w ps ls n ov) (hs : Ste P w w') (hd : ∀ k, own k = 6 + 2 * n.toNat → ¬ P k) : AtR own w0 w' ps ls n ov := by
  cases ov with
  | none => exact h
  | some v => exact ⟨h.1, R_ste h.2 hs hd⟩
theorem LiM.ste {own : Nat → Nat} {w0 w w' : World} {ps : List Nat} {ls : List Ls} {ib mb : Nat} {g : List (Int × Value)} {P : Nat → Prop} (h : LiM own w0 w ps ls ib mb g) (hs : Ste P w w') (hd : ∀ k, own k ≠ 0 → ¬ P k) : LiM own w0 w' ps ls ib mb g :=
  ⟨h.oi, h.om, hs.blk h.ids (hd _ (by rw [h.oi]; decide)), h.map.ste hs (hd _ (by rw [h.om]; decide)), h.nd, fun n => (h.at_ n).ste hs (fun k hk => hd k (by rw [hk]; omega))⟩
theorem LiC.ste {own : Nat → Nat} {P : Nat → Prop} {w0 w w' : World} {L : Nat} {ps : List Nat} {ls : List Ls} (h : LiC own w0 w L ps ls) (hs : Ste P w w') (hd : ∀ k, own k ≠ 0 → ¬ P k) (hl : ∀ k, P k → w0.heap.size ≤ k) : LiC own w0 w' L ps ls := by
  obtain ⟨vi, va, vm, h1, h2, h3⟩ := h.row
  refine ⟨h.pl, fun k hk => ⟨(h.lo k hk).1, Nat.lt_of_lt_of_le (h.lo k hk).2 hs.size⟩, hs.base h.base h.base.size hl, h.len, h.pn, h.nod, ⟨vi, va, vm, hs.blk h1 (hd _ (by rw [h.pl]; decide)), R_ste h2 hs (fun k hk => hd k (by rw [hk]; decide)), h3.imp id (fun ⟨hn, ib, mb, g, e1, e2, hM⟩ => ⟨hn, ib, mb, g, e1, e2, hM.ste hs hd⟩)⟩, fun i s hi => ?_⟩
  obtain ⟨p, hp, ho, hc⟩ := h.ent i s hi
  exact ⟨p, hp, ho, hs.blk hc (hd _ (by rw [ho]; omega))⟩
theorem LiC.below {own : Nat → Nat} {w0 w w' : World} {L : Nat} {ps : List Nat} {ls : List Ls} (h : LiC own w0 w L ps ls) (hb : Below w.heap.size w w') : LiC own w0 w' L ps ls := h.ste (P := fun _ => False) (Ste.of_below hb) (fun _ _ => id) (fun _ h => h.elim)
/-- A node's row is looked up. -/
theorem LiC.look {own : Nat → Nat} {w0 w : World} {L : Nat} {ps : List Nat} {ls : List Ls} (h : LiC own w0 w L ps ls) (n : Int) :
    ∃ vi va vm v, w.heap[L]? = some (.cells #[vi, va, vm] 82 (0, 0)) ∧ (Instr.lookup 80 vm (.int .i64 n) false).run Tryz.prog w = .ok v w ∧ KdP.R 198 w w0.heap.size (fun k => own k = 6 + 2 * n.toNat) v (ptsL ps (idxL ls n)) := by
  obtain ⟨vi, va, vm, h1, h2, h3⟩ := h.row
  have hz : (zeroValue 79).run Tryz.prog w = .ok (.slice none 0 0) w := Tryz.zeroValue79 w
  rcases h3 with ⟨rfl, rfl, rfl⟩ | ⟨hn, ib, mb, g, rfl, rfl, hM⟩
  · refine ⟨_, va, _, .slice none 0 0, h1, ?_, Kd.R_nil _ _ _ _ _⟩
    simp [Instr.lookup, run_underlying Tryz.underlying80, run_underlying Tryz.underlying3, hz, Result.andThen, MapKept.run_checkKey (k := .int .i64 n) Tryz.underlying3 (by simp [MapKept.IsKey]) true 9999 (w := w), MapKept.run_findKey (k := .int .i64 n) (l := []) (w := w) Tryz.underlying3 (show Instr.findNow _ _ [] 0 = some none from rfl)]
  · have hl := hM.map.lookup (P := Tryz.prog) (t := 80) Tryz.underlying80 Tryz.underlying3 hz n
    have ha := hM.at_ n
    unfold getG at ha
    cases hg : (findG g n 0).map (·.2) with
    | none =>
      rw [hg] at hl ha
      have ha' : idxL ls n = [] := ha
      refine ⟨_, va, _, _, h1, hl, ?_⟩
      rw [ha']
      exact Kd.R_nil _ _ _ _ _
    | some v =>
      rw [hg] at hl ha
      exact ⟨_, va, _, v, h1, hl, ha.2⟩
def lsF (ls : List Ls) (id : Int) : Option Ls := if 1 ≤ id then ls[(id - 1).toNat]? else none
theorem lsF_some {l : List Ls} {id : Int} {s : Ls} (h : lsF l id = some s) : ∃ j : Nat, id = ((j + 1 : Nat) : Int) ∧ j < l.length ∧ l[j]? = some s := by
  unfold lsF at h
  split at h
  · obtain ⟨h1, _⟩ := List.getElem?_eq_some_iff.1 h
    exact ⟨(id - 1).toNat, by omega, h1, h⟩
  · cases h
theorem lsF_none {l : List Ls} {id : Int} (h : lsF l id = none) : id < 1 ∨ (l.length : Int) < id := by
  unfold lsF at h
  split at h
  · rw [List.getElem?_eq_none_iff] at h; omega
  · omega
def lsP (ps : List Nat) (ls : List Ls) (id : Int) : Value := match lsF ls id with
  | none => .pointer none
  | some _ => .pointer (some ⟨ps.getD (id - 1).toNat 0, 0, none⟩)
theorem lget_any (own : Nat → Nat) (w0 w : World) (L : Nat) (ps : List Nat) (ls : List Ls) (id : Int) (h : LiC own w0 w L ps ls) :
    Calls Tryz.prog 129 #[.pointer (some ⟨L, 0, none⟩), .int .i64 id] w fun e w' => e = .returned (lsP ps ls id) ∧ w' = w := by
  obtain ⟨vi, va, vm, h1, h2, -⟩ := h.row
  have h512 := h.len
  have hpn := h.pn
  have z1 := (blk_cell h1 1).trans rfl
  cases hn : lsF ls id with
  | none =>
    have HP : Hd (lsP ps ls id = .pointer none) := ⟨by unfold lsP; rw [hn]⟩
    obtain ⟨A, c, rfl, hl, hC⟩ := Kd.R_reads h2
    rw [hpn] at z1 hl
    rcases lsF_none hn with hi | hi
    · have q1 : id < 1 := hi
      clear hn h2 h hC hpn
      go_enter Tryz.func129, Tryz.ntmps129
      go_wp2
      go_ret
      exact ⟨congrArg Ending.returned HP.out.symm, rfl⟩
    · have q1 : ¬ id < 1 := by omega
      have q2 : (ls.length : Int) < id := hi
      clear hn h2 h hC hpn
      go_enter Tryz.func129, Tryz.ntmps129
      go_wp2
      go_ret
      exact ⟨congrArg Ending.returned HP.out.symm, rfl⟩
  | some s =>
    obtain ⟨j, rfl, hj, hx⟩ := lsF_some hn
    obtain ⟨p, hp⟩ : ∃ p, ps[j]? = some p := ⟨_, List.getElem?_eq_getElem (by omega)⟩
    have HP : Hd (lsP ps ls ((j + 1 : Nat) : Int) = .pointer (some ⟨p, 0, none⟩)) := ⟨by unfold lsP; rw [hn]; simp only; rw [show (((j + 1 : Nat) : Int) - 1).toNat = j by omega, List.getD_eq_getElem?_getD, hp]; rfl⟩
    obtain ⟨g, c', rfl, _, hcell⟩ := ptrs_at h2 hp
    rw [hpn] at z1
    have q1 : ¬ ((j + 1 : Nat) : Int) < 1 := by omega
    have q2 : ¬ (ls.length : Int) < ((j + 1 : Nat) : Int) := by omega
    have q3 : (((j + 1 : Nat) : Int) - 1) = j := by omega
    clear hn h2 h hx hp hpn
    go_enter Tryz.func129, Tryz.ntmps129
    go_wp2
    go_ret
    exact ⟨congrArg Ending.returned HP.out.symm, rfl⟩
end Go.Proofs.YtgopddjmmoohdaaGreatDoor

/- listen: alike, Find, right, Get, At. -/
set_option linter.unusedSimpArgs false
set_option linter.unusedVariables false
set_option maxRecDepth 100000
set_option maxHeartbeats 1600000
namespace Go.Proofs.YtgopddjmmoohdaaGreatDoor
open Go.RowKit Go.Proofs.YtgopddjmmoohdaaGreatDoorW.PrintWords Go.Proofs.YtgopddjmmoohdaaGreatDoorW.PrintLast Go.Proofs.YtgopddjmmoohdaaGreatDoor.PPlaySilent

def matchL (typ : ByteArray) (cb : Int) (cap : Bool) (s : Ls) : Bool := decide (s.typ.toList = typ.toList) && (decide (s.cb = cb) && s.cap == cap)
/-- A node's listener that is alike: its place. -/
def alikeF (ls : List Ls) (node : Int) (typ : ByteArray) (cb : Int) (cap : Bool) : Option Nat := (idxL ls node).find? (fun i => ls[i]?.any (matchL typ cb cap))
def alikeP (ps : List Nat) : Option Nat → Value
  | none => .pointer none
  | some i => .pointer (some ⟨ps.getD i 0, 0, none⟩)
theorem find_take_next {p : Nat → Bool} {xs : List Nat} {j x : Nat} (h : xs[j]? = some x) (h0 : (xs.take j).find? p = none) : (xs.take (j + 1)).find? p = if p x = true then some x else none := by
  rw [List.take_add_one, h, List.find?_append, h0]
  simp only [Option.toList, List.find?_cons, List.find?_nil, Option.none_or]
  cases p x <;> rfl
theorem find_at {p : Nat → Bool} {xs : List Nat} {j x : Nat} (h : xs[j]? = some x) (h0 : (xs.take j).find? p = none) (hp : p x = true) : xs.find? p = some x := by
  have hl := (List.getElem?_eq_some_iff.1 h)
  rw [← List.take_append_drop j xs, List.find?_append, h0, List.drop_eq_getElem_cons hl.1, hl.2, Option.none_or, List.find?_cons, hp]
theorem alike_any (own : Nat → Nat) (w0 w : World) (L : Nat) (ps : List Nat) (ls : List Ls) (node : Int) (typ : ByteArray) (cb : Int) (cap : Bool) (h : LiC own w0 w L ps ls) :
    Calls Tryz.prog 134 #[.pointer (some ⟨L, 0, none⟩), .int .i64 node, .string typ, .int .i64 cb, .bool cap] w fun e w' => e = .returned (alikeP ps (alikeF ls node typ cb cap)) ∧ w' = w := by
  obtain ⟨vi, va, vm, v, hL, hlk, hR⟩ := h.look node
  have z2 := (blk_cell hL 2).trans rfl
  have hxl : (idxL ls node).length ≤ 512 := Nat.le_trans (idxL_len ls node) h.len
  have hpl : (ptsL ps (idxL ls node)).length = (idxL ls node).length := by simp [ptsL]
  have HA := hd_ (show alikeF ls node typ cb cap = (idxL ls node).find? (fun i => ls[i]?.any (matchL typ cb cap)) from rfl)
  obtain ⟨A, c, rfl, hlc, -⟩ := Kd.R_reads hR
  rw [hpl] at hlk hlc hR
  have hent := fun i (hi : i ∈ idxL ls node) => (idxL_mem hi)
  have hE := h.ent
  generalize alikeF ls node typ cb cap = r at *
  clear h hL
  go_enter Tryz.func134, Tryz.ntmps134
  go_wp2
  go_loop [10, 12, 22] (fun _ _ iv => ∃ j : Nat, j ≤ (idxL ls node).length ∧ iv = .int .i64 j ∧ Hd (((idxL ls node).take j).find? (fun i => ls[i]?.any (matchL typ cb cap)) = none)) (fun _ _ iv => (idxL ls node).length - (intOf iv).toNat)
  case atStart => exact ⟨0, Nat.zero_le _, rfl, ⟨by simp⟩⟩
  case round =>
    obtain ⟨j, hj, rfl, hJ⟩ := hrel
    by_cases hlt : j < (idxL ls node).length
    · obtain ⟨i, hi⟩ : ∃ i, (idxL ls node)[j]? = some i := ⟨_, List.getElem?_eq_getElem hlt⟩
      obtain ⟨s, hs, hsn, hsr⟩ := hent i (List.mem_of_getElem? hi)
      obtain ⟨p, hp, -, hpc⟩ := hE i s hs
      obtain ⟨g, c2, he, -, hcell⟩ := ptrs_at hR (j := j) (x := p) (by rw [ptsL, List.getElem?_map, hi]; simp [List.getD_eq_getElem?_getD, hp])
      simp only [Value.slice.injEq] at he
      obtain ⟨rfl, -, rfl⟩ := he
      have HN := hd_ (find_take_next hi hJ.out)
      have HF := hd_ (fun hp => find_at hi hJ.out hp)
      have HM : Hd (ls[i]?.any (matchL typ cb cap) = (decide (s.typ.toList = typ.toList) && (decide (s.cb = cb) && s.cap == cap))) := ⟨by rw [hs]; rfl⟩
      have y1 : w.cell? ⟨p, 1, none⟩ = some (.string s.typ) := blk_cell hpc 1
      have y2 : w.cell? ⟨p, 2, none⟩ = some (.int .i64 s.cb) := blk_cell hpc 2
      have y3 : w.cell? ⟨p, 3, none⟩ = some (.bool s.cap) := blk_cell hpc 3
      have HP : Hd (alikeP ps (some i) = .pointer (some ⟨p, 0, none⟩)) := ⟨by simp [alikeP, List.getD_eq_getElem?_getD, hp]⟩
      clear hi hs hsn hsr hp hpc hJ hE hent hR
      go_wp2
      all_goals first
        | (go_ret; exact ⟨by rw [HA.out, HF.out (by rw [HM.out]; simp [*]), HP.out]; rfl, rfl⟩)
        | (go_round
           case rel => exact ⟨j + 1, by omega, by go_num, ⟨by rw [HN.out, HM.out]; simp [*]⟩⟩
           case measure => simp [intOf]; omega)
    · have HF := hd_ (show r = none by rw [HA.out]; have := hJ.out; rwa [List.take_of_length_le (by omega)] at this)
      clear hJ hE hent hR
      go_wp2
      go_ret
      exact ⟨by rw [HF.out]; rfl, rfl⟩
/-- Find: the number of a node's listener. -/
def findL (ls : List Ls) (node : Int) (typ : ByteArray) (cb : Int) (cap : Bool) : Int := match alikeF ls node typ cb cap with
  | none => 0
  | some i => ((i + 1 : Nat) : Int)
theorem alikeF_mem {ls : List Ls} {node : Int} {typ : ByteArray} {cb : Int} {cap : Bool} {i : Nat} (h : alikeF ls node typ cb cap = some i) : i ∈ idxL ls node := List.mem_of_find?_eq_some h
theorem find_any (own : Nat → Nat) (w0 w : World) (L : Nat) (ps : List Nat) (ls : List Ls) (node : Int) (typ : ByteArray) (cb : Int) (cap : Bool) (h : LiC own w0 w L ps ls) :
    Calls Tryz.prog 88 #[.pointer (some ⟨L, 0, none⟩), .int .i64 node, .string typ, .int .i64 cb, .bool cap] w fun e w' => e = .returned (.int .i64 (findL ls node typ cb cap)) ∧ w' = w := by
  have ha := alike_any own w0 w L ps ls node typ cb cap h
  cases hn : alikeF ls node typ cb cap with
  | none =>
    have HP : Hd (findL ls node typ cb cap = 0) := ⟨by unfold findL; rw [hn]⟩
    rw [hn] at ha
    simp only [alikeP] at ha
    clear hn h
    go_enter Tryz.func88, Tryz.ntmps88
    go_wp2_with (go_at_call 134; (with_reducible refine ha.mono ?_); rintro e w1 ⟨rfl, hw⟩; obtain rfl := hw.symm)
    go_ret
    exact ⟨by rw [HP.out]; rfl, rfl⟩
  | some i =>
    have HP : Hd (findL ls node typ cb cap = ((i + 1 : Nat) : Int)) := ⟨by unfold findL; rw [hn]⟩
    obtain ⟨s, hs, -, -⟩ := idxL_mem (alikeF_mem hn)
    obtain ⟨p, hp, -, hpc⟩ := h.ent i s hs
    rw [hn] at ha
    simp only [alikeP, List.getD_eq_getElem?_getD, hp, Option.getD_some] at ha
    have y0 : w.cell? ⟨p, 0, none⟩ = some (.int .i64 ((i + 1 : Nat) : Int)) := blk_cell hpc 0
    clear hn h hs hp hpc
    go_enter Tryz.func88, Tryz.ntmps88
    go_wp2_with (go_at_call 134; (with_reducible refine ha.mono ?_); rintro e w1 ⟨rfl, hw⟩; obtain rfl := hw.symm)
    go_ret
    exact ⟨by rw [HP.out]; rfl, rfl⟩
end Go.Proofs.YtgopddjmmoohdaaGreatDoor

/- listen: Get, At. -/
set_option linter.unusedSimpArgs false
set_option linter.unusedVariables false
set_option maxRecDepth 100000
set_option maxHeartbeats 1600000
namespace Go.Proofs.YtgopddjmmoohdaaGreatDoor
open Go.RowKit Go.Proofs.YtgopddjmmoohdaaGreatDoorW.PrintWords Go.Proofs.YtgopddjmmoohdaaGreatDoorW.PrintLast Go.Proofs.YtgopddjmmoohdaaGreatDoor.PPlaySilent

end Go.Proofs.YtgopddjmmoohdaaGreatDoor

/- listen: the steps of lists that are written. -/
set_option linter.unusedSimpArgs false
set_option linter.unusedVariables false
set_option maxRecDepth 100000
set_option maxHeartbeats 1600000
namespace Go.Proofs.YtgopddjmmoohdaaGreatDoor
open Go.RowKit Go.Proofs.YtgopddjmmoohdaaGreatDoorW.PrintWords Go.Proofs.YtgopddjmmoohdaaGreatDoorW.PrintLast Go.Proofs.YtgopddjmmoohdaaGreatDoor.PPlaySilent

theorem findG_shift {k : Int} : ∀ {g : List (Int × Value)} {i j : Nat}, (findG g k i).map (·.2) = (findG g k j).map (·.2)
  | [], _, _ => rfl
  | p :: r, i, j => by
    rw [findG, findG]
    split
    · rfl
    · exact findG_shift
theorem getG_cons (p : Int × Value) (r : List (Int × Value)) (k : Int) : getG (p :: r) k = if p.1 = k then some p.2 else getG r k := by
  unfold getG
  rw [findG]
  split
  · rfl
  · exact findG_shift
theorem getG_upd (v : Value) (k n : Int) : ∀ g : List (Int × Value), getG (updG g k v) n = if n = k then some v else getG g n
  | [] => by
    rw [updG, getG_cons]
    by_cases h : k = n
    · rw [if_pos h, if_pos h.symm]
    · rw [if_neg h, if_neg (Ne.symm h)]
  | p :: r => by
    rw [updG]
    split
    · rename_i hp
      rw [getG_cons, getG_cons]
      by_cases h : k = n
      · rw [if_pos h, if_pos h.symm]
      · rw [if_neg h, if_neg (Ne.symm h), if_neg (by rw [hp]; exact h)]
    · rename_i hp
      rw [getG_cons, getG_upd v k n r, getG_cons]
      by_cases h : n = k
      · rw [if_pos h, if_pos h, if_neg (by rw [h]; exact hp)]
      · rw [if_neg h, if_neg h]
theorem getG_none {k : Int} : ∀ {g : List (Int × Value)}, k ∉ g.map (·.1) → getG g k = none
  | [], _ => rfl
  | p :: r, h => by
    rw [getG_cons, if_neg (fun e => h (by simp [e]))]
    exact getG_none (fun hm => h (by simp only [List.map_cons, List.mem_cons]; exact .inr hm))
theorem getG_del (k n : Int) : ∀ g : List (Int × Value), (g.map (·.1)).Nodup → getG (delG g k) n = if n = k then none else getG g n
  | [], _ => by rw [delG]; split <;> rfl
  | p :: r, hn => by
    rw [List.map_cons, List.nodup_cons] at hn
    rw [delG]
    split
    · rename_i hp
      by_cases h : n = k
      · rw [if_pos h]; exact getG_none (by rw [h, ← hp]; exact hn.1)
      · rw [if_neg h, getG_cons, if_neg (by rw [hp]; exact Ne.symm h)]
    · rename_i hp
      rw [getG_cons, getG_del k n r hn.2, getG_cons]
      by_cases h : n = k
      · rw [if_pos h, if_pos h, if_neg (by rw [h]; exact hp)]
      · rw [if_neg h, if_neg h]
theorem updG_keys (k : Int) (v : Value) : ∀ g : List (Int × Value), (g.map (·.1)).Nodup → ((updG g k v).map (·.1)).Nodup ∧ ∀ x, x ∈ (updG g k v).map (·.1) → x = k ∨ x ∈ g.map (·.1)
  | [], _ => by simp [updG]
  | p :: r, hn => by
    rw [List.map_cons, List.nodup_cons] at hn
    rw [updG]
    split
    · rename_i hp
      simp only [List.map_cons, List.nodup_cons, List.mem_cons]
      exact ⟨⟨by rw [← hp]; exact hn.1, hn.2⟩, fun x hx => hx.imp id .inr⟩
    · rename_i hp
      obtain ⟨h1, h2⟩ := updG_keys k v r hn.2
      simp only [List.map_cons, List.nodup_cons, List.mem_cons]
      refine ⟨⟨fun hm => ?_, h1⟩, fun x hx => hx.elim (fun e => .inr (.inl e)) (fun hx => (h2 x hx).imp id .inr)⟩
      rcases h2 _ hm with e | e
      · exact hp e
      · exact hn.1 e
theorem delG_keys (k : Int) : ∀ g : List (Int × Value), (g.map (·.1)).Nodup → ((delG g k).map (·.1)).Nodup ∧ ∀ x, x ∈ (delG g k).map (·.1) → x ∈ g.map (·.1)
  | [], _ => by simp [delG]
  | p :: r, hn => by
    rw [List.map_cons, List.nodup_cons] at hn
    rw [delG]
    split
    · exact ⟨hn.2, fun x hx => List.mem_cons_of_mem _ hx⟩
    · obtain ⟨h1, h2⟩ := delG_keys k r hn.2
      simp only [List.map_cons, List.nodup_cons, List.mem_cons]
      exact ⟨⟨fun hm => hn.1 (h2 _ hm), h1⟩, fun x hx => hx.imp id (h2 x)⟩
/-- A node's row, by what it holds. -/
def AtX (own : Nat → Nat) (w0 w : World) (xs : List Nat) (n : Int) : Option Value → Prop
  | none => xs = []
  | some v => xs ≠ [] ∧ KdP.R 198 w w0.heap.size (fun k => own k = 6 + 2 * n.toNat) v xs
theorem AtX.ste {own : Nat → Nat} {w0 w w' : World} {xs : List Nat} {n : Int} {ov : Option Value} {P : Nat → Prop} (h : AtX own w0 w xs n ov) (hs : Ste P w w') (hd : ∀ k, own k = 6 + 2 * n.toNat → ¬ P k) : AtX own w0 w' xs n ov := by
  cases ov with
  | none => exact h
  | some v => exact ⟨h.1, R_ste h.2 hs hd⟩
theorem AtX.mono {own own' : Nat → Nat} {w0 w : World} {xs : List Nat} {n : Int} {ov : Option Value} (h : AtX own w0 w xs n ov) (ho : ∀ k, own k ≠ 0 → own' k = own k) : AtX own' w0 w xs n ov := by
  cases ov with
  | none => exact h
  | some v => exact ⟨h.1, Kd.R_mono h.2 (fun k hk => (ho k (by rw [hk]; omega)).trans hk)⟩
/-- Lists that are written: how many numbers were given, who is among all, and in each row. -/
structure LiX (own : Nat → Nat) (w0 w : World) (L : Nat) (ps : List Nat) (ls : List Ls) (cnt : Nat) (psA : List Nat) (ib mb : Nat) (va : Value) (g : List (Int × Value)) (rows : Int → List Nat) : Prop where
  pl : own L = 1
  lo : ∀ k, own k ≠ 0 → w0.heap.size ≤ k ∧ k < w.heap.size
  base : Below w0.heap.size w0 w
  oi : own ib = 2
  om : own mb = 3
  head : w.heap[L]? = some (.cells #[.pointer (some ⟨ib, 0, none⟩), va, .map (some mb)] 82 (0, 0))
  ids : w.heap[ib]? = some (.cells #[.int .i64 cnt, .int .i64 512] 234 (0, 0))
  all : KdP.R 198 w w0.heap.size (fun k => own k = 4) va psA
  map : MapI w mb g
  nd : (g.map (·.1)).Nodup
  at_ : ∀ n, AtX own w0 w (rows n) n (getG g n)
  pn : ps.length = ls.length
  ent : ∀ i s, ls[i]? = some s → ∃ p, ps[i]? = some p ∧ own p = 5 + 2 * i ∧ w.heap[p]? = some (.cells (LsC ((i + 1 : Nat) : Int) s) 201 (0, 0))
section
variable {own : Nat → Nat} {w0 w : World} {L : Nat} {ps : List Nat} {ls : List Ls} {cnt : Nat} {psA : List Nat} {ib mb : Nat} {va : Value} {g : List (Int × Value)} {rows : Int → List Nat}
theorem LiX.zero (h : LiX own w0 w L ps ls cnt psA ib mb va g rows) {k : Nat} (hk : w.heap.size ≤ k) : own k = 0 := by
  by_cases e : own k = 0
  · exact e
  · have := (h.lo k e).2; omega
theorem LiX.ste {P : Nat → Prop} {w' : World} (h : LiX own w0 w L ps ls cnt psA ib mb va g rows) (hs : Ste P w w') (hd : ∀ k, own k ≠ 0 → ¬ P k) (hl : ∀ k, P k → w0.heap.size ≤ k) : LiX own w0 w' L ps ls cnt psA ib mb va g rows :=
  ⟨h.pl, fun k hk => ⟨(h.lo k hk).1, Nat.lt_of_lt_of_le (h.lo k hk).2 hs.size⟩, hs.base h.base h.base.size hl, h.oi, h.om, hs.blk h.head (hd _ (by rw [h.pl]; decide)), hs.blk h.ids (hd _ (by rw [h.oi]; decide)), R_ste h.all hs (fun k hk => hd k (by rw [hk]; decide)), h.map.ste hs (hd _ (by rw [h.om]; decide)), h.nd, fun n => (h.at_ n).ste hs (fun k hk => hd k (by rw [hk]; omega)), h.pn, fun i s hi => by
    obtain ⟨p, hp, ho, hc⟩ := h.ent i s hi
    exact ⟨p, hp, ho, hs.blk hc (hd _ (by rw [ho]; omega))⟩⟩
theorem LiX.below {w' : World} (h : LiX own w0 w L ps ls cnt psA ib mb va g rows) (hb : Below w.heap.size w w') : LiX own w0 w' L ps ls cnt psA ib mb va g rows := h.ste (P := fun _ => False) (Ste.of_below hb) (fun _ _ => id) (fun _ h => h.elim)
/-- A fresh block is given a class. -/
def ownN (own : Nat → Nat) (k c j : Nat) : Nat := if j = k then c else own j
theorem ownN_same (own : Nat → Nat) (k c : Nat) : ownN own k c k = c := if_pos rfl
theorem ownN_old {own : Nat → Nat} {k c j : Nat} (hk : own k = 0) (hj : own j ≠ 0) : ownN own k c j = own j := if_neg (fun e => hj (by rw [e]; exact hk))
theorem LiX.owned (h : LiX own w0 w L ps ls cnt psA ib mb va g rows) {k c : Nat} (hk : own k = 0) (hl : w0.heap.size ≤ k ∧ k < w.heap.size) : LiX (ownN own k c) w0 w L ps ls cnt psA ib mb va g rows :=
  ⟨(ownN_old hk (by rw [h.pl]; decide)).trans h.pl, fun j hj => by
    by_cases e : j = k
    · rw [e]; exact hl
    · unfold ownN at hj; rw [if_neg e] at hj; exact h.lo j hj, h.base, (ownN_old hk (by rw [h.oi]; decide)).trans h.oi, (ownN_old hk (by rw [h.om]; decide)).trans h.om, h.head, h.ids, Kd.R_mono h.all (fun j hj => (ownN_old hk (by rw [hj]; decide)).trans hj), h.map, h.nd, fun n => (h.at_ n).mono (fun j hj => ownN_old hk hj), h.pn, fun i s hi => by
    obtain ⟨p, hp, ho, hc⟩ := h.ent i s hi
    exact ⟨p, hp, (ownN_old hk (by rw [ho]; omega)).trans ho, hc⟩⟩
theorem LiX.next (h : LiX own w0 w L ps ls cnt psA ib mb va g rows) : LiX own w0 (w.setCell ⟨ib, 0, none⟩ (.int .i64 ((cnt : Int) + 1))) L ps ls (cnt + 1) psA ib mb va g rows := by
  have hs := setCell_ste w ib 0 (.int .i64 ((cnt : Int) + 1))
  have hi := h.oi
  have hne : ∀ {k c : Nat}, own k = c → c ≠ 2 → ¬ k = ib := fun hk hc e => hc (by rw [← hk, e]; exact hi)
  refine ⟨h.pl, fun k hk => ⟨(h.lo k hk).1, Nat.lt_of_lt_of_le (h.lo k hk).2 hs.size⟩, hs.base h.base h.base.size (fun k hk => by rw [show k = ib from hk]; exact (h.lo ib (by rw [hi]; decide)).1), hi, h.om, hs.blk h.head (hne h.pl (by decide)), blk_put h.ids 0 _ rfl, R_ste h.all hs (fun k hk => hne hk (by decide)), h.map.ste hs (hne h.om (by decide)), h.nd, fun n => (h.at_ n).ste hs (fun k hk => hne hk (by omega)), h.pn, fun i s hi => ?_⟩
  obtain ⟨p, hp, ho, hc⟩ := h.ent i s hi
  exact ⟨p, hp, ho, hs.blk hc (hne ho (by omega))⟩
theorem LiX.newp (h : LiX own w0 w L ps ls cnt psA ib mb va g rows) (s : Ls) : LiX (ownN own w.heap.size (5 + 2 * ls.length)) w0 (w.alloc (.cells (LsC ((ls.length + 1 : Nat) : Int) s) 201)) L (ps ++ [w.heap.size]) (ls ++ [s]) cnt psA ib mb va g rows := by
  have hb := below_alloc (Below.refl w.heap.size w) (.cells (LsC ((ls.length + 1 : Nat) : Int) s) 201)
  have h2 := (h.below hb).owned (k := w.heap.size) (c := 5 + 2 * ls.length) (h.zero (Nat.le_refl _)) ⟨h.base.size, by simp⟩
  refine ⟨h2.pl, h2.lo, h2.base, h2.oi, h2.om, h2.head, h2.ids, h2.all, h2.map, h2.nd, h2.at_, by simp [h.pn], fun i t hi => ?_⟩
  by_cases hlt : i < ls.length
  · rw [List.getElem?_append_left hlt] at hi
    obtain ⟨p, hp, ho, hc⟩ := h2.ent i t hi
    exact ⟨p, by rw [List.getElem?_append_left (by rw [h.pn]; exact hlt)]; exact hp, ho, hc⟩
  · have hie : i = ls.length := by have := (List.getElem?_eq_some_iff.1 hi).1; simp at this; omega
    subst hie
    rw [List.getElem?_append_right (Nat.le_refl _), Nat.sub_self] at hi
    simp only [List.getElem?_cons_zero, Option.some.injEq] at hi
    subst hi
    exact ⟨w.heap.size, by rw [List.getElem?_append_right (by rw [h.pn]; exact Nat.le_refl _), h.pn, Nat.sub_self]; rfl, ownN_same _ _ _, alloc_new' rfl⟩
/-- A row of one class has been appended to. -/
theorem own_app {c : Nat} {v v1 : Value} {w1 : World} {ok1 : Nat → Prop} {xs : List Nat} (h : LiX own w0 w L ps ls cnt psA ib mb va g rows) (hv : ∀ k, v.ownBlock = some k → own k = c) (hR : KdP.R 198 w1 w0.heap.size ok1 v1 xs) (hat : v1.ownBlock = v.ownBlock ∨ ∃ b, v1.ownBlock = some b ∧ w.heap.size ≤ b) (hc : c ≠ 0) :
    ∃ own', (own' = own ∨ ∃ b, own' = ownN own b c ∧ w.heap.size ≤ b ∧ b < w1.heap.size) ∧ KdP.R 198 w1 w0.heap.size (fun k => own' k = c) v1 xs := by
  rcases hat with e | ⟨b, e, hb⟩
  · exact ⟨own, .inl rfl, Kd.R_mono (Kd.R_tight rfl hR) (fun k hk => hv k (by rw [← e]; exact hk.symm))⟩
  · refine ⟨ownN own b c, .inr ⟨b, rfl, hb, Kd.R_lt hR b e⟩, Kd.R_mono (Kd.R_tight rfl hR) (fun k hk => ?_)⟩
    have : some b = some k := e.symm.trans hk.symm
    cases this
    exact ownN_same _ _ _
theorem LiX.own2 {own' : Nat → Nat} {c : Nat} {w1 : World} (h1 : LiX own w0 w1 L ps ls cnt psA ib mb va g rows) (h : LiX own w0 w L ps ls cnt psA ib mb va g rows) (ho : own' = own ∨ ∃ b, own' = ownN own b c ∧ w.heap.size ≤ b ∧ b < w1.heap.size) : LiX own' w0 w1 L ps ls cnt psA ib mb va g rows := by
  rcases ho with rfl | ⟨b, rfl, hb, hb2⟩
  · exact h1
  · exact h1.owned (h.zero hb) ⟨Nat.le_trans h.base.size hb, hb2⟩
theorem putObj_ste {w : World} {m : Nat} (o : Obj) : Ste (fun k => k = m) w (w.putObj m o) := ⟨rfl, rfl, rfl, by simp, fun k _ hn => World.putObj_heap_other hn⟩
/-- p is put behind all. -/
theorem LiX.allp {v1 : Value} {w1 : World} {p : Nat} (h : LiX own w0 w L ps ls cnt psA ib mb va g rows) {ok1 : Nat → Prop} (hR : KdP.R 198 w1 w0.heap.size ok1 v1 (psA ++ [p])) (hB : Below w0.heap.size w w1) (hg : w.grownBy w1 va.ownBlock) (hat : v1.ownBlock = va.ownBlock ∨ ∃ b, v1.ownBlock = some b ∧ w.heap.size ≤ b) :
    ∃ own', (own' = own ∨ ∃ b, own' = ownN own b 4 ∧ w.heap.size ≤ b ∧ b < w1.heap.size) ∧ Ste (fun k => own k ≠ 0) w (w1.setCell ⟨L, 1, none⟩ v1) ∧ LiX own' w0 (w1.setCell ⟨L, 1, none⟩ v1) L ps ls cnt (psA ++ [p]) ib mb v1 g rows := by
  obtain ⟨own', ho, hR'⟩ := own_app h h.all.1 hR hat (by decide)
  have hs1 := (grown_ste hg ⟨hB.os, hB.tape, hB.output, hB.size, fun k hk => absurd hk (Nat.not_lt_zero k)⟩).mono (P' := fun k => own k = 4) (fun k hk => .inl (h.all.1 k hk))
  have hs2 := setCell_ste w1 L 1 v1
  have hne : ∀ {k c : Nat}, own k = c → c ≠ 4 → ¬ own k = 4 := fun hk hc e => hc (hk.symm.trans e)
  have hnL : ∀ {k c : Nat}, own k = c → c ≠ 1 → ¬ k = L := fun hk hc e => hc (by rw [← hk, e]; exact h.pl)
  have hX := hs1.blk h.head (hne h.pl (by decide))
  have hos : ∀ k, own k ≠ 0 → own' k = own k := fun k hk => by
    rcases ho with rfl | ⟨b, rfl, hb, -⟩
    · rfl
    · exact ownN_old (h.zero hb) hk
  have hlo : ∀ k, own' k ≠ 0 → w0.heap.size ≤ k ∧ k < (w1.setCell ⟨L, 1, none⟩ v1).heap.size := fun k hk => by
    have hsz : (w1.setCell ⟨L, 1, none⟩ v1).heap.size = w1.heap.size := by simp
    rw [hsz]
    rcases ho with rfl | ⟨b, rfl, hb, hb2⟩
    · exact ⟨(h.lo k hk).1, Nat.lt_of_lt_of_le (h.lo k hk).2 hs1.size⟩
    · by_cases e : k = b
      · rw [e]; exact ⟨Nat.le_trans h.base.size hb, hb2⟩
      · unfold ownN at hk; rw [if_neg e] at hk; exact ⟨(h.lo k hk).1, Nat.lt_of_lt_of_le (h.lo k hk).2 hs1.size⟩
  have hSt : Ste (fun k => own k ≠ 0) w (w1.setCell ⟨L, 1, none⟩ v1) := (hs1.mono (P' := fun k => own k ≠ 0) (fun k hk => .inl (by rw [hk]; decide))).trans hs2 (fun k hk => .inl (by rw [show k = L from hk, h.pl]; decide))
  have hL' := (hos L (by rw [h.pl]; decide)).trans h.pl
  refine ⟨own', ho, hSt, hL', hlo, hSt.base h.base h.base.size (fun k hk => (h.lo k hk).1), (hos ib (by rw [h.oi]; decide)).trans h.oi, (hos mb (by rw [h.om]; decide)).trans h.om, blk_put hX 1 v1 rfl, hs2.blk (hs1.blk h.ids (hne h.oi (by decide))) (hnL h.oi (by decide)), ?_, (h.map.ste hs1 (hne h.om (by decide))).ste hs2 (hnL h.om (by decide)), h.nd, fun n => (((h.at_ n).ste hs1 (fun k hk => hne hk (by omega))).ste hs2 (fun k hk => hnL hk (by omega))).mono hos, h.pn, fun i s hi => ?_⟩
  · refine R_ste hR' hs2 (fun k hk e => ?_)
    rw [show k = L from e, hL'] at hk
    omega
  · obtain ⟨q, hq, hqo, hqc⟩ := h.ent i s hi
    exact ⟨q, hq, (hos q (by rw [hqo]; omega)).trans hqo, hs2.blk (hs1.blk hqc (hne hqo (by omega))) (hnL hqo (by omega))⟩
/-- A node's row, what the map says of it. -/
def rowV (g : List (Int × Value)) (n : Int) : Value := (getG g n).getD (.slice none 0 0)
theorem LiX.rowR (h : LiX own w0 w L ps ls cnt psA ib mb va g rows) (n : Int) : KdP.R 198 w w0.heap.size (fun k => own k = 6 + 2 * n.toNat) (rowV g n) (rows n) := by
  have ha := h.at_ n
  unfold rowV
  cases hg : getG g n with
  | none => rw [hg] at ha; rw [show rows n = [] from ha]; exact Kd.R_nil _ _ _ _ _
  | some v => rw [hg] at ha; exact ha.2
theorem LiX.look (h : LiX own w0 w L ps ls cnt psA ib mb va g rows) (n : Int) : (Instr.lookup 80 (.map (some mb)) (.int .i64 n) false).run Tryz.prog w = .ok (rowV g n) w :=
  h.map.lookup (P := Tryz.prog) (t := 80) Tryz.underlying80 Tryz.underlying3 (Tryz.zeroValue79 w) n
def rowsU (rows : Int → List Nat) (n : Int) (xs : List Nat) (m : Int) : List Nat := if m = n then xs else rows m
/-- A node's row is another one. -/
theorem LiX.rowp {w1 w' : World} {n : Int} {v1 : Value} {xs : List Nat} {ok1 : Nat → Prop} {g' : List (Int × Value)} (h : LiX own w0 w L ps ls cnt psA ib mb va g rows) (hn : 1 ≤ n) (hk : ∀ m, rows m ≠ [] → 1 ≤ m) (hR : KdP.R 198 w1 w0.heap.size ok1 v1 xs) (hs1 : Ste (fun k => own k = 6 + 2 * n.toNat) w w1)
    (hat : v1.ownBlock = (rowV g n).ownBlock ∨ ∃ b, v1.ownBlock = some b ∧ w.heap.size ≤ b) (hs2 : Ste (fun k => k = mb) w1 w') (hM : MapI w' mb g') (hnd : (g'.map (·.1)).Nodup)
    (hg' : ∀ m, getG g' m = if m = n then (if xs = [] then none else some v1) else getG g m) :
    ∃ own', (own' = own ∨ ∃ b, own' = ownN own b (6 + 2 * n.toNat) ∧ w.heap.size ≤ b ∧ b < w1.heap.size) ∧ Ste (fun k => own k ≠ 0) w w' ∧ LiX own' w0 w' L ps ls cnt psA ib mb va g' (rowsU rows n xs) := by
  obtain ⟨own', ho, hR'⟩ := own_app h (h.rowR n).1 hR hat (by omega)
  have hne : ∀ {k c : Nat}, own k = c → c ≠ 6 + 2 * n.toNat → ¬ own k = 6 + 2 * n.toNat := fun hk hc e => hc (hk.symm.trans e)
  have hnm : ∀ {k c : Nat}, own k = c → c ≠ 3 → ¬ k = mb := fun hk hc e => hc (by rw [← hk, e]; exact h.om)
  have hos : ∀ k, own k ≠ 0 → own' k = own k := fun k hk => by
    rcases ho with rfl | ⟨b, rfl, hb, -⟩
    · rfl
    · exact ownN_old (h.zero hb) hk
  have hSt : Ste (fun k => own k ≠ 0) w w' := (hs1.mono (P' := fun k => own k ≠ 0) (fun k hk => .inl (by rw [hk]; omega))).trans hs2 (fun k hk => .inl (by rw [show k = mb from hk, h.om]; decide))
  have hlo : ∀ k, own' k ≠ 0 → w0.heap.size ≤ k ∧ k < w'.heap.size := fun k hk => by
    rcases ho with rfl | ⟨b, rfl, hb, hb2⟩
    · exact ⟨(h.lo k hk).1, Nat.lt_of_lt_of_le (h.lo k hk).2 hSt.size⟩
    · by_cases e : k = b
      · rw [e]; exact ⟨Nat.le_trans h.base.size hb, Nat.lt_of_lt_of_le hb2 hs2.size⟩
      · unfold ownN at hk; rw [if_neg e] at hk; exact ⟨(h.lo k hk).1, Nat.lt_of_lt_of_le (h.lo k hk).2 hSt.size⟩
  refine ⟨own', ho, hSt, (hos L (by rw [h.pl]; decide)).trans h.pl, hlo, hSt.base h.base h.base.size (fun k hk => (h.lo k hk).1), (hos ib (by rw [h.oi]; decide)).trans h.oi, (hos mb (by rw [h.om]; decide)).trans h.om, hs2.blk (hs1.blk h.head (hne h.pl (by omega))) (hnm h.pl (by decide)), hs2.blk (hs1.blk h.ids (hne h.oi (by omega))) (hnm h.oi (by decide)), ?_, hM, hnd, fun m => ?_, h.pn, fun i s hi => ?_⟩
  · exact Kd.R_mono (R_ste (R_ste h.all hs1 (fun k hk => hne hk (by omega))) hs2 (fun k hk => hnm hk (by decide))) (fun k hk => (hos k (by rw [hk]; decide)).trans hk)
  · rw [hg' m]
    unfold rowsU
    by_cases e : m = n
    · rw [if_pos e, if_pos e]
      subst e
      by_cases hx : xs = []
      · rw [if_pos hx]; exact hx
      · rw [if_neg hx]
        refine ⟨hx, R_ste hR' hs2 (fun k hk ek => ?_)⟩
        rw [show k = mb from ek, (hos mb (by rw [h.om]; decide)).trans h.om] at hk
        omega
    · rw [if_neg e, if_neg e]
      have ha := h.at_ m
      cases hgm : getG g m with
      | none => rw [hgm] at ha; exact ha
      | some v =>
        rw [hgm] at ha
        have h1 := hk m ha.1
        exact ((AtX.ste (ov := some v) ha hs1 (fun k hk => hne hk (by omega))).ste hs2 (fun k hk => hnm hk (by omega))).mono hos
  · obtain ⟨q, hq, hqo, hqc⟩ := h.ent i s hi
    exact ⟨q, hq, (hos q (by rw [hqo]; omega)).trans hqo, hs2.blk (hs1.blk hqc (hne hqo (by omega))) (hnm hqo (by omega))⟩
end
end Go.Proofs.YtgopddjmmoohdaaGreatDoor
