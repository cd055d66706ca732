/- The texts of this seat, joined: part 18 of 25. -/
import Derived.Test.YtgopddjmmoohdaaGreatDoorSl15
import Derived.Test.YtgopddjmmoohdaaGreatDoorSl17
import Derived.Test.YtgopddjmmoohdaaGreatDoorSl01
/- world: what a world is; its small functions. -/
set_option linter.unusedSimpArgs false
set_option linter.unusedVariables false
set_option maxRecDepth 100000
set_option maxHeartbeats 3200000
namespace Go.Proofs.YtgopddjmmoohdaaGreatDoor
open Go.RowKit Go.Proofs.YtgopddjmmoohdaaGreatDoorW.PrintWords Go.Proofs.YtgopddjmmoohdaaGreatDoorW.PrintLast Go.Proofs.YtgopddjmmoohdaaGreatDoor.PPlaySilent

/-- An event's block. -/
structure EvB (own : Nat → Nat) (w0 w : World) (i b : Nat) (e : EvS) : Prop where
  ob : own b = 2 + 2 * i
  row : ∃ pv, w.heap[b]? = some (.cells (evC e pv) 46 (0, 0)) ∧ k157.R 157 w w0.heap.size (fun k => own k = 3 + 2 * i) pv e.path
/-- Events in the row v. Whose a block is: 1: the row's; 2 + 2 i: event i's; 3 + 2 i: its path's. -/
structure EvL (own : Nat → Nat) (w0 w : World) (v : Value) (bs : List Nat) (evs : List EvS) : Prop where
  lo : ∀ k, own k ≠ 0 → w0.heap.size ≤ k ∧ k < w.heap.size
  len : evs.length ≤ 128
  bn : bs.length = evs.length
  row : KdP.R 42 w w0.heap.size (fun k => own k = 1) v bs
  ent : ∀ i e, evs[i]? = some e → ∃ b, bs[i]? = some b ∧ EvB own w0 w i b e
theorem EvB.ste {own : Nat → Nat} {P : Nat → Prop} {w0 w w' : World} {i b : Nat} {e : EvS} (h : EvB own w0 w i b e) (hs : Ste P w w') (hd : ∀ k, own k = 2 + 2 * i ∨ own k = 3 + 2 * i → ¬ P k) : EvB own w0 w' i b e := by
  obtain ⟨pv, h1, h2⟩ := h.row
  exact ⟨h.ob, pv, hs.blk h1 (hd _ (.inl h.ob)), R_ste h2 hs (fun k hk => hd k (.inr hk))⟩
theorem EvL.ste {own : Nat → Nat} {P : Nat → Prop} {w0 w w' : World} {v : Value} {bs : List Nat} {evs : List EvS} (h : EvL own w0 w v bs evs) (hs : Ste P w w') (hd : ∀ k, own k ≠ 0 → ¬ P k) : EvL own w0 w' v bs evs :=
  ⟨fun k hk => ⟨(h.lo k hk).1, Nat.lt_of_lt_of_le (h.lo k hk).2 hs.size⟩, h.len, h.bn, R_ste h.row hs (fun k hk => hd k (by rw [hk]; decide)), fun i e hi => by
    obtain ⟨b, hb, hB⟩ := h.ent i e hi
    exact ⟨b, hb, hB.ste hs (fun k hk => hd k (by omega))⟩⟩
/-- A world's state. -/
structure St where
  l : List S115
  sg : List Sg
  ls : List Ls
  ev : List EvS
/-- A world at block Wb. Whose a block is: 1: the forest's; 2: the lists'; 3: the board's; 4: the events'; 5: the world's. -/
structure WoC (cl : Nat → Nat) (w0 w : World) (Wb F L B : Nat) (calls : Nat) (st : St) : Prop where
  lo : ∀ k, cl k ≠ 0 → w0.heap.size ≤ k ∧ k < w.heap.size
  base : Below w0.heap.size w0 w
  cw : cl Wb = 5
  fo : FoC (fun k => cl k = 1) w0 w F st.l
  wf : WF8 st.l
  li : ∃ own ps, LiC own w0 w L ps st.ls ∧ ∀ k, own k ≠ 0 → cl k = 2
  bo : ∃ own sl, BoC own w0 w B sl ∧ sl.map SigS.abs = st.sg ∧ ∀ k, own k ≠ 0 → cl k = 3
  ev : ∃ own v bs, w.heap[Wb]? = some (.cells #[.pointer (some ⟨F, 0, none⟩), .pointer (some ⟨L, 0, none⟩), .pointer (some ⟨B, 0, none⟩), .int .i64 calls, v] 64 (0, 0)) ∧ EvL own w0 w v bs st.ev ∧ ∀ k, own k ≠ 0 → cl k = 4
theorem WoC.ste {cl : Nat → Nat} {P : Nat → Prop} {w0 w w' : World} {Wb F L B calls : Nat} {st : St} (h : WoC cl w0 w Wb F L B calls st) (hs : Ste P w w') (hd : ∀ k, cl k ≠ 0 → ¬ P k) (hl : ∀ k, P k → w0.heap.size ≤ k) : WoC cl w0 w' Wb F L B calls st := by
  obtain ⟨o1, ps, h1, h2⟩ := h.li
  obtain ⟨o3, sl, h3, h4, h5⟩ := h.bo
  obtain ⟨o4, v, bs, h6, h7, h8⟩ := h.ev
  exact ⟨fun k hk => ⟨(h.lo k hk).1, Nat.lt_of_lt_of_le (h.lo k hk).2 hs.size⟩, hs.base h.base h.base.size hl, h.cw, h.fo.ste hs (fun k hk => hd k (by rw [hk]; decide)) hl, h.wf, ⟨o1, ps, h1.ste hs (fun k hk => hd k (by rw [h2 k hk]; decide)) hl, h2⟩, ⟨o3, sl, h3.ste hs (fun k hk => hd k (by rw [h5 k hk]; decide)) hl, h4, h5⟩, ⟨o4, v, bs, hs.blk h6 (hd _ (by rw [h.cw]; decide)), h7.ste hs (fun k hk => hd k (by rw [h8 k hk]; decide)), h8⟩⟩
theorem WoC.below {cl : Nat → Nat} {w0 w w' : World} {Wb F L B calls : Nat} {st : St} (h : WoC cl w0 w Wb F L B calls st) (hb : Below w.heap.size w w') : WoC cl w0 w' Wb F L B calls st := h.ste (P := fun _ => False) (Ste.of_below hb) (fun _ _ => id) (fun _ h => h.elim)
/-- What an operation leaves, seen from outside. -/
structure WoStep (cl cl' : Nat → Nat) (w w' : World) : Prop where
  ste : Ste (fun k => cl k ≠ 0) w w'
  new : ∀ k, cl' k ≠ 0 → cl k ≠ 0 ∨ w.heap.size ≤ k
theorem WoStep.same {cl : Nat → Nat} {w w' : World} (hb : Below w.heap.size w w') : WoStep cl cl w w' := ⟨Ste.of_below hb, fun k hk => .inl hk⟩
theorem WoStep.trans {cl cl1 cl2 : Nat → Nat} {w w1 w2 : World} (h : WoStep cl cl1 w w1) (h1 : WoStep cl1 cl2 w1 w2) : WoStep cl cl2 w w2 :=
  ⟨h.ste.trans h1.ste (fun k hk => h.new k hk), fun k hk => (h1.new k hk).elim (fun hk => h.new k hk) (fun hk => .inr (Nat.le_trans h.ste.size hk))⟩
/-- New blocks are given a class. -/
def clX (cl : Nat → Nat) (c a b k : Nat) : Nat := if a ≤ k ∧ k < b then c else cl k
theorem clX_old {cl : Nat → Nat} {c a b k : Nat} (h : k < a) : clX cl c a b k = cl k := if_neg (by omega)
theorem clX_new {cl : Nat → Nat} {c a b k : Nat} (h : a ≤ k) (h2 : k < b) : clX cl c a b k = c := if_pos ⟨h, h2⟩
section
variable {cl : Nat → Nat} {w0 w w' : World} {Wb F L B calls : Nat} {st : St}
theorem WoC.zero (h : WoC cl w0 w Wb F L B calls st) {k : Nat} (hk : w.heap.size ≤ k) : cl k = 0 := by
  by_cases e : cl k = 0
  · exact e
  · have := (h.lo k e).2; omega
theorem WoC.clo (h : WoC cl w0 w Wb F L B calls st) {k c m n : Nat} (hk : cl k = m) (hm : m ≠ 0) : clX cl c w.heap.size n k = m := by rw [clX_old (h.lo k (by rw [hk]; exact hm)).2, hk]
theorem WoC.lox (h : WoC cl w0 w Wb F L B calls st) (hs : w.heap.size ≤ w'.heap.size) {c : Nat} (k : Nat) (hk : clX cl c w.heap.size w'.heap.size k ≠ 0) : w0.heap.size ≤ k ∧ k < w'.heap.size := by
  unfold clX at hk
  split at hk
  · rename_i e; exact ⟨Nat.le_trans h.base.size e.1, e.2⟩
  · exact ⟨(h.lo k hk).1, Nat.lt_of_lt_of_le (h.lo k hk).2 hs⟩
theorem WoC.stepx (h : WoC cl w0 w Wb F L B calls st) {c : Nat} (hs : Ste (fun k => cl k = c) w w') (hc : c ≠ 0) : WoStep cl (clX cl c w.heap.size w'.heap.size) w w' :=
  ⟨hs.mono (fun k hk => .inl (by rw [hk]; exact hc)), fun k hk => by
    unfold clX at hk
    split at hk
    · rename_i e; exact .inr e.1
    · exact .inl hk⟩
/-- The forest has been written. -/
theorem WoC.setF (h : WoC cl w0 w Wb F L B calls st) {l' : List S115} (hF : FoC (grow (fun k => cl k = 1) w.heap.size w'.heap.size) w0 w' F l') (hW : WF8 l') (hs : Ste (fun k => cl k = 1) w w') :
    WoC (clX cl 1 w.heap.size w'.heap.size) w0 w' Wb F L B calls { st with l := l' } ∧ WoStep cl (clX cl 1 w.heap.size w'.heap.size) w w' := by
  obtain ⟨o1, ps, h1, h2⟩ := h.li
  obtain ⟨o3, sl, h3, h4, h5⟩ := h.bo
  obtain ⟨o4, v, bs, h6, h7, h8⟩ := h.ev
  have hl : ∀ k, cl k = 1 → w0.heap.size ≤ k := fun k hk => (h.lo k (by rw [hk]; decide)).1
  refine ⟨⟨h.lox hs.size, hs.base h.base h.base.size hl, h.clo h.cw (by decide), ?_, hW, ⟨o1, ps, h1.ste hs (fun k hk => by rw [h2 k hk]; decide) hl, fun k hk => h.clo (h2 k hk) (by decide)⟩, ⟨o3, sl, h3.ste hs (fun k hk => by rw [h5 k hk]; decide) hl, h4, fun k hk => h.clo (h5 k hk) (by decide)⟩, ⟨o4, v, bs, hs.blk h6 (by rw [h.cw]; decide), h7.ste hs (fun k hk => by rw [h8 k hk]; decide), fun k hk => h.clo (h8 k hk) (by decide)⟩⟩, h.stepx hs (by decide)⟩
  exact hF.mono (fun k hk => hk.elim (fun hp => h.clo hp (by decide)) (fun hn => clX_new hn.1 hn.2)) (fun k hk => h.lox hs.size k (by rw [hk]; decide))
/-- The lists have been written. -/
theorem WoC.setL (h : WoC cl w0 w Wb F L B calls st) {own own' : Nat → Nat} {ps' : List Nat} {ls' : List Ls} (hown : ∀ k, own k ≠ 0 → cl k = 2) (hL : LiC own' w0 w' L ps' ls') (hs : LiStep own own' w w') :
    WoC (clX cl 2 w.heap.size w'.heap.size) w0 w' Wb F L B calls { st with ls := ls' } ∧ WoStep cl (clX cl 2 w.heap.size w'.heap.size) w w' := by
  obtain ⟨o3, sl, h3, h4, h5⟩ := h.bo
  obtain ⟨o4, v, bs, h6, h7, h8⟩ := h.ev
  have hS : Ste (fun k => cl k = 2) w w' := hs.ste.mono (fun k hk => .inl (hown k hk))
  have hl : ∀ k, cl k = 2 → w0.heap.size ≤ k := fun k hk => (h.lo k (by rw [hk]; decide)).1
  refine ⟨⟨h.lox hS.size, hS.base h.base h.base.size hl, h.clo h.cw (by decide), ?_, h.wf, ⟨own', ps', hL, fun k hk => ?_⟩, ⟨o3, sl, h3.ste hS (fun k hk => by rw [h5 k hk]; decide) hl, h4, fun k hk => h.clo (h5 k hk) (by decide)⟩, ⟨o4, v, bs, hS.blk h6 (by rw [h.cw]; decide), h7.ste hS (fun k hk => by rw [h8 k hk]; decide), fun k hk => h.clo (h8 k hk) (by decide)⟩⟩, h.stepx hS (by decide)⟩
  · exact (h.fo.ste hS (fun k hk => by rw [hk]; decide) hl).mono (fun k hk => h.clo hk (by decide)) (fun k hk => h.lox hS.size k (by rw [hk]; decide))
  · rcases hs.new k hk with h9 | h9
    · exact h.clo (hown k h9) (by decide)
    · exact clX_new h9 (hL.lo k hk).2
/-- The board has been written. -/
theorem WoC.setB (h : WoC cl w0 w Wb F L B calls st) {own own' : Nat → Nat} {sl' : List SigS} (hown : ∀ k, own k ≠ 0 → cl k = 3) (hB : BoC own' w0 w' B sl') (hs : BoStep own own' w w') :
    WoC (clX cl 3 w.heap.size w'.heap.size) w0 w' Wb F L B calls { st with sg := sl'.map SigS.abs } ∧ WoStep cl (clX cl 3 w.heap.size w'.heap.size) w w' := by
  obtain ⟨o1, ps, h1, h2⟩ := h.li
  obtain ⟨o4, v, bs, h6, h7, h8⟩ := h.ev
  have hS : Ste (fun k => cl k = 3) w w' := hs.ste.mono (fun k hk => .inl (hown k hk))
  have hl : ∀ k, cl k = 3 → w0.heap.size ≤ k := fun k hk => (h.lo k (by rw [hk]; decide)).1
  refine ⟨⟨h.lox hS.size, hS.base h.base h.base.size hl, h.clo h.cw (by decide), ?_, h.wf, ⟨o1, ps, h1.ste hS (fun k hk => by rw [h2 k hk]; decide) hl, fun k hk => h.clo (h2 k hk) (by decide)⟩, ⟨own', sl', hB, rfl, fun k hk => ?_⟩, ⟨o4, v, bs, hS.blk h6 (by rw [h.cw]; decide), h7.ste hS (fun k hk => by rw [h8 k hk]; decide), fun k hk => h.clo (h8 k hk) (by decide)⟩⟩, h.stepx hS (by decide)⟩
  · exact (h.fo.ste hS (fun k hk => by rw [hk]; decide) hl).mono (fun k hk => h.clo hk (by decide)) (fun k hk => h.lox hS.size k (by rw [hk]; decide))
  · rcases hs.new k hk with h9 | h9
    · exact h.clo (hown k h9) (by decide)
    · exact clX_new h9 (hB.lo k hk).2
end
/-- An event's place. -/
def evF (ev : List EvS) (id : Int) : Option EvS := if 1 ≤ id then ev[(id - 1).toNat]? else none
theorem evF_some {l : List EvS} {id : Int} {s : EvS} (h : evF l id = some s) : ∃ j : Nat, id = ((j + 1 : Nat) : Int) ∧ j < l.length ∧ l[j]? = some s := by
  unfold evF at h
  split at h
  · obtain ⟨h1, _⟩ := List.getElem?_eq_some_iff.1 h
    exact ⟨(id - 1).toNat, by omega, h1, h⟩
  · cases h
theorem evF_none {l : List EvS} {id : Int} (h : evF l id = none) : id < 1 ∨ (l.length : Int) < id := by
  unfold evF at h
  split at h
  · rw [List.getElem?_eq_none_iff] at h; omega
  · omega
def evP (bs : List Nat) (ev : List EvS) (id : Int) : Value := match evF ev id with
  | none => .pointer none
  | some _ => .pointer (some ⟨bs.getD (id - 1).toNat 0, 0, none⟩)
theorem event_at (own : Nat → Nat) (w0 w : World) (Wb F L B calls : Nat) (v : Value) (bs : List Nat) (ev : List EvS) (id : Int) (hW : w.heap[Wb]? = some (.cells #[.pointer (some ⟨F, 0, none⟩), .pointer (some ⟨L, 0, none⟩), .pointer (some ⟨B, 0, none⟩), .int .i64 calls, v] 64 (0, 0))) (h : EvL own w0 w v bs ev) :
    Calls Tryz.prog 11 #[.pointer (some ⟨Wb, 0, none⟩), .int .i64 id] w fun e w' => e = .returned (evP bs ev id) ∧ w' = w := by
  have h512 := h.len
  have hpn := h.bn
  have h2 := h.row
  have z1 := (blk_cell hW 4).trans rfl
  cases hn : evF ev id with
  | none =>
    have HP : Hd (evP bs ev id = .pointer none) := ⟨by unfold evP; rw [hn]⟩
    obtain ⟨A, c, rfl, hl, hC⟩ := Kd.R_reads h2
    rw [hpn] at z1 hl
    rcases evF_none hn with hi | hi
    · have q1 : id < 1 := hi
      clear hn h2 h hC hpn hW
      go_enter Tryz.func11, Tryz.ntmps11
      go_wp2
      go_ret
      exact ⟨congrArg Ending.returned HP.out.symm, rfl⟩
    · have q1 : ¬ id < 1 := by omega
      have q2 : (ev.length : Int) < id := hi
      clear hn h2 h hC hpn hW
      go_enter Tryz.func11, Tryz.ntmps11
      go_wp2
      go_ret
      exact ⟨congrArg Ending.returned HP.out.symm, rfl⟩
  | some s =>
    obtain ⟨j, rfl, hj, hx⟩ := evF_some hn
    obtain ⟨p, hp⟩ : ∃ p, bs[j]? = some p := get_some (by omega)
    have HP : Hd (evP bs ev ((j + 1 : Nat) : Int) = .pointer (some ⟨p, 0, none⟩)) := ⟨by unfold evP; rw [hn]; simp only; rw [show (((j + 1 : Nat) : Int) - 1).toNat = j by omega, List.getD_eq_getElem?_getD, hp]; rfl⟩
    obtain ⟨g, c', rfl, _, hcell⟩ := ptrs_at h2 hp
    rw [hpn] at z1
    have q1 : ¬ ((j + 1 : Nat) : Int) < 1 := by omega
    have q2 : ¬ (ev.length : Int) < ((j + 1 : Nat) : Int) := by omega
    have q3 : (((j + 1 : Nat) : Int) - 1) = j := by omega
    clear hn h2 h hx hp hpn hW
    go_enter Tryz.func11, Tryz.ntmps11
    go_wp2
    go_ret
    exact ⟨congrArg Ending.returned HP.out.symm, rfl⟩
theorem event_none {cl : Nat → Nat} {w0 w : World} {Wb F L B calls : Nat} {st : St} (h : WoC cl w0 w Wb F L B calls st) {id : Int} (hn : evF st.ev id = none) :
    Calls Tryz.prog 11 #[.pointer (some ⟨Wb, 0, none⟩), .int .i64 id] w fun e w' => e = .returned (.pointer none) ∧ w' = w := by
  obtain ⟨o4, v, bs, h6, h7, h8⟩ := h.ev
  have := event_at o4 w0 w Wb F L B calls v bs st.ev id h6 h7
  rwa [show evP bs st.ev id = .pointer none by unfold evP; rw [hn]] at this
end Go.Proofs.YtgopddjmmoohdaaGreatDoor

/- world: an event is written; Meant, there, bits, has. -/
set_option linter.unusedSimpArgs false
set_option linter.unusedVariables false
set_option maxRecDepth 100000
set_option maxHeartbeats 3200000
namespace Go.Proofs.YtgopddjmmoohdaaGreatDoor
open Go.RowKit Go.Proofs.YtgopddjmmoohdaaGreatDoorW.PrintWords Go.Proofs.YtgopddjmmoohdaaGreatDoorW.PrintLast Go.Proofs.YtgopddjmmoohdaaGreatDoor.PPlaySilent

/-- Event i has been written. -/
theorem EvL.set {own : Nat → Nat} {w0 w w' : World} {v : Value} {bs : List Nat} {evs : List EvS} {i b : Nat} {e e' : EvS} {pv pv' : Value} (h : EvL own w0 w v bs evs) (hi : evs[i]? = some e) (hb : bs[i]? = some b) (hbw : w0.heap.size ≤ w.heap.size) (hpv : w.heap[b]? = some (.cells (evC e pv) 46 (0, 0))) (hpr : k157.R 157 w w0.heap.size (fun k => own k = 3 + 2 * i) pv e.path) (hs : Ste (fun k => k = b) w w') (hn : w'.heap[b]? = some (.cells (evC e' pv') 46 (0, 0)))
    (hp : (pv' = pv ∧ e'.path = e.path) ∨ k157.R 157 w' w.heap.size (fun _ => True) pv' e'.path) : EvL (fun k => if w.heap.size ≤ k ∧ k < w'.heap.size then 3 + 2 * i else own k) w0 w' v bs (evs.set i e') := by
  obtain ⟨b0, hb0, hB0⟩ := h.ent i e hi
  obtain rfl : b = b0 := Option.some.inj (hb.symm.trans hb0)
  have hz : ∀ k, own k ≠ 0 → ¬ (w.heap.size ≤ k ∧ k < w'.heap.size) := fun k hk he => by have := (h.lo k hk).2; omega
  have hne : ∀ {k c : Nat}, own k = c → c ≠ 2 + 2 * i → ¬ k = b := fun hk hc e => hc (by rw [← hk, e]; exact hB0.ob)
  refine ⟨fun k hk => ?_, by simpa using h.len, by simpa using h.bn, Kd.R_mono (R_ste h.row hs (fun k hk => hne hk (by omega))) (fun k hk => (if_neg (hz k (by rw [hk]; decide))).trans hk), fun j t hj => ?_⟩
  · split at hk
    · rename_i he; exact ⟨Nat.le_trans hbw he.1, he.2⟩
    · exact ⟨(h.lo k hk).1, Nat.lt_of_lt_of_le (h.lo k hk).2 hs.size⟩
  · rw [List.getElem?_set] at hj
    split at hj
    · rename_i ej
      subst ej
      split at hj
      · cases hj
        refine ⟨b, hb, (if_neg (hz b (by rw [hB0.ob]; omega))).trans hB0.ob, pv', hn, ?_⟩
        rcases hp with ⟨rfl, he⟩ | hp
        · rw [he]
          exact Kd.R_mono (R_ste hpr hs (fun k hk => hne hk (by omega))) (fun k hk => (if_neg (hz k (by rw [hk]; omega))).trans hk)
        · refine Kd.R_mono (Kd.R_tight rfl (Kd.R_lower hp hbw)) (fun k hk => ?_)
          exact if_pos ⟨Kd.R_base hp k hk.symm, Kd.R_lt hp k hk.symm⟩
      · cases hj
    · rename_i ej
      obtain ⟨q, hq, hqB⟩ := h.ent j t hj
      have h1 := hqB.ste hs (fun k hk => hk.elim (fun hk => hne hk (by omega)) (fun hk => hne hk (by omega)))
      obtain ⟨pq, h2, h3⟩ := h1.row
      exact ⟨q, hq, (if_neg (hz q (by rw [hqB.ob]; omega))).trans hqB.ob, pq, h2, Kd.R_mono h3 (fun k hk => (if_neg (hz k (by rw [hk]; omega))).trans hk)⟩
section
variable {cl : Nat → Nat} {w0 w : World} {Wb F L B calls : Nat} {st : St}
/-- An event, and what a write of it leaves. -/
theorem WoC.event (h : WoC cl w0 w Wb F L B calls st) {id : Int} {e : EvS} (hn : evF st.ev id = some e) :
    ∃ b A c, (∀ W, Below w.heap.size w W → Calls Tryz.prog 11 #[.pointer (some ⟨Wb, 0, none⟩), .int .i64 id] W (fun r w' => r = .returned (.pointer (some ⟨b, 0, none⟩)) ∧ w' = W)) ∧ w.heap[b]? = some (.cells (evC e (.slice A e.path.length c)) 46 (0, 0)) ∧ cl b = 4 ∧ e.path.length ≤ c ∧ k157.C w A e.path.length e.path ∧
      ∀ w' e' pv', Ste (fun k => k = b) w w' → w'.heap[b]? = some (.cells (evC e' pv') 46 (0, 0)) → ((pv' = .slice A e.path.length c ∧ e'.path = e.path) ∨ k157.R 157 w' w.heap.size (fun _ => True) pv' e'.path) → WoC (clX cl 4 w.heap.size w'.heap.size) w0 w' Wb F L B calls { st with ev := st.ev.set (id - 1).toNat e' } ∧ WoStep cl (clX cl 4 w.heap.size w'.heap.size) w w' := by
  obtain ⟨o4, v, bs, h6, h7, h8⟩ := h.ev
  obtain ⟨j, hid, hj, hx⟩ := evF_some hn
  obtain ⟨b, hb, hB⟩ := h7.ent j e hx
  obtain ⟨pv, h9, h10⟩ := hB.row
  obtain ⟨A, c, rfl, hc, hC⟩ := Kd.R_reads h10
  refine ⟨b, A, c, fun W hBW => ?_, h9, h8 b (by rw [hB.ob]; omega), hc, hC, fun w' e' pv' hs hn' hp => ?_⟩
  · obtain ⟨o4', v', bs', h6', h7', h8'⟩ : ∃ own v bs, W.heap[Wb]? = some (.cells #[.pointer (some ⟨F, 0, none⟩), .pointer (some ⟨L, 0, none⟩), .pointer (some ⟨B, 0, none⟩), .int .i64 calls, v] 64 (0, 0)) ∧ EvL own w0 W v bs st.ev ∧ bs[j]? = some b := ⟨o4, v, bs, blk_below h6 hBW, h7.ste (P := fun _ => False) (Ste.of_below hBW) (fun _ _ h => h), hb⟩
    have := event_at o4' w0 W Wb F L B calls v' bs' st.ev id h6' h7'
    rwa [show evP bs' st.ev id = .pointer (some ⟨b, 0, none⟩) by unfold evP; rw [hn]; simp only; rw [hid, show (((j + 1 : Nat) : Int) - 1).toNat = j by omega, List.getD_eq_getElem?_getD, h8']; rfl] at this
  · have hE := h7.set hx hb h.base.size h9 h10 hs hn' hp
    obtain ⟨o1, ps, h1, h2⟩ := h.li
    obtain ⟨o3, sl, h3, h4, h5⟩ := h.bo
    have hb4 := h8 b (by rw [hB.ob]; omega)
    have hS : Ste (fun k => cl k = 4) w w' := hs.mono (fun k hk => .inl (by rw [show k = b from hk]; exact hb4))
    have hl : ∀ k, cl k = 4 → w0.heap.size ≤ k := fun k hk => (h.lo k (by rw [hk]; decide)).1
    have hWb : Wb ≠ b := fun e => by have := h.cw; rw [e, hb4] at this; cases this
    refine ⟨⟨h.lox hS.size, hS.base h.base h.base.size hl, h.clo h.cw (by decide), ?_, h.wf, ⟨o1, ps, h1.ste hS (fun k hk => by rw [h2 k hk]; decide) hl, fun k hk => h.clo (h2 k hk) (by decide)⟩, ⟨o3, sl, h3.ste hS (fun k hk => by rw [h5 k hk]; decide) hl, h4, fun k hk => h.clo (h5 k hk) (by decide)⟩, ⟨_, v, bs, hs.blk h6 hWb, by rw [show (id - 1).toNat = j by omega]; exact hE, fun k hk => ?_⟩⟩, h.stepx hS (by decide)⟩
    · exact (h.fo.ste hS (fun k hk => by rw [hk]; decide) hl).mono (fun k hk => h.clo hk (by decide)) (fun k hk => h.lox hS.size k (by rw [hk]; decide))
    · by_cases he : w.heap.size ≤ k ∧ k < w'.heap.size
      · exact clX_new he.1 he.2
      · rw [if_neg he] at hk; exact h.clo (h8 k hk) (by decide)
end
/-- The number that is meant. -/
def meantF (ev : List EvS) (n ctx : Int) : Int := if 0 ≤ n then n else if n < -4 then n else match evF ev ctx with
  | none => 0
  | some e => if n = -1 then e.cur else if n = -2 then e.tg else if n = -3 then ctx else e.rel
theorem meant_any {cl : Nat → Nat} {w0 w : World} {Wb F L B calls : Nat} {st : St} (h : WoC cl w0 w Wb F L B calls st) (n ctx : Int) :
    Calls Tryz.prog 30 #[.pointer (some ⟨Wb, 0, none⟩), .int .i64 n, .int .i64 ctx] w fun e w' => e = .returned (.int .i64 (meantF st.ev n ctx)) ∧ w' = w := by
  by_cases h0 : 0 ≤ n
  · have HF : Hd (meantF st.ev n ctx = n) := ⟨if_pos h0⟩
    clear h
    go_enter Tryz.func30, Tryz.ntmps30
    go_wp2
    go_ret
    exact ⟨by rw [HF.out]; rfl, rfl⟩
  · by_cases h4 : n < -4
    · have HF : Hd (meantF st.ev n ctx = n) := ⟨(if_neg h0).trans (if_pos h4)⟩
      clear h
      go_enter Tryz.func30, Tryz.ntmps30
      go_wp2
      go_ret
      exact ⟨by rw [HF.out]; rfl, rfl⟩
    · have HM : Hd (meantF st.ev n ctx = match evF st.ev ctx with | none => 0 | some e => if n = -1 then e.cur else if n = -2 then e.tg else if n = -3 then ctx else e.rel) := ⟨(if_neg h0).trans (if_neg h4)⟩
      cases hn : evF st.ev ctx with
      | none =>
        have hc := event_none h hn
        have HF : Hd (meantF st.ev n ctx = 0) := ⟨by rw [HM.out, hn]⟩
        clear h hn HM
        go_enter Tryz.func30, Tryz.ntmps30
        go_wp2_with (go_at_call 11; (with_reducible refine hc.mono ?_); rintro e w1 ⟨rfl, hw⟩; obtain rfl := hw.symm)
        go_ret
        exact ⟨by rw [HF.out]; rfl, rfl⟩
      | some e =>
        obtain ⟨b, A, c, hcl, hb, -, -, -, -⟩ := h.event hn
        have hc := hcl w (Below.refl _ _)
        have HM2 : Hd (meantF st.ev n ctx = if n = -1 then e.cur else if n = -2 then e.tg else if n = -3 then ctx else e.rel) := ⟨by rw [HM.out, hn]⟩
        have c1 : w.cell? ⟨b, 1, none⟩ = some (.int .i64 e.tg) := blk_cell hb 1
        have c2 : w.cell? ⟨b, 2, none⟩ = some (.int .i64 e.rel) := blk_cell hb 2
        have c3 : w.cell? ⟨b, 3, none⟩ = some (.int .i64 e.cur) := blk_cell hb 3
        generalize meantF st.ev n ctx = mr at *
        clear h hn HM hcl hb
        have hd : n = -1 ∨ n = -2 ∨ n = -3 ∨ n = -4 := by omega
        rcases hd with rfl | rfl | rfl | rfl
        all_goals
          simp at HM2
          go_enter Tryz.func30, Tryz.ntmps30
          go_wp2_with (go_at_call 11; (with_reducible refine hc.mono ?_); rintro e w1 ⟨rfl, hw⟩; obtain rfl := hw.symm)
          go_ret
          exact ⟨by rw [HM2.out]; rfl, rfl⟩
theorem WoC.wb {cl : Nat → Nat} {w0 w : World} {Wb F L B calls : Nat} {st : St} (h : WoC cl w0 w Wb F L B calls st) : ∃ v, w.heap[Wb]? = some (.cells #[.pointer (some ⟨F, 0, none⟩), .pointer (some ⟨L, 0, none⟩), .pointer (some ⟨B, 0, none⟩), .int .i64 calls, v] 64 (0, 0)) := by
  obtain ⟨o4, v, bs, h6, -, -⟩ := h.ev
  exact ⟨v, h6⟩
theorem wthere_any {cl : Nat → Nat} {w0 w : World} {Wb F L B calls : Nat} {st : St} (h : WoC cl w0 w Wb F L B calls st) (id : Int) :
    Calls Tryz.prog 83 #[.pointer (some ⟨Wb, 0, none⟩), .int .i64 id] w fun e w' => e = .returned (.bool (isN st.l id)) ∧ Below w.heap.size w w' := by
  obtain ⟨v, hW⟩ := h.wb
  have hn := node_call F id st.l w h.fo.read h.wf.wf.kl
  have z0 := (blk_cell hW 0).trans rfl
  simp only [nodeV] at hn
  generalize nodeD st.l id = x at *
  generalize isN st.l id = r at *
  clear h hW
  go_enter Tryz.func83, Tryz.ntmps83
  go_wp2_with (go_at_call 57; (with_reducible refine hn.mono ?_); rintro e w1 ⟨A, c, rfl, -, -, hB1⟩)
  go_ret
  exact ⟨rfl, below_alloc hB1 _⟩
def bitsB (n : Int) : Bool := decide (0 ≤ n) && decide (n ≤ 7)
theorem bits_any (n : Int) (w : World) : Calls Tryz.prog 84 #[.int .i64 n] w fun e w' => e = .returned (.bool (bitsB n)) ∧ w' = w := by
  by_cases h0 : 0 ≤ n
  · by_cases h7 : n ≤ 7
    · go_enter Tryz.func84, Tryz.ntmps84
      go_wp2
      go_ret
      exact ⟨by simp [bitsB, h0, h7], rfl⟩
    · go_enter Tryz.func84, Tryz.ntmps84
      go_wp2
      go_ret
      exact ⟨by simp [bitsB, h7], rfl⟩
  · go_enter Tryz.func84, Tryz.ntmps84
    go_wp2
    go_ret
    exact ⟨by simp only [bitsB, decide_eq_false (show ¬ 0 ≤ n by omega), Bool.false_and]; rfl, rfl⟩
/-- Is a bit in a number? -/
def hasB (n b : Int) : Bool := decide (n / b % 2 = 1)
theorem has_any (n : Int) (b : Int) (hb : b = 1 ∨ b = 2 ∨ b = 4) (hn : bitsB n = true) (w : World) : Calls Tryz.prog 86 #[.int .i64 n, .int .i64 b] w fun e w' => e = .returned (.bool (hasB n b)) ∧ w' = w := by
  have h1 : n = 0 ∨ n = 1 ∨ n = 2 ∨ n = 3 ∨ n = 4 ∨ n = 5 ∨ n = 6 ∨ n = 7 := by simp [bitsB] at hn; omega
  clear hn
  rcases hb with rfl | rfl | rfl
  all_goals
    rcases h1 with rfl | rfl | rfl | rfl | rfl | rfl | rfl | rfl
    all_goals
      go_enter Tryz.func86, Tryz.ntmps86
      go_wp2
      go_ret
      exact ⟨rfl, rfl⟩
end Go.Proofs.YtgopddjmmoohdaaGreatDoor

/- world: make, unlisten, flag, event. -/
set_option linter.unusedSimpArgs false
set_option linter.unusedVariables false
set_option maxRecDepth 100000
set_option maxHeartbeats 3200000
namespace Go.Proofs.YtgopddjmmoohdaaGreatDoor
open Go.RowKit Go.Proofs.YtgopddjmmoohdaaGreatDoorW.PrintWords Go.Proofs.YtgopddjmmoohdaaGreatDoorW.PrintLast Go.Proofs.YtgopddjmmoohdaaGreatDoor.PPlaySilent

/-- What an operation leaves: the state then, an answer, an error. -/
def WoPost (cl : Nat → Nat) (w0 w : World) (Wb F L B calls : Nat) (r : St × Int × Int) (e : Ending) (w' : World) : Prop := e = .returned (.tuple #[.int .i64 r.2.1, .int .i64 r.2.2]) ∧ ∃ cl', WoC cl' w0 w' Wb F L B calls r.1 ∧ WoStep cl cl' w w'
theorem WoC.no {cl : Nat → Nat} {w0 w W : World} {Wb F L B calls : Nat} {st : St} (h : WoC cl w0 w Wb F L B calls st) {r : St × Int × Int} {u v : Int} (he : r = (st, u, v)) (hB : Below w.heap.size w W) : WoPost cl w0 w Wb F L B calls r (.returned (.tuple #[.int .i64 u, .int .i64 v])) W := by
  rw [he]; exact ⟨rfl, cl, h.below hB, WoStep.same hB⟩
theorem WoC.yes {cl cl1 cl2 : Nat → Nat} {w0 w W V : World} {Wb F L B calls : Nat} {st : St} {r : St × Int × Int} {u v : Int} (hs : WoStep cl cl1 w W) (h2 : WoC cl2 w0 V Wb F L B calls st ∧ WoStep cl1 cl2 W V) (he : r = (st, u, v)) : WoPost cl w0 w Wb F L B calls r (.returned (.tuple #[.int .i64 u, .int .i64 v])) V := by
  rw [he]; exact ⟨rfl, cl2, h2.1, hs.trans h2.2⟩
/-- make. -/
def mkW (st : St) (x : S39) : St × Int × Int := if x.f1 = 3 then (st, 0, 2) else if x.f2 = 0 ∨ x.f2 = 1 then ({ st with l := makeF st.l x.f1 0 (decide (x.f2 = 1)) x.f5 ⟨#[]⟩ }, (makeV st.l x.f1 0 (decide (x.f2 = 1)) x.f5 ⟨#[]⟩).1, (makeV st.l x.f1 0 (decide (x.f2 = 1)) x.f5 ⟨#[]⟩).2) else (st, 0, 1)
theorem wmake_any {cl : Nat → Nat} {w0 w : World} {Wb F L B calls : Nat} {st : St} (h : WoC cl w0 w Wb F L B calls st) (x : S39) :
    Calls Tryz.prog 41 #[.pointer (some ⟨Wb, 0, none⟩), opV x] w (WoPost cl w0 w Wb F L B calls (mkW st x)) := by
  obtain ⟨f0, f1, f2, f3, f4, f5⟩ := x
  have hb := fun X => below_alloc (Below.refl w.heap.size w) X
  obtain ⟨v, hWb⟩ := h.wb
  have hA := h.below (hb (.cells #[.int .i64 f0, .int .i64 f1, .int .i64 f2, .int .i64 f3, .int .i64 f4, .string f5] 39))
  have HM := hd_ (show mkW st ⟨f0, f1, f2, f3, f4, f5⟩ = if f1 = 3 then (st, 0, 2) else if f2 = 0 ∨ f2 = 1 then ({ st with l := makeF st.l f1 0 (decide (f2 = 1)) f5 ⟨#[]⟩ }, (makeV st.l f1 0 (decide (f2 = 1)) f5 ⟨#[]⟩).1, (makeV st.l f1 0 (decide (f2 = 1)) f5 ⟨#[]⟩).2) else (st, 0, 1) from rfl)
  simp only [opV]
  generalize mkW st ⟨f0, f1, f2, f3, f4, f5⟩ = mr at *
  by_cases k3 : f1 = 3
  · have HF := hd_ (HM.out.trans (if_pos k3))
    have q3 : (f1 == 3) = true := by simp [k3]
    have hno := hd_ (fun W hB => h.no (W := W) HF.out hB)
    clear HM k3 h hA hWb
    go_enter Tryz.func41, Tryz.ntmps41
    go_wp2
    go_ret2
    exact hno.out _ (hb _)
  · replace HM := hd_ (HM.out.trans (if_neg k3))
    have q3 : (f1 == 3) = false := by simp [k3]
    clear k3
    by_cases k0 : f2 = 0
    · subst k0
      have HF : Hd (mr = ({ st with l := makeF st.l f1 0 false f5 ⟨#[]⟩ }, (makeV st.l f1 0 false f5 ⟨#[]⟩).1, (makeV st.l f1 0 false f5 ⟨#[]⟩).2)) := ⟨by rw [HM.out]; simp⟩
      clear HM
      go_enter Tryz.func41, Tryz.ntmps41
      go_wp2
      refine start_ (n := 18) (S := (fun W_ => W_.heap[Wb]? = some (.cells #[.pointer (some ⟨F, 0, none⟩), .pointer (some ⟨L, 0, none⟩), .pointer (some ⟨B, 0, none⟩), .int .i64 calls, v] 64 (0, 0)) ∧ W_.heap[w.heap.size]? = some (.cells #[.int .i64 f0, .int .i64 f1, .int .i64 0, .int .i64 f3, .int .i64 f4, .string f5] 39 (0, 0)))) (ds := [13]) (bm 18 0) (by kernel_rfl) rfl (by kernel_rfl) ⟨blk_alloc hWb _, blk_new w _⟩ (fun hHeld => ?_)
      refine pu_ 0 (some 19) (bm 18 1) ?_
      refine pu_ 1 (some 20) (bm 18 3) ?_
      refine pu_ 2 (some 21) (bm 18 7) ?_
      refine pu_ 3 (some 22) (bm 18 15) ?_
      refine ta_ 4 (some 23) (bm 18 31) hHeld (fun _ hSw => (blk_cell hSw.1 0).trans rfl) ?_
      refine pu_ 5 (some 24) (bm 18 63) ?_
      refine ta_ 6 (some 25) (bm 18 127) hHeld (fun _ hSw => (blk_cell hSw.2 1).trans rfl) ?_
      refine pu_ 7 (some 26) (bm 18 255) ?_
      refine ta_ 8 (some 27) (bm 18 511) hHeld (fun _ hSw => (blk_cell hSw.2 2).trans rfl) ?_
      refine pu_ 9 (some 28) (bm 18 1023) ?_
      refine pu_ 10 (some 29) (bm 18 2047) ?_
      refine ta_ 11 (some 30) (bm 18 4095) hHeld (fun _ hSw => (blk_cell hSw.2 5).trans rfl) ?_
      refine pu_ 12 (some 31) (bm 18 8191) ?_
      refine last_ (i := 13) (N := (some 32)) (bm 18 16383) rfl rfl (by kernel_rfl) (by decide) (fun K hK => ?_)
      refine goes_ Tryz.func63 (by kernel_rfl) rfl #[.pointer (some ⟨F, 0, none⟩), .agg #[.int .i64 f1, .int .i64 0, .int .i64 0, .int .i64 0, .int .i64 0, .bool false, .string f5, .string ⟨#[]⟩, .slice none 0 0]] (by rfl) rfl rfl (by try simp only [List.map_toArray, List.map_cons, List.map_nil]; first | done | rfl) ?_
      refine ((hA.below (below_drew (Below.refl _ _))).fo.make f1 0 0 0 0 false f5 ⟨#[]⟩ none 0 0).mono ?_
      rintro e w5 ⟨rfl, hF5, hS5⟩
      refine ⟨_, rfl, ?_⟩
      refine hK.out _ _ ?_
      clear hK K
      refine norm_ (a' := ?_) ?_ ?_
      rotate_left
      · show Act.put _ (some 32) _ = _
        simp only [Act.put, List.setIfInBounds_toArray, List.set_cons_zero, List.set_cons_succ]
        rfl
      refine pu_ 14 (some 33) (bm 18 32767) ?_
      refine pu_ 15 (some 34) (bm 18 65535) ?_
      refine pu_ 16 (some 4) (bm 18 131071) ?_
      refine pu_ 17 (some 5) (bm 18 262143) ?_
      refine done_ (by kernel_rfl) ?_
      go_wp2
      go_ret2
      exact WoC.yes (WoStep.same (below_drew (hb _))) ((hA.below (below_drew (Below.refl _ _))).setF hF5 (h.wf.make f1 0 false f5 ⟨#[]⟩) hS5) HF.out
    · by_cases k1 : f2 = 1
      · subst k1
        clear k0
        have HF : Hd (mr = ({ st with l := makeF st.l f1 0 true f5 ⟨#[]⟩ }, (makeV st.l f1 0 true f5 ⟨#[]⟩).1, (makeV st.l f1 0 true f5 ⟨#[]⟩).2)) := ⟨by rw [HM.out]; simp⟩
        clear HM
        go_enter Tryz.func41, Tryz.ntmps41
        go_wp2
        refine start_ (n := 18) (S := (fun W_ => W_.heap[Wb]? = some (.cells #[.pointer (some ⟨F, 0, none⟩), .pointer (some ⟨L, 0, none⟩), .pointer (some ⟨B, 0, none⟩), .int .i64 calls, v] 64 (0, 0)) ∧ W_.heap[w.heap.size]? = some (.cells #[.int .i64 f0, .int .i64 f1, .int .i64 1, .int .i64 f3, .int .i64 f4, .string f5] 39 (0, 0)))) (ds := [13]) (bm 18 0) (by kernel_rfl) rfl (by kernel_rfl) ⟨blk_alloc hWb _, blk_new w _⟩ (fun hHeld => ?_)
        refine pu_ 0 (some 19) (bm 18 1) ?_
        refine pu_ 1 (some 20) (bm 18 3) ?_
        refine pu_ 2 (some 21) (bm 18 7) ?_
        refine pu_ 3 (some 22) (bm 18 15) ?_
        refine ta_ 4 (some 23) (bm 18 31) hHeld (fun _ hSw => (blk_cell hSw.1 0).trans rfl) ?_
        refine pu_ 5 (some 24) (bm 18 63) ?_
        refine ta_ 6 (some 25) (bm 18 127) hHeld (fun _ hSw => (blk_cell hSw.2 1).trans rfl) ?_
        refine pu_ 7 (some 26) (bm 18 255) ?_
        refine ta_ 8 (some 27) (bm 18 511) hHeld (fun _ hSw => (blk_cell hSw.2 2).trans rfl) ?_
        refine pu_ 9 (some 28) (bm 18 1023) ?_
        refine pu_ 10 (some 29) (bm 18 2047) ?_
        refine ta_ 11 (some 30) (bm 18 4095) hHeld (fun _ hSw => (blk_cell hSw.2 5).trans rfl) ?_
        refine pu_ 12 (some 31) (bm 18 8191) ?_
        refine last_ (i := 13) (N := (some 32)) (bm 18 16383) rfl rfl (by kernel_rfl) (by decide) (fun K hK => ?_)
        refine goes_ Tryz.func63 (by kernel_rfl) rfl #[.pointer (some ⟨F, 0, none⟩), .agg #[.int .i64 f1, .int .i64 0, .int .i64 0, .int .i64 0, .int .i64 0, .bool true, .string f5, .string ⟨#[]⟩, .slice none 0 0]] (by rfl) rfl rfl (by try simp only [List.map_toArray, List.map_cons, List.map_nil]; first | done | rfl) ?_
        refine ((hA.below (below_drew (Below.refl _ _))).fo.make f1 0 0 0 0 true f5 ⟨#[]⟩ none 0 0).mono ?_
        rintro e w5 ⟨rfl, hF5, hS5⟩
        refine ⟨_, rfl, ?_⟩
        refine hK.out _ _ ?_
        clear hK K
        refine norm_ (a' := ?_) ?_ ?_
        rotate_left
        · show Act.put _ (some 32) _ = _
          simp only [Act.put, List.setIfInBounds_toArray, List.set_cons_zero, List.set_cons_succ]
          rfl
        refine pu_ 14 (some 33) (bm 18 32767) ?_
        refine pu_ 15 (some 34) (bm 18 65535) ?_
        refine pu_ 16 (some 4) (bm 18 131071) ?_
        refine pu_ 17 (some 5) (bm 18 262143) ?_
        refine done_ (by kernel_rfl) ?_
        go_wp2
        go_ret2
        exact WoC.yes (WoStep.same (below_drew (hb _))) ((hA.below (below_drew (Below.refl _ _))).setF hF5 (h.wf.make f1 0 true f5 ⟨#[]⟩) hS5) HF.out
      · have HF := hd_ (HM.out.trans (if_neg (by simp [k0, k1])))
        have q0 : (f2 != 0) = true := by simp [k0]
        have q1 : (f2 != 1) = true := by simp [k1]
        have hno := hd_ (fun W hB => h.no (W := W) HF.out hB)
        clear HM k0 k1 h hA hWb
        go_enter Tryz.func41, Tryz.ntmps41
        go_wp2
        go_ret2
        exact hno.out _ (hb _)
/-- unlisten. -/
def unW (st : St) (node : Int) (x : S39) : St × Int × Int := if isN st.l node = false then (st, 0, 1) else if x.f3 = 0 ∨ x.f3 = 1 then ({ st with ls := (killR st.ls (findL st.ls node x.f5 x.f2 (decide (x.f3 = 1)))).1 }, findL st.ls node x.f5 x.f2 (decide (x.f3 = 1)), 0) else (st, 0, 1)
theorem unlisten_any {cl : Nat → Nat} {w0 w : World} {Wb F L B calls : Nat} {st : St} (h : WoC cl w0 w Wb F L B calls st) (node : Int) (x : S39) :
    Calls Tryz.prog 54 #[.pointer (some ⟨Wb, 0, none⟩), .int .i64 node, opV x] w (WoPost cl w0 w Wb F L B calls (unW st node x)) := by
  obtain ⟨f0, f1, f2, f3, f4, f5⟩ := x
  have hb := fun X => below_alloc (Below.refl w.heap.size w) X
  obtain ⟨v, hWb⟩ := h.wb
  obtain ⟨own, ps, hL, hown⟩ := h.li
  have hth := fun W (hB : Below w.heap.size w W) => wthere_any (h.below hB) node
  have HM := hd_ (show unW st node ⟨f0, f1, f2, f3, f4, f5⟩ = if isN st.l node = false then (st, 0, 1) else if f3 = 0 ∨ f3 = 1 then ({ st with ls := (killR st.ls (findL st.ls node f5 f2 (decide (f3 = 1)))).1 }, findL st.ls node f5 f2 (decide (f3 = 1)), 0) else (st, 0, 1) from rfl)
  simp only [opV]
  generalize unW st node ⟨f0, f1, f2, f3, f4, f5⟩ = ur at *
  generalize isN st.l node = bn at *
  cases bn with
  | false =>
    have HF := hd_ (HM.out.trans (if_pos rfl))
    have hno := hd_ (fun W hB => h.no (W := W) HF.out hB)
    clear HM h hL hown hWb
    go_enter Tryz.func54, Tryz.ntmps54
    go_wp2_with (go_at_call 83; (with_reducible refine (hth _ (hb _)).mono ?_); rintro e w1 ⟨rfl, hB1⟩; have hC1 := below_then (hb _) (hb _).size hB1)
    go_ret2
    exact hno.out _ hC1
  | true =>
    replace HM := hd_ (HM.out.trans (if_neg (by simp)))
    by_cases k0 : f3 = 0
    · subst k0
      have HF : Hd (ur = ({ st with ls := (killR st.ls (findL st.ls node f5 f2 false)).1 }, findL st.ls node f5 f2 false, 0)) := ⟨by rw [HM.out]; simp⟩
      clear HM
      go_enter Tryz.func54, Tryz.ntmps54
      go_wp2_with (go_at_call 83; (with_reducible refine (hth _ (hb _)).mono ?_); rintro e w1 ⟨rfl, hB1⟩; have hC1 := below_then (hb _) (hb _).size hB1; have hX1 := blk_below (blk_new w (.cells #[.int .i64 f0, .int .i64 f1, .int .i64 f2, .int .i64 0, .int .i64 f4, .string f5] 39)) hB1; have c3 : w1.cell? ⟨w.heap.size, 3, none⟩ = some (.int .i64 0) := blk_cell hX1 3)
      refine start_ (n := 15) (S := (fun W_ => W_.heap[Wb]? = some (.cells #[.pointer (some ⟨F, 0, none⟩), .pointer (some ⟨L, 0, none⟩), .pointer (some ⟨B, 0, none⟩), .int .i64 calls, v] 64 (0, 0)) ∧ W_.heap[w.heap.size]? = some (.cells #[.int .i64 f0, .int .i64 f1, .int .i64 f2, .int .i64 0, .int .i64 f4, .string f5] 39 (0, 0)))) (ds := [13]) (bm 15 0) (by kernel_rfl) rfl (by kernel_rfl) ⟨blk_below hWb (below_drew hC1), hX1⟩ (fun hHeld => ?_)
      refine pu_ 0 (some 23) (bm 15 1) ?_
      refine pu_ 1 (some 24) (bm 15 3) ?_
      refine pu_ 2 (some 25) (bm 15 7) ?_
      refine pu_ 3 (some 26) (bm 15 15) ?_
      refine ta_ 4 (some 27) (bm 15 31) hHeld (fun _ hSw => (blk_cell hSw.1 1).trans rfl) ?_
      refine pu_ 5 (some 28) (bm 15 63) ?_
      refine pu_ 6 (some 29) (bm 15 127) ?_
      refine ta_ 7 (some 30) (bm 15 255) hHeld (fun _ hSw => (blk_cell hSw.2 5).trans rfl) ?_
      refine pu_ 8 (some 31) (bm 15 511) ?_
      refine ta_ 9 (some 32) (bm 15 1023) hHeld (fun _ hSw => (blk_cell hSw.2 2).trans rfl) ?_
      refine pu_ 10 (some 33) (bm 15 2047) ?_
      refine ta_ 11 (some 34) (bm 15 4095) hHeld (fun _ hSw => (blk_cell hSw.2 3).trans rfl) ?_
      refine pu_ 12 (some 35) (bm 15 8191) ?_
      refine last_ (i := 13) (N := (some 36)) (bm 15 16383) rfl rfl (by kernel_rfl) (by decide) (fun K hK => ?_)
      refine goes_ Tryz.func88 (by kernel_rfl) rfl #[.pointer (some ⟨L, 0, none⟩), .int .i64 node, .string f5, .int .i64 f2, .bool false] (by rfl) rfl rfl (by try simp only [List.map_toArray, List.map_cons, List.map_nil]; first | done | rfl) ?_
      refine (find_any own w0 _ L ps st.ls node f5 f2 false (hL.below (below_drew hC1))).mono ?_
      rintro e w5 ⟨rfl, hw⟩
      obtain rfl := hw.symm
      refine ⟨_, rfl, ?_⟩
      refine hK.out _ _ ?_
      clear hK K
      refine norm_ (a' := ?_) ?_ ?_
      rotate_left
      · show Act.put _ (some 36) _ = _
        simp only [Act.put, List.setIfInBounds_toArray, List.set_cons_zero, List.set_cons_succ]
        rfl
      refine pu_ 14 (some 8) (bm 15 32767) ?_
      refine done_ (by kernel_rfl) ?_
      have z1 := (blk_cell (blk_below hWb (below_drew hC1)) 1).trans rfl
      generalize findL st.ls node f5 f2 false = fid at *
      have hki := kill_any own w0 w1.drew L ps st.ls fid (hL.below (below_drew hC1))
      have hWd := h.below (below_drew hC1)
      go_wp2_with (go_at_call 82; (with_reducible refine hki.mono ?_); rintro e w6 ⟨rfl, own', hL6, hS6⟩)
      go_ret2
      exact WoC.yes (WoStep.same (below_drew hC1)) (hWd.setL hown hL6 hS6) HF.out
    · by_cases k1 : f3 = 1
      · subst k1
        clear k0
        have HF : Hd (ur = ({ st with ls := (killR st.ls (findL st.ls node f5 f2 true)).1 }, findL st.ls node f5 f2 true, 0)) := ⟨by rw [HM.out]; simp⟩
        clear HM
        go_enter Tryz.func54, Tryz.ntmps54
        go_wp2_with (go_at_call 83; (with_reducible refine (hth _ (hb _)).mono ?_); rintro e w1 ⟨rfl, hB1⟩; have hC1 := below_then (hb _) (hb _).size hB1; have hX1 := blk_below (blk_new w (.cells #[.int .i64 f0, .int .i64 f1, .int .i64 f2, .int .i64 1, .int .i64 f4, .string f5] 39)) hB1; have c3 : w1.cell? ⟨w.heap.size, 3, none⟩ = some (.int .i64 1) := blk_cell hX1 3)
        refine start_ (n := 15) (S := (fun W_ => W_.heap[Wb]? = some (.cells #[.pointer (some ⟨F, 0, none⟩), .pointer (some ⟨L, 0, none⟩), .pointer (some ⟨B, 0, none⟩), .int .i64 calls, v] 64 (0, 0)) ∧ W_.heap[w.heap.size]? = some (.cells #[.int .i64 f0, .int .i64 f1, .int .i64 f2, .int .i64 1, .int .i64 f4, .string f5] 39 (0, 0)))) (ds := [13]) (bm 15 0) (by kernel_rfl) rfl (by kernel_rfl) ⟨blk_below hWb (below_drew hC1), hX1⟩ (fun hHeld => ?_)
        refine pu_ 0 (some 23) (bm 15 1) ?_
        refine pu_ 1 (some 24) (bm 15 3) ?_
        refine pu_ 2 (some 25) (bm 15 7) ?_
        refine pu_ 3 (some 26) (bm 15 15) ?_
        refine ta_ 4 (some 27) (bm 15 31) hHeld (fun _ hSw => (blk_cell hSw.1 1).trans rfl) ?_
        refine pu_ 5 (some 28) (bm 15 63) ?_
        refine pu_ 6 (some 29) (bm 15 127) ?_
        refine ta_ 7 (some 30) (bm 15 255) hHeld (fun _ hSw => (blk_cell hSw.2 5).trans rfl) ?_
        refine pu_ 8 (some 31) (bm 15 511) ?_
        refine ta_ 9 (some 32) (bm 15 1023) hHeld (fun _ hSw => (blk_cell hSw.2 2).trans rfl) ?_
        refine pu_ 10 (some 33) (bm 15 2047) ?_
        refine ta_ 11 (some 34) (bm 15 4095) hHeld (fun _ hSw => (blk_cell hSw.2 3).trans rfl) ?_
        refine pu_ 12 (some 35) (bm 15 8191) ?_
        refine last_ (i := 13) (N := (some 36)) (bm 15 16383) rfl rfl (by kernel_rfl) (by decide) (fun K hK => ?_)
        refine goes_ Tryz.func88 (by kernel_rfl) rfl #[.pointer (some ⟨L, 0, none⟩), .int .i64 node, .string f5, .int .i64 f2, .bool true] (by rfl) rfl rfl (by try simp only [List.map_toArray, List.map_cons, List.map_nil]; first | done | rfl) ?_
        refine (find_any own w0 _ L ps st.ls node f5 f2 true (hL.below (below_drew hC1))).mono ?_
        rintro e w5 ⟨rfl, hw⟩
        obtain rfl := hw.symm
        refine ⟨_, rfl, ?_⟩
        refine hK.out _ _ ?_
        clear hK K
        refine norm_ (a' := ?_) ?_ ?_
        rotate_left
        · show Act.put _ (some 36) _ = _
          simp only [Act.put, List.setIfInBounds_toArray, List.set_cons_zero, List.set_cons_succ]
          rfl
        refine pu_ 14 (some 8) (bm 15 32767) ?_
        refine done_ (by kernel_rfl) ?_
        have z1 := (blk_cell (blk_below hWb (below_drew hC1)) 1).trans rfl
        generalize findL st.ls node f5 f2 true = fid at *
        have hki := kill_any own w0 w1.drew L ps st.ls fid (hL.below (below_drew hC1))
        have hWd := h.below (below_drew hC1)
        go_wp2_with (go_at_call 82; (with_reducible refine hki.mono ?_); rintro e w6 ⟨rfl, own', hL6, hS6⟩)
        go_ret2
        exact WoC.yes (WoStep.same (below_drew hC1)) (hWd.setL hown hL6 hS6) HF.out
      · have HF := hd_ (HM.out.trans (if_neg (by simp [k0, k1])))
        have q0 : (f3 != 0) = true := by simp [k0]
        have q1 : (f3 != 1) = true := by simp [k1]
        have hno := hd_ (fun W hB => h.no (W := W) HF.out hB)
        clear HM k0 k1 h hL hown hWb
        go_enter Tryz.func54, Tryz.ntmps54
        go_wp2_with (go_at_call 83; (with_reducible refine (hth _ (hb _)).mono ?_); rintro e w1 ⟨rfl, hB1⟩; have hC1 := below_then (hb _) (hb _).size hB1; have hX1 := blk_below (blk_new w (.cells #[.int .i64 f0, .int .i64 f1, .int .i64 f2, .int .i64 f3, .int .i64 f4, .string f5] 39)) hB1; have c3 : w1.cell? ⟨w.heap.size, 3, none⟩ = some (.int .i64 f3) := blk_cell hX1 3)
        go_ret2
        exact hno.out _ hC1
end Go.Proofs.YtgopddjmmoohdaaGreatDoor

/- world: flag, event. -/
set_option linter.unusedSimpArgs false
set_option linter.unusedVariables false
set_option maxRecDepth 100000
set_option maxHeartbeats 3200000
namespace Go.Proofs.YtgopddjmmoohdaaGreatDoor
open Go.RowKit Go.Proofs.YtgopddjmmoohdaaGreatDoorW.PrintWords Go.Proofs.YtgopddjmmoohdaaGreatDoorW.PrintLast Go.Proofs.YtgopddjmmoohdaaGreatDoor.PPlaySilent

/-- flag. -/
def flagW (st : St) (id code : Int) : St × Int × Int := match evF st.ev id with
  | none => (st, 0, 1)
  | some e => if code = 14 then ({ st with ev := st.ev.set (id - 1).toNat (prevF e) }, if prevA e = true then 1 else 0, 0) else if code = 15 then ({ st with ev := st.ev.set (id - 1).toNat { e with fl := { e.fl with f4 := true } } }, 0, 0) else ({ st with ev := st.ev.set (id - 1).toNat { e with fl := { e.fl with f4 := true, f5 := true } } }, 0, 0)
theorem flag14_any {cl : Nat → Nat} {w0 w : World} {Wb F L B calls : Nat} {st : St} (h : WoC cl w0 w Wb F L B calls st) (hO : LayO w) (id : Int) :
    Calls Tryz.prog 56 #[.pointer (some ⟨Wb, 0, none⟩), .int .i64 id, .int .i64 14] w (WoPost cl w0 w Wb F L B calls (flagW st id 14)) := by
  have hnm := oname_any 14 w hO
  rw [show nameW 14 = ⟨#[112, 114, 101, 118, 101, 110, 116]⟩ from rfl] at hnm
  cases hn : evF st.ev id with
  | none =>
    have hc := event_none h hn
    have HF : Hd (flagW st id 14 = (st, 0, 1)) := ⟨by unfold flagW; rw [hn]⟩
    have hno := hd_ (fun W hB => h.no (W := W) HF.out hB)
    clear h hn
    go_enter Tryz.func56, Tryz.ntmps56
    go_wp2_with (go_at_call 11; (with_reducible refine hc.mono ?_); rintro e w1 ⟨rfl, hw⟩; obtain rfl := hw.symm)
    go_ret2
    exact hno.out _ (Below.refl _ _)
  | some e =>
    obtain ⟨b, A, c, hcl, hb, -, -, -, hup⟩ := h.event hn
    have hfl := prevent_any b e _ w hb
    have hpp : Hd ((prevF e).path = e.path) := ⟨by unfold prevF; split; split; rfl; rfl; rfl⟩
    cases hpa : prevA e with
    | true =>
      have HF : Hd (flagW st id 14 = ({ st with ev := st.ev.set (id - 1).toNat (prevF e) }, 1, 0)) := ⟨by unfold flagW; rw [hn]; simp only; rw [if_pos trivial, hpa]; rfl⟩
      rw [hpa] at hfl
      clear h hn hpa hb
      go_enter Tryz.func56, Tryz.ntmps56
      go_wp2_with (first
        | (go_at_call 11; (with_reducible refine (hcl w (Below.refl _ _)).mono ?_); rintro r w1 ⟨rfl, hw⟩; obtain rfl := hw.symm)
        | (go_at_call 23; (with_reducible refine hnm.mono ?_); rintro r w1 ⟨rfl, hw⟩; obtain rfl := hw.symm)
        | (go_at_call 90; (with_reducible refine hfl.mono ?_); rintro r w5 ⟨rfl, hE5, hS5⟩))
      go_ret2
      exact WoC.yes (WoStep.same (Below.refl _ _)) (hup _ _ _ hS5 hE5 (.inl ⟨rfl, hpp.out⟩)) HF.out
    | false =>
      have HF : Hd (flagW st id 14 = ({ st with ev := st.ev.set (id - 1).toNat (prevF e) }, 0, 0)) := ⟨by unfold flagW; rw [hn]; simp only; rw [if_pos trivial, hpa]; rfl⟩
      rw [hpa] at hfl
      clear h hn hpa hb
      go_enter Tryz.func56, Tryz.ntmps56
      go_wp2_with (first
        | (go_at_call 11; (with_reducible refine (hcl w (Below.refl _ _)).mono ?_); rintro r w1 ⟨rfl, hw⟩; obtain rfl := hw.symm)
        | (go_at_call 23; (with_reducible refine hnm.mono ?_); rintro r w1 ⟨rfl, hw⟩; obtain rfl := hw.symm)
        | (go_at_call 90; (with_reducible refine hfl.mono ?_); rintro r w5 ⟨rfl, hE5, hS5⟩))
      go_ret2
      exact WoC.yes (WoStep.same (Below.refl _ _)) (hup _ _ _ hS5 hE5 (.inl ⟨rfl, hpp.out⟩)) HF.out
theorem flag15_any {cl : Nat → Nat} {w0 w : World} {Wb F L B calls : Nat} {st : St} (h : WoC cl w0 w Wb F L B calls st) (hO : LayO w) (id : Int) :
    Calls Tryz.prog 56 #[.pointer (some ⟨Wb, 0, none⟩), .int .i64 id, .int .i64 15] w (WoPost cl w0 w Wb F L B calls (flagW st id 15)) := by
  have hnm := oname_any 15 w hO
  rw [show nameW 15 = ⟨#[115, 116, 111, 112]⟩ from rfl] at hnm
  cases hn : evF st.ev id with
  | none =>
    have hc := event_none h hn
    have HF : Hd (flagW st id 15 = (st, 0, 1)) := ⟨by unfold flagW; rw [hn]⟩
    have hno := hd_ (fun W hB => h.no (W := W) HF.out hB)
    clear h hn
    go_enter Tryz.func56, Tryz.ntmps56
    go_wp2_with (go_at_call 11; (with_reducible refine hc.mono ?_); rintro e w1 ⟨rfl, hw⟩; obtain rfl := hw.symm)
    go_ret2
    exact hno.out _ (Below.refl _ _)
  | some e =>
    obtain ⟨b, A, c, hcl, hb, -, -, -, hup⟩ := h.event hn
    have hfl := stop_any b e _ w hb
    have HF : Hd (flagW st id 15 = ({ st with ev := st.ev.set (id - 1).toNat { e with fl := { e.fl with f4 := true } } }, 0, 0)) := ⟨by unfold flagW; rw [hn]; rfl⟩
    clear h hn hb
    go_enter Tryz.func56, Tryz.ntmps56
    go_wp2_with (first
      | (go_at_call 11; (with_reducible refine (hcl w (Below.refl _ _)).mono ?_); rintro r w1 ⟨rfl, hw⟩; obtain rfl := hw.symm)
      | (go_at_call 23; (with_reducible refine hnm.mono ?_); rintro r w1 ⟨rfl, hw⟩; obtain rfl := hw.symm)
      | (go_at_call 91; (with_reducible refine hfl.mono ?_); rintro r w5 ⟨rfl, hE5, hS5⟩))
    go_ret2
    exact WoC.yes (WoStep.same (Below.refl _ _)) (hup _ _ _ hS5 hE5 (.inl ⟨rfl, rfl⟩)) HF.out
theorem flag16_any {cl : Nat → Nat} {w0 w : World} {Wb F L B calls : Nat} {st : St} (h : WoC cl w0 w Wb F L B calls st) (hO : LayO w) (id : Int) :
    Calls Tryz.prog 56 #[.pointer (some ⟨Wb, 0, none⟩), .int .i64 id, .int .i64 16] w (WoPost cl w0 w Wb F L B calls (flagW st id 16)) := by
  have hnm := oname_any 16 w hO
  rw [show nameW 16 = ⟨#[115, 116, 111, 112, 110, 111, 119]⟩ from rfl] at hnm
  cases hn : evF st.ev id with
  | none =>
    have hc := event_none h hn
    have HF : Hd (flagW st id 16 = (st, 0, 1)) := ⟨by unfold flagW; rw [hn]⟩
    have hno := hd_ (fun W hB => h.no (W := W) HF.out hB)
    clear h hn
    go_enter Tryz.func56, Tryz.ntmps56
    go_wp2_with (go_at_call 11; (with_reducible refine hc.mono ?_); rintro e w1 ⟨rfl, hw⟩; obtain rfl := hw.symm)
    go_ret2
    exact hno.out _ (Below.refl _ _)
  | some e =>
    obtain ⟨b, A, c, hcl, hb, -, -, -, hup⟩ := h.event hn
    have hfl := stopn_any b e _ w hb
    have HF : Hd (flagW st id 16 = ({ st with ev := st.ev.set (id - 1).toNat { e with fl := { e.fl with f4 := true, f5 := true } } }, 0, 0)) := ⟨by unfold flagW; rw [hn]; rfl⟩
    clear h hn hb
    go_enter Tryz.func56, Tryz.ntmps56
    go_wp2_with (first
      | (go_at_call 11; (with_reducible refine (hcl w (Below.refl _ _)).mono ?_); rintro r w1 ⟨rfl, hw⟩; obtain rfl := hw.symm)
      | (go_at_call 23; (with_reducible refine hnm.mono ?_); rintro r w1 ⟨rfl, hw⟩; obtain rfl := hw.symm)
      | (go_at_call 92; (with_reducible refine hfl.mono ?_); rintro r w5 ⟨rfl, hE5, hS5⟩))
    go_ret2
    exact WoC.yes (WoStep.same (Below.refl _ _)) (hup _ _ _ hS5 hE5 (.inl ⟨rfl, rfl⟩)) HF.out
/-- event. -/
def evW (st : St) (rel : Int) (x : S39) : St × Int × Int := if bitsB x.f1 = false then (st, 0, 1) else if (rel != 0 && !isN st.l rel) = true then (st, 0, 1) else if rightW x.f5.data.toList = false then (st, 0, 1) else if 128 ≤ st.ev.length then (st, 0, 9) else ({ st with ev := st.ev ++ [newEv x.f5 rel (hasB x.f1 1) (hasB x.f1 2) (hasB x.f1 4)] }, (st.ev.length : Int) + 1, 0)
/-- An event is put behind all. -/
theorem WoC.pushE {cl : Nat → Nat} {w0 w w1 : World} {Wb F L B calls : Nat} {st : St} (h : WoC cl w0 w Wb F L B calls st) {v v1 : Value} {bs : List Nat} {own : Nat → Nat} {eb : Nat} {e : EvS} {W : World} (hB : Below w.heap.size w W) (hWb : w.heap[Wb]? = some (.cells #[.pointer (some ⟨F, 0, none⟩), .pointer (some ⟨L, 0, none⟩), .pointer (some ⟨B, 0, none⟩), .int .i64 calls, v] 64 (0, 0))) (hE : EvL own w0 w v bs st.ev) (hown : ∀ k, own k ≠ 0 → cl k = 4)
    (heb : W.heap[eb]? = some (.cells (evC e (.slice none 0 0)) 46 (0, 0))) (hew : w.heap.size ≤ eb) (hep : e.path = []) (hl : st.ev.length < 128) {ok1 : Nat → Prop} (hR : KdP.R 42 w1 w0.heap.size ok1 v1 (bs ++ [eb])) (hB1 : Below w0.heap.size W w1) (hg : W.grownBy w1 v.ownBlock) (hat : v1.ownBlock = v.ownBlock ∨ ∃ b, v1.ownBlock = some b ∧ W.heap.size ≤ b) :
    WoC (clX cl 4 w.heap.size (w1.setCell ⟨Wb, 4, none⟩ v1).heap.size) w0 (w1.setCell ⟨Wb, 4, none⟩ v1) Wb F L B calls { st with ev := st.ev ++ [e] } ∧ WoStep cl (clX cl 4 w.heap.size (w1.setCell ⟨Wb, 4, none⟩ v1).heap.size) w (w1.setCell ⟨Wb, 4, none⟩ v1) := by
  obtain ⟨o1, ps, h1, h2⟩ := h.li
  obtain ⟨o3, sl, h3, h4, h5⟩ := h.bo
  have hS1 := grown_ste hg ⟨hB1.os, hB1.tape, hB1.output, hB1.size, fun k hk => absurd hk (Nat.not_lt_zero k)⟩
  have hsz : (w1.setCell ⟨Wb, 4, none⟩ v1).heap.size = w1.heap.size := by simp
  have hsW := hB.size
  have hs1 := hS1.size
  have hSt : Ste (fun k => cl k = 4 ∨ k = Wb) w (w1.setCell ⟨Wb, 4, none⟩ v1) := ((Ste.of_below hB).trans hS1 (fun k hk => .inl (.inl (hown k (by rw [hE.row.1 k hk]; decide))))).trans (setCell_ste w1 Wb 4 v1) (fun k hk => .inl (.inr hk))
  have hW5 : ∀ {c : Nat} {k : Nat}, cl k = c → c ≠ 5 → k ≠ Wb := fun hk hc e => hc (by rw [← hk, e]; exact h.cw)
  have hd : ∀ {c : Nat} {k : Nat}, cl k = c → c ≠ 4 → c ≠ 5 → ¬ (cl k = 4 ∨ k = Wb) := fun hk h4' h5' e => e.elim (fun e => h4' (hk.symm.trans e)) (hW5 hk h5')
  have hl0 : ∀ k, (cl k = 4 ∨ k = Wb) → w0.heap.size ≤ k := fun k hk => hk.elim (fun e => (h.lo k (by rw [e]; decide)).1) (fun e => by rw [e]; exact (h.lo Wb (by rw [h.cw]; decide)).1)
  have hvW : v.ownBlock ≠ some Wb := fun e => Kd.R_ne hE.row hWb (by decide) e.symm
  have hX := hS1.blk (blk_below hWb hB) hvW
  have hz : ∀ k, own k ≠ 0 → k < w.heap.size := fun k hk => (hE.lo k hk).2
  have hebl := blk_lt heb
  have hvl := Kd.R_lt hE.row
  have hve : v1.ownBlock ≠ some eb := fun e1 => by
    rcases hat with e2 | ⟨b, e2, hb⟩
    · rw [e2] at e1; have := hvl eb e1; omega
    · rw [e2] at e1; cases e1; omega
  have hWne : eb ≠ Wb := fun e => by have := blk_lt hWb; omega
  refine ⟨⟨h.lox (by rw [hsz]; omega), hSt.base h.base h.base.size hl0, h.clo h.cw (by decide), ?_, h.wf, ⟨o1, ps, h1.ste hSt (fun k hk => hd (h2 k hk) (by decide) (by decide)) hl0, fun k hk => h.clo (h2 k hk) (by decide)⟩, ⟨o3, sl, h3.ste hSt (fun k hk => hd (h5 k hk) (by decide) (by decide)) hl0, h4, fun k hk => h.clo (h5 k hk) (by decide)⟩, ⟨fun k => if k < w.heap.size then own k else if v1.ownBlock = some k then 1 else if k = eb then 2 + 2 * st.ev.length else 0, v1, bs ++ [eb], blk_put hX 4 v1 rfl, ⟨fun k hk => ?_, ?_, by simp [hE.bn], ?_, fun i t hi => ?_⟩, fun k hk => ?_⟩⟩, hSt.mono (fun k hk => .inl (hk.elim (fun e => by rw [e]; decide) (fun e => by rw [e, h.cw]; decide))), fun k hk => ?_⟩
  · exact (h.fo.ste hSt (fun k hk => hd hk (by decide) (by decide)) hl0).mono (fun k hk => h.clo hk (by decide)) (fun k hk => h.lox (by rw [hsz]; omega) k (by rw [hk]; decide))
  · try dsimp only at hk
    split at hk
    · exact ⟨(hE.lo k hk).1, by rw [hsz]; omega⟩
    · split at hk
      · rename_i e1; exact ⟨Nat.le_trans h.base.size (by omega), by rw [hsz]; exact Kd.R_lt hR k e1⟩
      · split at hk
        · rename_i e1; exact ⟨Nat.le_trans h.base.size (by omega), by rw [hsz]; omega⟩
        · exact absurd rfl hk
  · rw [List.length_append, List.length_singleton]; omega
  · refine Kd.R_mono (R_ste (Kd.R_tight rfl hR) (setCell_ste w1 Wb 4 v1) (fun k hk e => ?_)) (fun k hk => ?_)
    · rcases hat with e2 | ⟨b, e2, hb⟩
      · rw [e2] at hk; exact hvW (by rw [← hk, show k = Wb from e])
      · rw [e2] at hk; cases hk; have := blk_lt hWb; have : k = Wb := e; omega
    · rcases hat with e2 | ⟨b, e2, hb⟩
      · have hk' := hk.symm
        rw [e2] at hk'
        rw [if_pos (hvl k hk')]
        exact hE.row.1 k hk'
      · have hk' : v1.ownBlock = some k := hk.symm
        rw [if_neg (by rw [e2] at hk'; cases hk'; omega), if_pos hk']
  · by_cases hlt : i < st.ev.length
    · rw [List.getElem?_append_left hlt] at hi
      obtain ⟨b, hb, hBb⟩ := hE.ent i t hi
      refine ⟨b, by rw [List.getElem?_append_left (by rw [hE.bn]; exact hlt)]; exact hb, ?_⟩
      have hSo : Ste (fun k => own k = 1 ∨ k = Wb) w (w1.setCell ⟨Wb, 4, none⟩ v1) := ((Ste.of_below hB).trans hS1 (fun k hk => .inl (.inl (hE.row.1 k hk)))).trans (setCell_ste w1 Wb 4 v1) (fun k hk => .inl (.inr hk))
      have h9 := hBb.ste hSo (fun k hk e => by
        rcases e with e | e
        · omega
        · have := hown k (by omega); rw [e, h.cw] at this; omega)
      obtain ⟨pv, h10, h11⟩ := h9.row
      exact ⟨(if_pos (hz b (by rw [hBb.ob]; omega))).trans hBb.ob, pv, h10, Kd.R_mono h11 (fun k hk => (if_pos (hz k (by rw [hk]; omega))).trans hk)⟩
    · have hie : i = st.ev.length := by have := (List.getElem?_eq_some_iff.1 hi).1; simp at this; omega
      subst hie
      rw [List.getElem?_append_right (Nat.le_refl _), Nat.sub_self] at hi
      simp only [List.getElem?_cons_zero, Option.some.injEq] at hi
      subst hi
      refine ⟨eb, by rw [List.getElem?_append_right (by rw [hE.bn]; exact Nat.le_refl _), hE.bn, Nat.sub_self]; rfl, ?_, .slice none 0 0, ?_, by rw [hep]; exact Kd.R_nil _ _ _ _ _⟩
      · show (if eb < w.heap.size then own eb else if v1.ownBlock = some eb then 1 else if eb = eb then 2 + 2 * st.ev.length else 0) = _
        rw [if_neg (by omega), if_neg hve, if_pos rfl]
      · exact (Below.heap_setCell _ _ _ eb hWne).trans (hS1.blk heb (fun e => by have := hvl eb e; omega))
  · try dsimp only at hk
    split at hk
    · exact h.clo (hown k hk) (by decide)
    · rename_i hge
      refine clX_new (by omega) ?_
      rw [hsz]
      split at hk
      · rename_i e1; exact Kd.R_lt hR k e1
      · split at hk
        · rename_i e1; omega
        · exact absurd rfl hk
  · unfold clX at hk
    split at hk
    · rename_i e; exact .inr e.1
    · exact .inl hk
end Go.Proofs.YtgopddjmmoohdaaGreatDoor
