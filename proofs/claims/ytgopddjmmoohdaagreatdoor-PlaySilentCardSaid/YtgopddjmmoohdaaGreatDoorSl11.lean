/- The texts of this seat, joined: part 11 of 25. -/
import Derived.Test.YtgopddjmmoohdaaGreatDoorSl10
import Derived.Test.YtgopddjmmoohdaaGreatDoorSl01
import Derived.Laws.EntriesVeiled
/- signal: Give, its state. -/
set_option linter.unusedSimpArgs false
set_option linter.unusedVariables false
set_option maxRecDepth 100000
set_option maxHeartbeats 1600000
namespace Go.Proofs.YtgopddjmmoohdaaGreatDoor
open Go.RowKit Go.Proofs.YtgopddjmmoohdaaGreatDoorW.PrintWords Go.Proofs.YtgopddjmmoohdaaGreatDoorW.PrintLast Go.Proofs.YtgopddjmmoohdaaGreatDoor.PPlaySilent

/-- How many entries aren't given yet. -/
def opens (l : List SigS) : Nat := l.countP (fun s => !s.shut)
theorem opens_set : ∀ {l : List SigS} {j : Nat} {s : SigS} (s' : SigS), l[j]? = some s → opens (l.set j s') + (if s.shut then 0 else 1) = opens l + (if s'.shut then 0 else 1)
  | [], j, s, s', h => by simp at h
  | a :: l, 0, s, s', h => by
    simp at h
    subst h
    unfold opens
    rw [List.set_cons_zero, List.countP_cons, List.countP_cons]
    cases a.shut <;> cases s'.shut <;> simp <;> omega
  | a :: l, j + 1, s, s', h => by
    have := opens_set (l := l) (j := j) s' (by simpa using h)
    unfold opens at this ⊢
    rw [List.set_cons_succ, List.countP_cons, List.countP_cons]
    omega
theorem obs_set {l : List SigS} {j : Nat} {s s' : SigS} (hj : l[j]? = some s) (hob : s'.ob = s.ob) : (l.set j s').map (·.ob) = l.map (·.ob) := by
  refine List.ext_getElem? (fun i => ?_)
  rw [List.getElem?_map, List.getElem?_map, List.getElem?_set]
  split
  · rename_i e
    subst e
    have hlt := (List.getElem?_eq_some_iff.1 hj).1
    rw [if_pos hlt, hj, Option.map_some, Option.map_some, hob]
  · rfl
/-- Entry j has been written, in its own blocks; nothing was laid for it. -/
theorem BoC.upd0 {own : Nat → Nat} {w0 w w' : World} {B j : Nat} {l : List SigS} {s s' : SigS} (h : BoC own w0 w B l) (hj : l[j]? = some s) (hob : s'.ob = s.ob) (hs : Ste (fun k => own k = j + 2) w w') (hE : EntC (fun k => own k = j + 2) w0 w' s') :
    BoC own w0 w' B (l.set j s') := by
  obtain ⟨v, h1, h2⟩ := h.row
  refine ⟨h.pb, fun k hk => ⟨(h.lo k hk).1, Nat.lt_of_lt_of_le (h.lo k hk).2 hs.size⟩, hs.base h.base h.base.size (fun k hk => (h.lo k (by rw [hk]; omega)).1), by simpa using h.len, ⟨v, hs.blk h1 (by rw [h.pb]; omega), ?_⟩, fun i t hi => ?_⟩
  · rw [obs_set hj hob]
    refine R_ste h2 hs (fun k hk he => ?_)
    rw [hk.1] at he
    omega
  · rw [List.getElem?_set] at hi
    split at hi
    · rename_i e
      subst e
      split at hi
      · cases hi
        exact hE
      · cases hi
    · rename_i e
      refine (h.ent i t hi).ste hs (fun k hk he => ?_)
      rw [hk] at he
      omega
/-- A latch is shut. -/
theorem EntC.close {P : Nat → Prop} {w0 w w' : World} {s : SigS} (h : EntC P w0 w s) (hs : Ste (fun k => k = s.lb) w w') (hl : w'.heap[s.lb]? = some (latchB true)) : EntC P w0 w' { s with shut := true } := by
  obtain ⟨v, v2, h1, h2, h3⟩ := h.row
  have hla : ∃ cs, w.heap[s.lb]? = some (.cells cs 195 (0, 0)) := by
    have := h.latch
    unfold latchB latchS latchO at this
    split at this
    · exact ⟨_, this⟩
    · exact ⟨_, this⟩
  obtain ⟨cs, hla⟩ := hla
  refine ⟨h.po, h.pl, hl, v, v2, hs.blk h1 (fun e => by rw [e, hla] at h1; cases h1), ?_, ?_⟩
  · refine Kd.R_mono (R_ste (Kd.R_tight rfl h2) hs (fun k hk e => ?_)) (fun k hk => h2.1 k hk.symm)
    subst e
    exact Kd.R_ne h2 hla (by decide) hk
  · refine Kd.R_mono (R_ste (Kd.R_tight rfl h3) hs (fun k hk e => ?_)) (fun k hk => h3.1 k hk.symm)
    subst e
    exact Kd.R_ne h3 hla (by decide) hk
/-- Tags are taken. -/
theorem EntC.take {P : Nat → Prop} {w0 w : World} {s : SigS} (h : EntC P w0 w s) : EntC P w0 (w.setCell ⟨s.ob, 2, none⟩ (.slice none 0 0)) { s with tags := [] } := by
  obtain ⟨v, v2, h1, h2, h3⟩ := h.row
  have hla : ∃ cs, w.heap[s.lb]? = some (.cells cs 195 (0, 0)) := by
    have := h.latch
    unfold latchB latchS latchO at this
    split at this
    · exact ⟨_, this⟩
    · exact ⟨_, this⟩
  obtain ⟨cs, hla⟩ := hla
  have hs := setCell_ste w s.ob 2 (.slice none 0 0)
  refine ⟨h.po, h.pl, hs.blk h.latch (fun e => by rw [show s.lb = s.ob from e, h1] at hla; cases hla), v, .slice none 0 0, blk_put h1 2 _ rfl, ?_, Kd.R_nil _ _ _ _ _⟩
  refine Kd.R_mono (R_ste (Kd.R_tight rfl h2) hs (fun k hk e => ?_)) (fun k hk => h2.1 k hk.symm)
  obtain rfl : k = s.ob := e
  exact Kd.R_ne h2 h1 (by decide) hk
/-- Within Give: the board, and what its functions hold. -/
structure GvC (own : Nat → Nat) (w0 w : World) (B outb gb bb n0 : Nat) (l : List SigS) (v : Value) (xs : List Int) : Prop where
  bo : BoC own w0 w B l
  tl : ∀ s ∈ l, s.tags.length ≤ 100000
  hb : w.heap[bb]? = some (.cells #[.pointer (some ⟨B, 0, none⟩)] 59 (0, 0))
  hg : w.heap[gb]? = some (.cells #[.func (.func 127) #[] #[.pointer (some ⟨bb, 0, none⟩), .pointer (some ⟨outb, 0, none⟩), .pointer (some ⟨gb, 0, none⟩)]] 87 (0, 0))
  ho : w.heap[outb]? = some (.cells #[v] 32 (0, 0))
  out : (Kd.int .i64).R 3 w n0 (fun k => own k = 0) v xs
  b0 : own bb = 0 ∧ own gb = 0 ∧ own outb = 0
  nn : w0.heap.size ≤ n0 ∧ n0 ≤ w.heap.size ∧ n0 ≤ outb
/-- A step within Give: what it may write; the out row it leaves. -/
structure GvStep (own : Nat → Nat) (outb : Nat) (l : List SigS) (v : Value) (w : World) (l' : List SigS) (v' : Value) (w' : World) : Prop where
  ste : Ste (fun k => 2 ≤ own k ∨ k = outb ∨ v.ownBlock = some k) w w'
  new : ∀ k, v'.ownBlock = some k → v.ownBlock = some k ∨ w.heap.size ≤ k
  obs : l'.map (·.ob) = l.map (·.ob)
  opn : opens l' ≤ opens l
theorem GvStep.refl (own : Nat → Nat) (outb : Nat) (l : List SigS) (v : Value) (w : World) : GvStep own outb l v w l v w := ⟨Ste.refl _ _, fun _ h => .inl h, rfl, Nat.le_refl _⟩
theorem GvStep.trans {own : Nat → Nat} {outb : Nat} {l l1 l2 : List SigS} {v v1 v2 : Value} {w w1 w2 : World} (h : GvStep own outb l v w l1 v1 w1) (h1 : GvStep own outb l1 v1 w1 l2 v2 w2) : GvStep own outb l v w l2 v2 w2 := by
  refine ⟨h.ste.trans h1.ste (fun k hk => ?_), fun k hk => ?_, h1.obs.trans h.obs, Nat.le_trans h1.opn h.opn⟩
  · rcases hk with hk | hk | hk
    · exact .inl (.inl hk)
    · exact .inl (.inr (.inl hk))
    · exact (h.new k hk).elim (fun e => .inl (.inr (.inr e))) .inr
  · exact (h1.new k hk).elim (fun e => h.new k e) (fun e => .inr (Nat.le_trans h.ste.size e))
theorem GvStep.below {own : Nat → Nat} {outb : Nat} {l : List SigS} {v : Value} {w w1 : World} (hb : Below w.heap.size w w1) : GvStep own outb l v w l v w1 := ⟨Ste.of_below hb, fun _ h => .inl h, rfl, Nat.le_refl _⟩
theorem GvC.below {own : Nat → Nat} {w0 w w' : World} {B outb gb bb n0 : Nat} {l : List SigS} {v : Value} {xs : List Int} (h : GvC own w0 w B outb gb bb n0 l v xs) (hb : Below w.heap.size w w') : GvC own w0 w' B outb gb bb n0 l v xs :=
  ⟨h.bo.below hb, h.tl, blk_below h.hb hb, blk_below h.hg hb, blk_below h.ho hb, Kd.R_below h.out hb, h.b0, h.nn.1, Nat.le_trans h.nn.2.1 hb.size, h.nn.2.2⟩
theorem GvC.zero {own : Nat → Nat} {w0 w : World} {B outb gb bb n0 : Nat} {l : List SigS} {v : Value} {xs : List Int} (h : GvC own w0 w B outb gb bb n0 l v xs) {k : Nat} (hk : w.heap.size ≤ k) : own k = 0 := by
  by_cases e : own k = 0
  · exact e
  · have := (h.bo.lo k e).2; omega
/-- Entry j has been written in its own blocks. -/
theorem GvC.upd {own : Nat → Nat} {w0 w w' : World} {B outb gb bb n0 j : Nat} {l : List SigS} {v : Value} {xs : List Int} {s s' : SigS} (h : GvC own w0 w B outb gb bb n0 l v xs) (hj : l[j]? = some s) (hob : s'.ob = s.ob) (ht : s'.tags.length ≤ 100000) (hs : Ste (fun k => own k = j + 2) w w') (hE : EntC (fun k => own k = j + 2) w0 w' s') :
    GvC own w0 w' B outb gb bb n0 (l.set j s') v xs := by
  obtain ⟨b1, b2, b3⟩ := h.b0
  refine ⟨h.bo.upd0 hj hob hs hE, fun t ht' => ?_, hs.blk h.hb (by omega), hs.blk h.hg (by omega), hs.blk h.ho (by omega), R_ste h.out hs (fun k hk e => by omega), h.b0, h.nn.1, Nat.le_trans h.nn.2.1 hs.size, h.nn.2.2⟩
  rcases List.mem_or_eq_of_mem_set ht' with ht' | rfl
  · exact h.tl t ht'
  · exact ht
/-- The out row has been written. -/
theorem GvC.outs {own : Nat → Nat} {w0 w w1 : World} {B outb gb bb n0 : Nat} {l : List SigS} {v v1 : Value} {xs ys : List Int} (h : GvC own w0 w B outb gb bb n0 l v xs) (hR1 : (Kd.int .i64).R 3 w1 n0 (fun k => own k = 0) v1 ys) (hb : Below 0 w w1) (hg : w.grownBy w1 v.ownBlock) (hat : v1.ownBlock = v.ownBlock ∨ ∃ b, v1.ownBlock = some b ∧ w.heap.size ≤ b) :
    GvC own w0 (w1.setCell ⟨outb, 0, none⟩ v1) B outb gb bb n0 l v1 ys ∧ GvStep own outb l v w l v1 (w1.setCell ⟨outb, 0, none⟩ v1) := by
  obtain ⟨b1, b2, b3⟩ := h.b0
  have hS0 := grown_ste hg hb
  have hS : Ste (fun k => v.ownBlock = some k ∨ k = outb) w (w1.setCell ⟨outb, 0, none⟩ v1) := (hS0.mono (P' := fun k => v.ownBlock = some k ∨ k = outb) (fun k hk => .inl (.inl hk))).trans (setCell_ste w1 outb 0 v1) (fun k hk => .inl (.inr hk))
  have hok : ∀ k, v.ownBlock = some k → own k = 0 := h.out.1
  have h1 := hS0.blk h.ho (fun e => Kd.R_ne h.out h.ho (by decide) e.symm)
  refine ⟨⟨h.bo.ste hS (fun k hk e => hk (e.elim (hok k) (fun e => e ▸ b3))) (fun k e => e.elim (fun e => Nat.le_trans h.nn.1 (Kd.R_base h.out k e)) (fun e => by have := h.nn.1; have := h.nn.2.2; omega)), h.tl, hS.blk h.hb (fun e => ?_), hS.blk h.hg (fun e => ?_), blk_put h1 0 v1 rfl, ?_, h.b0, h.nn.1, Nat.le_trans h.nn.2.1 hS.size, h.nn.2.2⟩, ?_, ?_, rfl, Nat.le_refl _⟩
  · rcases e with e | e
    · exact Kd.R_ne h.out h.hb (by decide) e.symm
    · have := h.ho; rw [← e, h.hb] at this; cases this
  · rcases e with e | e
    · exact Kd.R_ne h.out h.hg (by decide) e.symm
    · have := h.ho; rw [← e, h.hg] at this; cases this
  · refine Kd.R_mono (R_ste (Kd.R_tight rfl hR1) (setCell_ste w1 outb 0 v1) (fun k hk e => ?_)) (fun k hk => hR1.1 k hk.symm)
    obtain rfl : k = outb := e
    exact Kd.R_ne hR1 h1 (by decide) hk
  · exact hS.mono (fun k hk => .inl (hk.elim (fun e => .inr (.inr e)) (fun e => .inr (.inl e))))
  · intro k hk
    rcases hat with e | ⟨b, e, hb2⟩
    · exact .inl (by rw [← e]; exact hk)
    · rw [e] at hk
      cases hk
      exact .inr hb2
end Go.Proofs.YtgopddjmmoohdaaGreatDoor

/- signal: Give, what it computes, its closures. -/
set_option linter.unusedSimpArgs false
set_option linter.unusedVariables false
set_option maxRecDepth 100000
set_option maxHeartbeats 1600000
namespace Go.Proofs.YtgopddjmmoohdaaGreatDoor
open Go.RowKit Go.Proofs.YtgopddjmmoohdaaGreatDoorW.PrintWords Go.Proofs.YtgopddjmmoohdaaGreatDoorW.PrintLast Go.Proofs.YtgopddjmmoohdaaGreatDoor.PPlaySilent

/-- A signal, without its places. -/
structure Sg where
  shut : Bool
  fol : List Int
  tags : List Int
def SigS.abs (s : SigS) : Sg := ⟨s.shut, s.fol, s.tags⟩
def sgF (g : List Sg) (id : Int) : Option Sg := if 1 ≤ id then g[(id - 1).toNat]? else none
theorem sgF_abs (l : List SigS) (id : Int) : sgF (l.map SigS.abs) id = (sigF l id).map SigS.abs := by
  unfold sgF sigF
  split
  · rw [List.getElem?_map]
  · rfl
/-- The entries that follow id are given, the first j. -/
def giveLoop (rec : List Sg → Int → List Sg × List Int) (id : Int) (g : List Sg) (out : List Int) : Nat → List Sg × List Int
  | 0 => (g, out)
  | j + 1 => if ((giveLoop rec id g out j).1[j]?.any (fun s => s.fol.contains id)) = true then ((rec (giveLoop rec id g out j).1 ((j + 1 : Nat) : Int)).1, (giveLoop rec id g out j).2 ++ (rec (giveLoop rec id g out j).1 ((j + 1 : Nat) : Int)).2) else giveLoop rec id g out j
/-- Give: the signals then, and the tags. -/
def giveF : Nat → List Sg → Int → List Sg × List Int
  | 0, g, _ => (g, [])
  | n + 1, g, id => match sgF g id with
    | none => (g, [])
    | some s => if s.shut = true then (g, []) else giveLoop (giveF n) id (g.set (id - 1).toNat ⟨true, s.fol, []⟩) s.tags g.length
theorem giveF_shut {g : List Sg} {id : Int} {s : Sg} (h : sgF g id = some s) (hs : s.shut = true) (n : Nat) : giveF n g id = (g, []) := by
  cases n with
  | zero => rfl
  | succ n => rw [giveF, h]; exact if_pos hs
theorem giveF_open {g : List Sg} {id : Int} {s : Sg} (h : sgF g id = some s) (hs : s.shut = false) (n : Nat) : giveF (n + 1) g id = giveLoop (giveF n) id (g.set (id - 1).toNat ⟨true, s.fol, []⟩) s.tags g.length := by
  rw [giveF, h]; exact if_neg (by simp [hs])
/-- How many tags there are. -/
def tsum (l : List SigS) : Nat := (l.map (fun s => s.tags.length)).sum
theorem tsum_set : ∀ {l : List SigS} {j : Nat} {s : SigS} (s' : SigS), l[j]? = some s → tsum (l.set j s') + s.tags.length = tsum l + s'.tags.length
  | [], j, s, s', h => by simp at h
  | a :: l, 0, s, s', h => by
    simp at h
    subst h
    simp only [tsum, List.set_cons_zero, List.map_cons, List.sum_cons]
    omega
  | a :: l, j + 1, s, s', h => by
    have := tsum_set (l := l) (j := j) s' (by simpa using h)
    simp only [tsum, List.set_cons_succ, List.map_cons, List.sum_cons] at this ⊢
    omega
theorem opens_pos {l : List SigS} {j : Nat} {s : SigS} (h : l[j]? = some s) (hs : s.shut = false) : 0 < opens l := by
  have := opens_set (s' := { s with shut := true }) h
  simp [hs] at this
  omega
/-- What a give leaves. -/
structure GvR (own : Nat → Nat) (w0 : World) (B outb gb bb n0 : Nat) (l : List SigS) (v : Value) (xs : List Int) (w : World) (r : List Sg × List Int) (w' : World) (l' : List SigS) (v' : Value) : Prop where
  c : GvC own w0 w' B outb gb bb n0 l' v' (xs ++ r.2)
  st : GvStep own outb l v w l' v' w'
  abs : l'.map SigS.abs = r.1
  sum : r.2.length + tsum l' = tsum l
theorem GvC.outlt {own : Nat → Nat} {w0 w : World} {B outb gb bb n0 : Nat} {l : List SigS} {v : Value} {xs : List Int} (h : GvC own w0 w B outb gb bb n0 l v xs) : outb < w.heap.size := blk_lt h.ho
/-- A block that no one writes stands. -/
theorem GvStep.keep {own : Nat → Nat} {outb : Nat} {l l' : List SigS} {v v' : Value} {w w' : World} (h : GvStep own outb l v w l' v' w') {k : Nat} {o : Obj} (ho : w.heap[k]? = some o) (h0 : own k = 0) (h1 : k ≠ outb) (h2 : v.ownBlock ≠ some k) : w'.heap[k]? = some o :=
  h.ste.blk ho (fun e => by rcases e with e | e | e; exact absurd e (by omega); exact h1 e; exact h2 e)
/-- Entry j has been written, in its own blocks. -/
theorem GvStep.upd {own : Nat → Nat} {outb j : Nat} {l : List SigS} {v : Value} {w w' : World} {s s' : SigS} (hj : l[j]? = some s) (hob : s'.ob = s.ob) (hsh : s'.shut = s.shut ∨ s'.shut = true) (hs : Ste (fun k => own k = j + 2) w w') : GvStep own outb l v w (l.set j s') v w' :=
  ⟨hs.mono (fun k hk => .inl (.inl (by omega))), fun _ h => .inl h, obs_set hj hob, by
    have := opens_set s' hj
    rcases hsh with e | e <;> rw [e] at this <;> revert this <;> cases s.shut <;> simp <;> omega⟩
/-- One give behind another. -/
theorem GvR.trans {own : Nat → Nat} {w0 : World} {B outb gb bb n0 : Nat} {l l1 l2 : List SigS} {v v1 v2 : Value} {xs : List Int} {w w1 w2 : World} {r r2 : List Sg × List Int} (h : GvR own w0 B outb gb bb n0 l v xs w r w1 l1 v1) (h2 : GvR own w0 B outb gb bb n0 l1 v1 (xs ++ r.2) w1 r2 w2 l2 v2) : GvR own w0 B outb gb bb n0 l v xs w (r2.1, r.2 ++ r2.2) w2 l2 v2 :=
  ⟨by have := h2.c; rwa [List.append_assoc] at this, h.st.trans h2.st, h2.abs, by have := h.sum; have := h2.sum; simp only [List.length_append]; omega⟩
theorem GvR.below {own : Nat → Nat} {w0 : World} {B outb gb bb n0 : Nat} {l l1 : List SigS} {v v1 : Value} {xs : List Int} {w w1 w2 : World} {r : List Sg × List Int} (h : GvR own w0 B outb gb bb n0 l v xs w r w1 l1 v1) (hb : Below w1.heap.size w1 w2) : GvR own w0 B outb gb bb n0 l v xs w r w2 l1 v1 :=
  ⟨h.c.below hb, h.st.trans (GvStep.below hb), h.abs, h.sum⟩
theorem giveLoop_yes {rec : List Sg → Int → List Sg × List Int} {id : Int} {g : List Sg} {out : List Int} {i : Nat} {t : Sg} (h : (giveLoop rec id g out i).1[i]? = some t) (hc : t.fol.contains id = true) :
    giveLoop rec id g out (i + 1) = ((rec (giveLoop rec id g out i).1 ((i + 1 : Nat) : Int)).1, (giveLoop rec id g out i).2 ++ (rec (giveLoop rec id g out i).1 ((i + 1 : Nat) : Int)).2) := by
  rw [giveLoop, if_pos (by rw [h]; exact hc)]
theorem giveLoop_no {rec : List Sg → Int → List Sg × List Int} {id : Int} {g : List Sg} {out : List Int} {i : Nat} {t : Sg} (h : (giveLoop rec id g out i).1[i]? = some t) (hc : t.fol.contains id = false) : giveLoop rec id g out (i + 1) = giveLoop rec id g out i := by
  rw [giveLoop, if_neg (by rw [h]; simpa using hc)]
theorem GvC.vne {own : Nat → Nat} {w0 w : World} {B outb gb bb n0 : Nat} {l : List SigS} {v : Value} {xs : List Int} (h : GvC own w0 w B outb gb bb n0 l v xs) {k : Nat} {cs : Array Value} {t : TypeId} (ho : w.heap[k]? = some (.cells cs t (0, 0))) (ht : t ≠ 3) : v.ownBlock ≠ some k := fun e => Kd.R_ne h.out ho (Ne.symm ht) e.symm
/-- Give's inner function: the tags are taken, the followers are given. -/
theorem inner_any (n : Nat) (own : Nat → Nat) (w0 : World) (B outb gb bb n0 : Nat)
    (IH : ∀ (l : List SigS) (v : Value) (xs : List Int) (j : Nat) (s : SigS) (w : World), GvC own w0 w B outb gb bb n0 l v xs → l[j]? = some s → opens l ≤ n → xs.length + tsum l ≤ 100000000 → Calls Tryz.prog 127 #[.int .i64 ((j + 1 : Nat) : Int), .pointer (some ⟨bb, 0, none⟩), .pointer (some ⟨outb, 0, none⟩), .pointer (some ⟨gb, 0, none⟩)] w fun e w' => e = .returned (.bool (!s.shut)) ∧ ∃ l' v', GvR own w0 B outb gb bb n0 l v xs w (giveF n (l.map SigS.abs) ((j + 1 : Nat) : Int)) w' l' v')
    (l : List SigS) (v : Value) (xs : List Int) (j xb ib : Nat) (s : SigS) (W : World) (hG : GvC own w0 W B outb gb bb n0 l v xs) (hj : l[j]? = some s) (hn : opens l ≤ n) (hsum : xs.length + tsum l ≤ 100000000)
    (hxb : W.heap[xb]? = some (.cells #[.pointer (some ⟨s.ob, 0, none⟩)] 134 (0, 0))) (hib : W.heap[ib]? = some (.cells #[.int .i64 ((j + 1 : Nat) : Int)] 3 (0, 0))) (hx0 : own xb = 0) (hi0 : own ib = 0) (hio : ib ≠ outb) (hiv : v.ownBlock ≠ some ib) :
    Calls Tryz.prog 128 #[.pointer (some ⟨outb, 0, none⟩), .pointer (some ⟨xb, 0, none⟩), .pointer (some ⟨bb, 0, none⟩), .pointer (some ⟨ib, 0, none⟩), .pointer (some ⟨gb, 0, none⟩)] W fun e W' => e = .returned (.tuple #[]) ∧ ∃ l' v', GvR own w0 B outb gb bb n0 l v xs W (giveLoop (giveF n) ((j + 1 : Nat) : Int) ((l.set j { s with tags := [] }).map SigS.abs) s.tags l.length) W' l' v' := by
  have hE := hG.bo.ent j s hj
  obtain ⟨vf, vt, hrow, -, hRt⟩ := hE.row
  obtain ⟨At, ct, rfl, hct, hCt⟩ := Kd.R_reads hRt
  have hts : s.tags.length ≤ 100000 := hG.tl s (List.mem_of_getElem? hj)
  have hxs : xs.length ≤ 100000000 := by omega
  have hz : ∀ k, W.heap.size ≤ k → own k = 0 := fun k hk => hG.zero hk
  have hxo : xb ≠ outb := fun e => by have := hG.ho; rw [← e, hxb] at this; cases this
  have hsum0 := hd_ hsum
  have hlen : l.length ≤ 64 := hG.bo.len
  have hibl := blk_lt hib
  clear hRt
  go_enter Tryz.func128, Tryz.ntmps128
  go_wp2
  refine start_ (n := 7) (S := (fun W_ => W_.heap[outb]? = some (.cells #[v] 32 (0, 0)) ∧ W_.heap[xb]? = some (.cells #[.pointer (some ⟨s.ob, 0, none⟩)] 134 (0, 0)) ∧ W_.heap[s.ob]? = some (.cells #[.pointer (some ⟨s.lb, 0, none⟩), vf, .slice At s.tags.length ct] 139 (0, 0)))) (ds := [5, 6]) (bm 7 0) (by kernel_rfl) rfl (by kernel_rfl) ⟨hG.ho, hxb, hrow⟩ (fun hHeld => ?_)
  refine ta_ 0 (some 7) (bm 7 1) hHeld (fun _ hSw => blk_cell hSw.1 0) ?_
  refine ta_ 1 (some 8) (bm 7 3) hHeld (fun _ hSw => blk_cell hSw.2.1 0) ?_
  refine pu_ 2 (some 9) (bm 7 7) ?_
  refine pu_ 3 (some 10) (bm 7 15) ?_
  refine ta_ 4 (some 11) (bm 7 31) hHeld (fun _ hSw => blk_cell hSw.2.2 2) ?_
  refine last_ (i := 5) (N := (some 12)) (bm 7 63) rfl rfl (by kernel_rfl) (by decide) (fun K hK => ?_)
  refine Kd.R_append_rows_step (Kd.int .i64) (Rr := (Kd.int .i64).K W.drew) (w0 := W.drew) n0 (by rfl) (.tmp 7) (.tmp 11) 32 3 (.int .i64 0) 8 rfl Tryz.underlying32 info3 rfl (by decide) (by decide) v xs s.tags At s.tags.length ct (fun k => own k = 0) (fun _ => False) rfl rfl (Kd.R_below hG.out (below_drew (Below.refl _ _))) (Kd.C_below hCt (below_drew (Below.refl _ _))) (fun _ _ h => h) (fun _ h => h.elim) (fun k hk => hz k hk) (Below.refl _ _) hG.nn.2.1 (by omega) ?_
  intro v1 w1 hR1 hB1 hg1 hat1
  obtain ⟨A1, c1, rfl, hl1, -⟩ := Kd.R_reads hR1
  refine hK.out _ _ ?_
  clear hK K
  refine norm_ (a' := ?_) ?_ ?_
  rotate_left
  · show Act.put _ (some 12) _ = _
    simp only [Act.put, List.setIfInBounds_toArray, List.set_cons_zero, List.set_cons_succ]
    rfl
  refine last_ (i := 6) (N := none) (bm 7 127) rfl rfl (by kernel_rfl) (by decide) (fun K hK => ?_)
  refine skip_ (w1 := w1.setCell ⟨outb, 0, none⟩ (.slice A1 (xs ++ s.tags).length c1)) (by rfl) rfl ?_ ?_
  · have z8 := blk_cell (blk_grown (show W.drew.heap[outb]? = _ from hG.ho) hg1 (Kd.R_ne hG.out hG.ho (by decide))) 0
    have z9 := blk_frozen (blk_grown (show W.drew.heap[outb]? = _ from hG.ho) hg1 (Kd.R_ne hG.out hG.ho (by decide))) 0
    go_simp
  refine hK.out _ _ ?_
  clear hK K
  refine done_ (by kernel_rfl) ?_
  obtain ⟨hG2, hS2⟩ := (hG.below (below_drew (Below.refl _ W))).outs hR1 ⟨hB1.os, hB1.tape, hB1.output, hB1.size, fun k hk => absurd hk (Nat.not_lt_zero k)⟩ hg1 hat1
  replace hS2 := (GvStep.below (own := own) (outb := outb) (l := l) (v := v) (below_drew (Below.refl W.heap.size W))).trans hS2
  have hxb2 := hS2.keep hxb hx0 hxo (hG.vne hxb (by decide))
  have hib2 := hS2.keep hib hi0 hio hiv
  have hbb2 := hG2.hb
  have hE2 := hG2.bo.ent j s hj
  obtain ⟨vf2, vt2, hrow2, -, -⟩ := hE2.row
  have hSt : Ste (fun k => own k = j + 2) (w1.setCell ⟨outb, 0, none⟩ (.slice A1 (xs ++ s.tags).length c1)) ((w1.setCell ⟨outb, 0, none⟩ (.slice A1 (xs ++ s.tags).length c1)).setCell ⟨s.ob, 2, none⟩ (.slice none 0 0)) := (setCell_ste _ s.ob 2 _).mono (fun k hk => .inl (by have h := hE2.po; rw [← show k = s.ob from hk] at h; exact h))
  have hG3 := hG2.upd hj (s' := { s with tags := [] }) rfl (by simp) hSt hE2.take
  have hS3 := hS2.trans (GvStep.upd hj (s' := { s with tags := [] }) rfl (.inl rfl) hSt)
  have hR3 : GvR own w0 B outb gb bb n0 l v xs W (giveLoop (giveF n) ((j + 1 : Nat) : Int) ((l.set j { s with tags := [] }).map SigS.abs) s.tags 0) ((w1.setCell ⟨outb, 0, none⟩ (.slice A1 (xs ++ s.tags).length c1)).setCell ⟨s.ob, 2, none⟩ (.slice none 0 0)) (l.set j { s with tags := [] }) (.slice A1 (xs ++ s.tags).length c1) := ⟨hG3, hS3, rfl, by have := tsum_set (s' := { s with tags := [] }) hj; simp only [List.length_nil] at this; simp only [giveLoop]; omega⟩
  have hxb3 := hSt.blk hxb2 (by rw [hx0]; omega)
  have hib3 := hSt.blk hib2 (by rw [hi0]; omega)
  have y0 := blk_cell hxb2 0
  have y2 := (blk_cell hrow2 2).trans rfl
  have f2 := blk_frozen hrow2 2
  clear hxb hib hrow hR1 hB1 hg1 hat1 hG2 hS2 hE2 hSt hrow2 hbb2 hG3 hS3 hE hCt hG
  generalize hw2 : w1.setCell ⟨outb, 0, none⟩ (.slice A1 (xs ++ s.tags).length c1) = w2 at *
  have y1 := blk_cell hR3.c.hb 0
  obtain ⟨rv, hBr, hRr⟩ := hR3.c.bo.row
  obtain ⟨gr, cr, rfl, hlr, -⟩ := ptrs_at hRr (j := j) (x := s.ob) (by rw [List.getElem?_map, List.getElem?_set_self (List.getElem?_eq_some_iff.1 hj).1]; rfl)
  have y3 := blk_cell hBr 0
  have hml : ((l.set j { s with tags := [] }).map (·.ob)).length = l.length := by simp
  rw [hml] at y3 hBr hlr
  clear hRr
  generalize hg0 : (l.set j { s with tags := [] }).map SigS.abs = g0 at *
  replace hg0 := hd_ hg0
  generalize hl3 : l.set j { s with tags := [] } = l3 at *
  have hl3n : l3.length = l.length := by rw [← hl3]; simp
  generalize hA1 : Value.slice A1 (xs ++ s.tags).length c1 = v3 at *
  replace hl3 := hd_ hl3
  clear hw2 hA1
  go_wp2
  generalize hw3 : w2.setCell ⟨s.ob, 2, none⟩ (.slice none 0 0) = w3 at *
  clear hw3 y0 y1 y2 y3 f2
  go_loopw [5, 6, 21] (fun _ _ iv wr => ∃ (i : Nat) (li : List SigS) (vi : Value), i ≤ l.length ∧ iv = .int .i64 i ∧ GvR own w0 B outb gb bb n0 l v xs W (giveLoop (giveF n) ((j + 1 : Nat) : Int) g0 s.tags i) wr li vi ∧ wr.heap[B]? = w3.heap[B]? ∧ wr.heap[ib]? = w3.heap[ib]?) (fun _ _ iv _ => l.length - (intOf iv).toNat)
  case atStart => exact ⟨0, l3, v3, Nat.zero_le _, rfl, hR3, rfl, rfl⟩
  case round =>
    obtain ⟨i, li, vi, hil, rfl, hRi, hBi, hii⟩ := hrel
    by_cases hlt : i < l.length
    · have hil2 : li.length = l.length := by have := congrArg List.length hRi.st.obs; simpa using this
      obtain ⟨t, ht⟩ : ∃ t, li[i]? = some t := ⟨_, List.getElem?_eq_getElem (by omega)⟩
      obtain ⟨rv2, hB2, hRr2⟩ := hRi.c.bo.row
      obtain ⟨g2, c2, e2, -, y9⟩ := ptrs_at hRr2 (j := i) (x := t.ob) (by rw [List.getElem?_map, ht]; rfl)
      rw [hBi, hBr] at hB2
      simp only [Option.some.injEq, Obj.cells.injEq, Array.mk.injEq, List.cons.injEq, and_true] at hB2
      subst hB2
      simp only [Value.slice.injEq, Option.some.injEq, Addr.mk.injEq, and_true] at e2
      obtain ⟨rfl, -, rfl⟩ := e2
      clear hRr2
      have hEt := hRi.c.bo.ent i t ht
      obtain ⟨vf3, vt3, hrow3, hRf, -⟩ := hEt.row
      obtain ⟨Af, cf, rfl, hcf, hCf⟩ := Kd.R_reads hRf
      have hib4 := hii.trans hib3
      have hab : (giveLoop (giveF n) ((j + 1 : Nat) : Int) g0 s.tags i).1[i]? = some t.abs := by rw [← hRi.abs, List.getElem?_map, ht]; rfl
      have hfl : t.fol.length ≤ 9223372036854775807 := hCf.2.1
      have hct := contains_any t.fol ((j + 1 : Nat) : Int) Af cf wr.drew (Kd.C_below hCf (below_drew (Below.refl _ _))) hfl
      have hRd := hRi.below (below_drew (Below.refl _ wr))
      have hopn : opens li ≤ n := Nat.le_trans hRi.st.opn hn
      have hsm : (xs ++ (giveLoop (giveF n) ((j + 1 : Nat) : Int) g0 s.tags i).2).length + tsum li ≤ 100000000 := by have := hRi.sum; have := hsum0.out; rw [List.length_append]; omega
      have hIH := IH li vi _ i t wr.drew hRd.c ht hopn hsm
      have hgb := blk_cell hRd.c.hg 0
      have hBk : ∀ w' li' vi' r, GvR own w0 B outb gb bb n0 li vi (xs ++ (giveLoop (giveF n) ((j + 1 : Nat) : Int) g0 s.tags i).2) wr.drew r w' li' vi' → w'.heap[B]? = w3.heap[B]? ∧ w'.heap[ib]? = w3.heap[ib]? := fun w' li' vi' r h => ⟨by
        have hb1 : own B = 1 := hRi.c.bo.pb
        refine (h.st.ste.blk (o := _) (show wr.drew.heap[B]? = some _ from hBi.trans hBr) (fun e => ?_)).trans hBr.symm
        rcases e with e | e | e
        · omega
        · have := hRi.c.b0.2.2; rw [← e, hb1] at this; omega
        · have h0 : own B = 0 := hRi.c.out.1 B e
          omega, by
        refine (h.st.keep (show wr.drew.heap[ib]? = some _ from hib4) hi0 hio (fun e => (hRi.st.new ib e).elim hiv (fun h => by omega))).trans hib3.symm⟩
      clear hRf hCf hopn hsm hfl
      go_wp2
      refine start_ (n := 6) (S := (fun W_ => W_.heap[t.ob]? = some (.cells #[.pointer (some ⟨t.lb, 0, none⟩), .slice Af t.fol.length cf, vt3] 139 (0, 0)) ∧ W_.heap[ib]? = some (.cells #[.int .i64 ((j + 1 : Nat) : Int)] 3 (0, 0)))) (ds := [5]) (bm 6 0) (by kernel_rfl) rfl (by kernel_rfl) ⟨hrow3, hib4⟩ (fun hHeld => ?_)
      refine pu_ 0 (some 26) (bm 6 1) ?_
      refine pu_ 1 (some 27) (bm 6 3) ?_
      refine pu_ 2 (some 28) (bm 6 7) ?_
      refine ta_ 3 (some 29) (bm 6 15) hHeld (fun _ hSw => blk_cell hSw.1 1) ?_
      refine ta_ 4 (some 30) (bm 6 31) hHeld (fun _ hSw => blk_cell hSw.2 0) ?_
      refine last_ (i := 5) (N := (some 31)) (bm 6 63) rfl rfl (by kernel_rfl) (by decide) (fun K hK => ?_)
      refine goes_ Tryz.func118 (by kernel_rfl) rfl #[.slice Af t.fol.length cf, .int .i64 ((j + 1 : Nat) : Int)] (by rfl) rfl rfl (by try simp only [List.map_toArray, List.map_cons, List.map_nil]; first | done | rfl) ?_
      refine hct.mono ?_
      rintro e w' ⟨rfl, hw'⟩
      obtain rfl := hw'.symm
      refine ⟨_, rfl, ?_⟩
      refine hK.out _ _ ?_
      clear hK K
      refine norm_ (a' := ?_) ?_ ?_
      rotate_left
      · show Act.put _ (some 31) _ = _
        simp only [Act.put, List.setIfInBounds_toArray, List.set_cons_zero, List.set_cons_succ]
        rfl
      refine done_ (by kernel_rfl) ?_
      cases hcb : t.fol.contains ((j + 1 : Nat) : Int) with
      | true =>
        have hgl := hd_ (giveLoop_yes (rec := giveF n) (id := ((j + 1 : Nat) : Int)) (g := g0) (out := s.tags) hab hcb)
        rw [hRi.abs] at hIH
        clear hab ht y9
        go_wp2_with (go_at_call 127; refine hIH.mono ?_; rintro e w5 ⟨rfl, l5, v5, hR5⟩; have hB5 := hBk _ _ _ _ hR5; have hR6 := hRd.trans hR5)
        go_roundw
        case rel => exact ⟨i + 1, l5, v5, by omega, by go_num, by rw [hgl.out]; exact hR6, hB5⟩
        case measure => simp [intOf]; omega
      | false =>
        have hgl := hd_ (giveLoop_no (rec := giveF n) (id := ((j + 1 : Nat) : Int)) (g := g0) (out := s.tags) hab hcb)
        clear hab ht hIH y9
        go_wp2
        go_roundw
        case rel => exact ⟨i + 1, li, vi, by omega, by go_num, by rw [hgl.out]; exact hRd, hBi, hii⟩
        case measure => simp [intOf]; omega
    · have hie : i = l.length := by omega
      subst hie
      go_wp2
      go_end0
      exact ⟨rfl, li, vi, by rw [hl3.out, hg0.out]; exact hRi⟩
end Go.Proofs.YtgopddjmmoohdaaGreatDoor

/- signal: Give. -/
set_option linter.unusedSimpArgs false
set_option linter.unusedVariables false
set_option maxRecDepth 100000
set_option maxHeartbeats 1600000
namespace Go.Proofs.YtgopddjmmoohdaaGreatDoor
open Go.RowKit Go.Proofs.YtgopddjmmoohdaaGreatDoorW.PrintWords Go.Proofs.YtgopddjmmoohdaaGreatDoorW.PrintLast Go.Proofs.YtgopddjmmoohdaaGreatDoor.PPlaySilent

theorem sigP_at {l : List SigS} {j : Nat} {s : SigS} (h : l[j]? = some s) : sigP l ((j + 1 : Nat) : Int) = .pointer (some ⟨s.ob, 0, none⟩) := by
  unfold sigP sigF
  rw [if_pos (by omega), show (((j + 1 : Nat) : Int) - 1).toNat = j by omega, h]
theorem sgF_at {l : List SigS} {j : Nat} {s : SigS} (h : l[j]? = some s) : sgF (l.map SigS.abs) ((j + 1 : Nat) : Int) = some s.abs := by
  unfold sgF
  rw [if_pos (by omega), show (((j + 1 : Nat) : Int) - 1).toNat = j by omega, List.getElem?_map, h]; rfl
/-- What the latch's function needs, and leaves. -/
theorem inner_at (n : Nat) (own : Nat → Nat) (w0 : World) (B outb gb bb n0 : Nat)
    (IH : ∀ (l : List SigS) (v : Value) (xs : List Int) (j : Nat) (s : SigS) (w : World), GvC own w0 w B outb gb bb n0 l v xs → l[j]? = some s → opens l ≤ n → xs.length + tsum l ≤ 100000000 → Calls Tryz.prog 127 #[.int .i64 ((j + 1 : Nat) : Int), .pointer (some ⟨bb, 0, none⟩), .pointer (some ⟨outb, 0, none⟩), .pointer (some ⟨gb, 0, none⟩)] w fun e w' => e = .returned (.bool (!s.shut)) ∧ ∃ l' v', GvR own w0 B outb gb bb n0 l v xs w (giveF n (l.map SigS.abs) ((j + 1 : Nat) : Int)) w' l' v')
    (l : List SigS) (v : Value) (xs : List Int) (j xb ib : Nat) (s : SigS) (w w2 W : World) (h : GvC own w0 w B outb gb bb n0 l v xs) (hj : l[j]? = some s) (hs : s.shut = false) (hn : opens l ≤ n + 1) (hsum : xs.length + tsum l ≤ 100000000) (hB : Below w.heap.size w w2)
    (hxb : w2.heap[xb]? = some (.cells #[.pointer (some ⟨s.ob, 0, none⟩)] 134 (0, 0))) (hib : w2.heap[ib]? = some (.cells #[.int .i64 ((j + 1 : Nat) : Int)] 3 (0, 0))) (hx : w.heap.size ≤ xb) (hi : w.heap.size ≤ ib) (hS : Ste (fun k => k = s.lb) w2 W) (hl : W.heap[s.lb]? = some (latchB true)) :
    Calls Tryz.prog 128 #[.pointer (some ⟨outb, 0, none⟩), .pointer (some ⟨xb, 0, none⟩), .pointer (some ⟨bb, 0, none⟩), .pointer (some ⟨ib, 0, none⟩), .pointer (some ⟨gb, 0, none⟩)] W fun e W' => e = .returned (.tuple #[]) ∧ (∀ k, w2.heap.size ≤ k → k < W.heap.size → W'.heap[k]? = W.heap[k]?) ∧ ∃ l' v', GvR own w0 B outb gb bb n0 l v xs w (giveF (n + 1) (l.map SigS.abs) ((j + 1 : Nat) : Int)) W' l' v' := by
  have h2 := h.below hB
  have hE := h2.bo.ent j s hj
  have hlb := h2.bo.lo s.lb (by rw [hE.pl]; omega)
  have hlw := (h.bo.lo s.lb (by have := (h.bo.ent j s hj).pl; rw [this]; omega)).2
  have hSj : Ste (fun k => own k = j + 2) w2 W := hS.mono (fun k hk => .inl (by have := hE.pl; rw [← show k = s.lb from hk] at this; exact this))
  have h3 := h2.upd hj (s' := { s with shut := true }) rfl (h.tl s (List.mem_of_getElem? hj)) hSj (hE.close hS hl)
  have hst : GvStep own outb l v w (l.set j { s with shut := true }) v W := (GvStep.below hB).trans (GvStep.upd hj (s' := { s with shut := true }) rfl (.inr rfl) hSj)
  have hj' : (l.set j { s with shut := true })[j]? = some { s with shut := true } := List.getElem?_set_self (List.getElem?_eq_some_iff.1 hj).1
  have ho := opens_set (s' := { s with shut := true }) hj
  have ht := tsum_set (s' := { s with shut := true }) hj
  simp only [hs] at ho
  simp at ho ht
  have hvl : ∀ k, w.heap.size ≤ k → v.ownBlock ≠ some k := fun k hk e => by have := Kd.R_lt h.out k e; omega
  have hol := h.outlt
  have hio := inner_any n own w0 B outb gb bb n0 IH (l.set j { s with shut := true }) v xs j xb ib { s with shut := true } W h3 hj' (by omega) (by omega) (hS.blk hxb (fun e => by omega)) (hS.blk hib (fun e => by omega)) (h.zero hx) (h.zero hi) (by omega) (hvl ib hi)
  refine hio.mono ?_
  rintro e W' ⟨rfl, l', v', hR⟩
  refine ⟨rfl, fun k hk hkW => ?_, l', v', ⟨hR.c |> fun hc => ?_, hst.trans hR.st, ?_, ?_⟩⟩
  · have hkw : w.heap.size ≤ k := Nat.le_trans hB.size hk
    refine hR.st.ste.keep k hkW (fun e => ?_)
    rcases e with e | e | e
    · have := h.zero hkw; omega
    · omega
    · exact hvl k hkw e
  all_goals rw [giveF_open (sgF_at hj) (show s.abs.shut = false from hs)]
  all_goals rw [show (((j + 1 : Nat) : Int) - 1).toNat = j by omega]
  all_goals have hm : (l.map SigS.abs).set j ⟨true, s.abs.fol, []⟩ = (((l.set j { s with shut := true }).set j { { s with shut := true } with tags := [] }).map SigS.abs) := by rw [List.set_set, List.map_set]; rfl
  all_goals rw [hm, show (l.map SigS.abs).length = (l.set j { s with shut := true }).length by simp]
  · exact hc
  · exact hR.abs
  · have := hR.sum; show List.length (giveLoop _ _ _ s.tags _).2 + _ = _; rw [← ht]; exact this
/-- Give's function. -/
theorem give1_any (own : Nat → Nat) (w0 : World) (B outb gb bb n0 : Nat) : ∀ (n : Nat) (l : List SigS) (v : Value) (xs : List Int) (j : Nat) (s : SigS) (w : World), GvC own w0 w B outb gb bb n0 l v xs → l[j]? = some s → opens l ≤ n → xs.length + tsum l ≤ 100000000 →
    Calls Tryz.prog 127 #[.int .i64 ((j + 1 : Nat) : Int), .pointer (some ⟨bb, 0, none⟩), .pointer (some ⟨outb, 0, none⟩), .pointer (some ⟨gb, 0, none⟩)] w fun e w' => e = .returned (.bool (!s.shut)) ∧ ∃ l' v', GvR own w0 B outb gb bb n0 l v xs w (giveF n (l.map SigS.abs) ((j + 1 : Nat) : Int)) w' l' v'
  | n, l, v, xs, j, s, w, h, hj, hn, hsum => by
    have hb := fun W (hB : Below w.heap.size w W) => bat_any own w0 W B ((j + 1 : Nat) : Int) l (h.bo.below hB)
    rw [sigP_at hj] at hb
    have hE := h.bo.ent j s hj
    obtain ⟨vf, vt, hrow, -, -⟩ := hE.row
    have hbo1 := fun X => below_alloc (Below.refl w.heap.size w) X
    have hbo2 := fun X Y => below_alloc (hbo1 X) Y
    have z0 := fun X => blk_cell (blk_alloc h.hb X) 0
    have z1 := fun X => (blk_cell (blk_new w (.cells #[X] 3)) 0).trans rfl
    have z2 := fun X Y => (blk_cell (blk_alloc (blk_alloc hrow X) Y) 0).trans rfl
    have ib1 := fun X Y => blk_alloc (blk_new w X) Y
    have xb1 : ∀ X Y : Obj, ((w.alloc X).alloc Y).heap[w.heap.size + 1]? = some Y := fun X Y => alloc_new' (by simp)
    have x0 := fun X Y => (blk_cell (xb1 X (.cells #[Y] 134)) 0).trans rfl
    have hla := fun X Y => blk_alloc (blk_alloc hE.latch X) Y
    cases hs : s.shut with
    | true =>
      have hdo := fun X Y fv => latch_do_shut s.lb fv _ (by rw [← hs]; exact hla X Y)
      have HF := hd_ (giveF_shut (sgF_at hj) (show s.abs.shut = true from hs) n)
      obtain ⟨id, hid⟩ : ∃ id : Int, id = ((j + 1 : Nat) : Int) := ⟨_, rfl⟩
      rw [← hid] at hb HF ⊢
      clear hid
      have hR := hd_ (fun W (hB : Below w.heap.size w W) => (⟨by rw [List.append_nil]; exact h.below hB, GvStep.below hB, rfl, by simp⟩ : GvR own w0 B outb gb bb n0 l v xs w (l.map SigS.abs, []) W l v))
      clear hla hrow hE hs h
      go_enter Tryz.func127, Tryz.ntmps127
      go_wp2_with (first
        | (go_at_call 75; (with_reducible refine (hb _ (hbo1 _)).mono ?_); rintro e w1 ⟨rfl, hw⟩; obtain rfl := hw.symm)
        | (go_at_call 78; refine (hdo _ _ _).mono ?_; rintro e w3 ⟨rfl, hB3⟩))
      go_ret
      refine ⟨rfl, l, v, ?_⟩
      rw [HF.out]
      exact hR.out _ (below_then (hbo2 _ _) (hbo2 _ _).size hB3)
    | false =>
      obtain ⟨m, rfl⟩ : ∃ m, n = m + 1 := ⟨n - 1, by have := opens_pos hj hs; omega⟩
      have hin := fun W2 W (hxb) (hib) hB hS hl => inner_at m own w0 B outb gb bb n0 (fun l v xs j s w a b c d => give1_any own w0 B outb gb bb n0 m l v xs j s w a b c d) l v xs j (w.heap.size + 1) w.heap.size s w W2 W h hj hs hn hsum hB hxb hib (by omega) (by omega) hS hl
      obtain ⟨id, hid⟩ : ∃ id : Int, id = ((j + 1 : Nat) : Int) := ⟨_, rfl⟩
      rw [← hid] at hb ⊢
      simp only [← hid] at hin
      clear hid
      have hdo := fun X Y caps R hc => latch_do_call s.lb caps R _ (by rw [← hs]; exact hla X Y) hc
      clear hla hrow hE hs h
      go_enter Tryz.func127, Tryz.ntmps127
      go_wp2_with (first
        | (go_at_call 75; (with_reducible refine (hb _ (hbo1 _)).mono ?_); rintro e w1 ⟨rfl, hw⟩; obtain rfl := hw.symm)
        | (go_at_call 78; refine (hdo _ _ _ _ (fun W hS hl => hin _ W (xb1 _ _) (ib1 _ _) (hbo2 _ _) hS hl)).mono ?_; rintro e w3 ⟨rfl, W3, -, -, hR3⟩))
      go_ret
      exact ⟨rfl, hR3⟩
  termination_by n => n
end Go.Proofs.YtgopddjmmoohdaaGreatDoor

/- signal: Give, whole. -/
set_option linter.unusedSimpArgs false
set_option linter.unusedVariables false
set_option maxRecDepth 100000
set_option maxHeartbeats 1600000
namespace Go.Proofs.YtgopddjmmoohdaaGreatDoor
open Go.RowKit Go.Proofs.YtgopddjmmoohdaaGreatDoorW.PrintWords Go.Proofs.YtgopddjmmoohdaaGreatDoorW.PrintLast Go.Proofs.YtgopddjmmoohdaaGreatDoor.PPlaySilent

/-- What Give leaves. -/
def GivePost (own : Nat → Nat) (w0 w : World) (B : Nat) (l : List SigS) (id : Int) (e : Ending) (w' : World) : Prop := ∃ A c r, e = .returned (.tuple #[.slice A (giveF l.length (l.map SigS.abs) id).2.length c, .bool r]) ∧ (giveF l.length (l.map SigS.abs) id).2.length ≤ c ∧ (Kd.int .i64).C w' A (giveF l.length (l.map SigS.abs) id).2.length (giveF l.length (l.map SigS.abs) id).2 ∧ (Kd.int .i64).R 3 w' w.heap.size (fun k => own k = 0) (.slice A (giveF l.length (l.map SigS.abs) id).2.length c) (giveF l.length (l.map SigS.abs) id).2 ∧
  ∃ l', BoC own w0 w' B l' ∧ l'.map SigS.abs = (giveF l.length (l.map SigS.abs) id).1 ∧ l'.map (·.ob) = l.map (·.ob) ∧ (∀ s ∈ l', s.tags.length ≤ 100000) ∧ tsum l' ≤ tsum l ∧ Ste (BoP own) w w' ∧ (giveF l.length (l.map SigS.abs) id).2.length ≤ tsum l
theorem opens_le (l : List SigS) : opens l ≤ l.length := List.countP_le_length
theorem giveF_none {g : List Sg} {id : Int} (h : sgF g id = none) (n : Nat) : giveF n g id = (g, []) := by
  cases n with
  | zero => rfl
  | succ n => rw [giveF, h]
theorem bgive_any (own : Nat → Nat) (w0 w : World) (B : Nat) (id : Int) (l : List SigS) (h : BoC own w0 w B l) (ht : ∀ s ∈ l, s.tags.length ≤ 100000) (hsum : tsum l ≤ 100000000) :
    Calls Tryz.prog 81 #[.pointer (some ⟨B, 0, none⟩), .int .i64 id] w (GivePost own w0 w B l id) := by
  have hbo1 := fun X => below_alloc (Below.refl w.heap.size w) X
  have hb := fun X => bat_any own w0 _ B id l (h.below (hbo1 X))
  have z0 := fun X => (blk_cell (blk_new w (.cells #[X] 59)) 0).trans rfl
  cases hn : sigF l id with
  | none =>
    have hgf := giveF_none (by rw [sgF_abs, hn]; rfl : sgF (l.map SigS.abs) id = none) l.length
    have hP : Hd (∀ W r, Below w.heap.size w W → GivePost own w0 w B l id (.returned (.tuple #[.slice none 0 0, .bool r])) W) := ⟨fun W r hB => by
      unfold GivePost
      rw [hgf]
      exact ⟨none, 0, r, rfl, Nat.le_refl _, C_none _, Kd.R_nil _ _ _ _ _, l, h.below hB, rfl, rfl, ht, Nat.le_refl _, Ste.of_below hB, Nat.zero_le _⟩⟩
    rw [show sigP l id = .pointer none by unfold sigP; rw [hn]] at hb
    clear hgf hn h
    go_enter Tryz.func81, Tryz.ntmps81
    go_wp2_with (go_at_call 75; (with_reducible refine (hb _).mono ?_); rintro e w1 ⟨rfl, hw⟩; obtain rfl := hw.symm)
    go_ret2
    exact hP.out _ _ (hbo1 _)
  | some s =>
    obtain ⟨j, hid, hjl, hj⟩ := sigF_some hn
    rw [show sigP l id = .pointer (some ⟨s.ob, 0, none⟩) by unfold sigP; rw [hn]] at hb
    have hown : ∀ k, w.heap.size ≤ k → own k = 0 := fun k hk => by
      by_cases e : own k = 0
      · exact e
      · have := (h.lo k e).2; omega
    have hW := (((Below.refl w.heap.size w).alloc (Nat.le_refl _) (.cells #[.pointer (some ⟨B, 0, none⟩)] 59)).alloc (by simp) (.cells #[.slice none 0 0] 32)).alloc (by simp; omega) (.cells #[.func (.func 127) #[] #[.pointer (some ⟨w.heap.size, 0, none⟩), .pointer (some ⟨w.heap.size + 1, 0, none⟩), .pointer (some ⟨w.heap.size + 1 + 1, 0, none⟩)]] 87)
    have hG : GvC own w0 (((w.alloc (.cells #[.pointer (some ⟨B, 0, none⟩)] 59)).alloc (.cells #[.slice none 0 0] 32)).alloc (.cells #[.func (.func 127) #[] #[.pointer (some ⟨w.heap.size, 0, none⟩), .pointer (some ⟨w.heap.size + 1, 0, none⟩), .pointer (some ⟨w.heap.size + 1 + 1, 0, none⟩)]] 87)) B (w.heap.size + 1) (w.heap.size + 1 + 1) w.heap.size w.heap.size l (.slice none 0 0) [] :=
      ⟨h.below hW, ht, blk_alloc (blk_alloc (blk_new w _) _) _, alloc_new' (by simp), blk_alloc (alloc_new' (by simp)) _, Kd.R_nil _ _ _ _ _, ⟨hown _ (by omega), hown _ (by omega), hown _ (by omega)⟩, h.base.size, hW.size, by omega⟩
    have hgv := give1_any own w0 B (w.heap.size + 1) (w.heap.size + 1 + 1) w.heap.size w.heap.size l.length l (.slice none 0 0) [] j s _ hG hj (opens_le l) (by simpa using hsum)
    rw [← hid] at hgv
    have hP : Hd (∀ W' l' v', GvR own w0 B (w.heap.size + 1) (w.heap.size + 1 + 1) w.heap.size w.heap.size l (.slice none 0 0) [] (((w.alloc (.cells #[.pointer (some ⟨B, 0, none⟩)] 59)).alloc (.cells #[.slice none 0 0] 32)).alloc (.cells #[.func (.func 127) #[] #[.pointer (some ⟨w.heap.size, 0, none⟩), .pointer (some ⟨w.heap.size + 1, 0, none⟩), .pointer (some ⟨w.heap.size + 1 + 1, 0, none⟩)]] 87)) (giveF l.length (l.map SigS.abs) id) W' l' v' → ∀ r, GivePost own w0 w B l id (.returned (.tuple #[v', .bool r])) W') := ⟨fun W' l' v' hR r => by
      have hR1 := hR.c.out
      rw [List.nil_append] at hR1
      obtain ⟨A, c, rfl, hc, hC⟩ := Kd.R_reads hR1
      have hs := hR.sum
      refine ⟨A, c, r, rfl, hc, hC, hR1, l', hR.c.bo, hR.abs, hR.st.obs, hR.c.tl, by omega, ⟨hR.st.ste.os, hR.st.ste.tape, hR.st.ste.output, Nat.le_trans hW.size hR.st.ste.size, fun k hk hn => ?_⟩, by omega⟩
      refine (hR.st.ste.keep k (Nat.lt_of_lt_of_le hk hW.size) (fun e => ?_)).trans (hW.block k hk)
      rcases e with e | e | e
      · exact hn (by show own k ≠ 0; omega)
      · omega
      · cases e⟩
    clear hn h hown hG hid
    go_enter Tryz.func81, Tryz.ntmps81
    go_wp2_with (first
      | (go_at_call 75; (with_reducible refine (hb _).mono ?_); rintro e w1 ⟨rfl, hw⟩; obtain rfl := hw.symm)
      | (go_at_call 127; refine hgv.mono ?_; rintro e w3 ⟨rfl, l', v', hR⟩; have y0 := blk_cell hR.c.ho 0))
    go_ret2
    exact hP.out _ _ _ hR _
end Go.Proofs.YtgopddjmmoohdaaGreatDoor
