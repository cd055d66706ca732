/- Forests are well formed. -/
import Derived.Test.YtmjedjhgomlfiaaForPutAs
import Derived.Test.YtmjedjhgomlfiaaForShade
import Derived.Test.YtmjedjhgomlfiaaForOwns
set_option linter.unusedSimpArgs false
set_option linter.unusedVariables false
namespace Go.Proofs.Ytmjedjhgomlfiaa
open Go.RowKit Go.Proofs.YtmjedjhgomlfiaaW.PrintWords Go.Proofs.YtmjedjhgomlfiaaW.PrintLast Go.Proofs.Ytmjedjhgomlfiaa.PAuditLeaks

structure WF (l : List S61) : Prop where
  links : linksOk l
  kids : ∀ p x, nodeF l p = some x → ∀ k, k ∈ x.f8 ↔ ∃ y, nodeF l k = some y ∧ y.f1 = p
  host : ∀ k y, nodeF l k = some y → y.f2 ≠ 0 → y.f0 = 3
  par : ∀ k y, nodeF l k = some y → y.f1 ≠ 0 → y.f0 ≠ 1 ∧ y.f0 ≠ 3
  rank : ∃ r : Int → Nat, ∀ k y, nodeF l k = some y → ovF y ≠ 0 → r (ovF y) < r k
  kl : ∀ x ∈ l, x.f8.length ≤ 100000

theorem nodeF_mem {l : List S61} {k : Int} {y : S61} (h : nodeF l k = some y) : y ∈ l := List.mem_of_getElem? (nodeF_get h)
theorem nodeF_of {l : List S61} {k : Int} (h1 : 1 ≤ k) (h2 : k ≤ l.length) : ∃ y, nodeF l k = some y := by
  obtain ⟨j, rfl⟩ : ∃ j : Nat, k = ((j + 1 : Nat) : Int) := ⟨(k - 1).toNat, by omega⟩
  exact ⟨l[j]'(by omega), nodeF_at (List.getElem?_eq_getElem (by omega))⟩
theorem nodeF_range {l : List S61} {k : Int} {y : S61} (h : nodeF l k = some y) : 1 ≤ k ∧ k ≤ l.length := by
  obtain ⟨j, rfl, hj, _⟩ := nodeF_some h
  omega
theorem mem_nodeF {l : List S61} {y : S61} (h : y ∈ l) : ∃ k, nodeF l k = some y := by
  obtain ⟨j, hj⟩ := List.mem_iff_getElem?.1 h
  exact ⟨_, nodeF_at hj⟩
theorem countP_lt {α : Type} (p q : α → Bool) : ∀ (l : List α), (∀ x ∈ l, p x = true → q x = true) → ∀ a ∈ l, q a = true → p a = false → l.countP p < l.countP q
  | [], _, a, ha, _, _ => by cases ha
  | b :: r, h, a, ha, hq, hp => by
    have hr : r.countP p ≤ r.countP q := List.countP_mono_left (fun x hx => h x (List.mem_cons_of_mem _ hx))
    rw [List.countP_cons, List.countP_cons]
    rcases List.mem_cons.1 ha with rfl | ha
    · rw [hq, hp]; simp; omega
    · have := countP_lt p q r (fun x hx => h x (List.mem_cons_of_mem _ hx)) a ha hq hp
      by_cases hb : p b = true
      · rw [hb, h b (List.mem_cons_self) hb]; simp; omega
      · rw [Bool.not_eq_true] at hb
        rw [hb]; simp; split <;> omega
def below_ (r : Int → Nat) (n m : Nat) : Nat := (List.range n).countP (fun i : Nat => decide (r ((i : Int) + 1) < m))
theorem ends_rank {l : List S61} (hL : linksOk l) (r : Int → Nat) (hr : ∀ k y, nodeF l k = some y → ovF y ≠ 0 → r (ovF y) < r k) : ∀ (k : Nat) (id : Int) (x : S61), nodeF l id = some x → below_ r l.length (r id) < k → EndsO l k id
  | 0, id, x, hx, h => by omega
  | k + 1, id, x, hx, h => by
    intro x' hx'
    rw [hx] at hx'
    obtain rfl := Option.some.inj hx'
    by_cases h0 : ovF x = 0
    · rw [h0]; exact EndsO.none (nodeF_zero l) _
    · have hov := hL.ov (nodeF_mem hx)
      obtain ⟨y, hy⟩ := nodeF_of (l := l) (k := ovF x) (by omega) hov.2
      have hlt := hr id x hx h0
      refine ends_rank hL r hr k _ y hy ?_
      have : below_ r l.length (r (ovF x)) < below_ r l.length (r id) := by
        refine countP_lt _ _ _ (fun i _ hi => ?_) (ovF x - 1).toNat (List.mem_range.2 (by omega)) ?_ ?_
        · simp only [decide_eq_true_eq] at hi ⊢; omega
        · simp only [decide_eq_true_eq]; rw [show (((ovF x - 1).toNat : Nat) : Int) + 1 = ovF x by omega]; exact hlt
        · rw [show (((ovF x - 1).toNat : Nat) : Int) + 1 = ovF x by omega]; simp
      omega
theorem WF.endsO {l : List S61} (h : WF l) (id : Int) : EndsO l l.length id := by
  cases hx : nodeF l id with
  | none => exact EndsO.none hx _
  | some x =>
    obtain ⟨r, hr⟩ := h.rank
    have hrg := nodeF_range hx
    refine ends_rank h.links r hr _ id x hx ?_
    have : below_ r l.length (r id) < (List.range l.length).countP (fun _ => true) := by
      refine countP_lt _ _ _ (fun i _ hi => rfl) (id - 1).toNat (List.mem_range.2 (by omega)) rfl ?_
      rw [show (((id - 1).toNat : Nat) : Int) + 1 = id by omega]; simp
    simpa using this
theorem ends_of_endsO {l : List S61} : ∀ (k : Nat) (id : Int), EndsO l k id → Ends l k id
  | 0, _, h => h
  | k + 1, id, h => fun x hx => by
    have := h x hx
    unfold ovF at this
    split at this
    · rename_i h0
      rw [h0]; exact Ends.none (nodeF_zero l) _
    · exact ends_of_endsO k _ this
theorem WF.endsA {l : List S61} (h : WF l) : EndsA l := fun id => ends_of_endsO _ _ (h.endsO id)
theorem WF.kidsOk {l : List S61} (h : WF l) : kidsOk l := h.kl
theorem WF.kid {l : List S61} (h : WF l) : ∀ x ∈ l, ∀ k ∈ x.f8, ∃ y, nodeF l k = some y := fun x hx k hk => by
  obtain ⟨p, hp⟩ := mem_nodeF hx
  obtain ⟨y, hy, _⟩ := (h.kids p x hp k).1 hk
  exact ⟨y, hy⟩
theorem WF.nil : WF [] := by
  refine ⟨fun x hx => (by cases hx), fun p x h => ?_, fun p x h => ?_, fun p x h => ?_, ⟨fun _ => 0, fun p x h => ?_⟩, fun x hx => (by cases hx)⟩
  all_goals (have := nodeF_mem h; cases this)
/-- The part of a node that the law looks at. -/
def sk (y : S61) : Int × Int × Int × List Int := (y.f0, y.f1, y.f2, y.f8)
theorem WF.same {l l' : List S61} (h : WF l) (hl : l'.length = l.length) (hs : ∀ k, (nodeF l' k).map sk = (nodeF l k).map sk) : WF l' := by
  have key : ∀ {k : Int} {y : S61}, nodeF l' k = some y → ∃ y0, nodeF l k = some y0 ∧ y0.f0 = y.f0 ∧ y0.f1 = y.f1 ∧ y0.f2 = y.f2 ∧ y0.f8 = y.f8 := fun {k y} hy => by
    have := hs k
    rw [hy] at this
    obtain ⟨y0, h0, h1⟩ := Option.map_eq_some_iff.1 this.symm
    simp only [sk, Prod.mk.injEq] at h1
    exact ⟨y0, h0, h1.1, h1.2.1, h1.2.2.1, h1.2.2.2⟩
  have kex : ∀ {k : Int} {y : S61}, nodeF l k = some y → ∃ y0, nodeF l' k = some y0 ∧ y0.f0 = y.f0 ∧ y0.f1 = y.f1 ∧ y0.f2 = y.f2 ∧ y0.f8 = y.f8 := fun {k y} hy => by
    have := hs k
    rw [hy] at this
    obtain ⟨y0, h0, h1⟩ := Option.map_eq_some_iff.1 this
    simp only [sk, Prod.mk.injEq] at h1
    exact ⟨y0, h0, h1.1, h1.2.1, h1.2.2.1, h1.2.2.2⟩
  refine ⟨fun x hx => ?_, fun p x hx k => ?_, fun k y hy hn => ?_, fun k y hy hn => ?_, ?_, fun x hx => ?_⟩
  · obtain ⟨k, hk⟩ := mem_nodeF hx
    obtain ⟨y0, h0, e0, e1, e2, e8⟩ := key hk
    have := h.links y0 (nodeF_mem h0)
    rw [hl, ← e1, ← e2]; exact this
  · obtain ⟨x0, h0, e0, e1, e2, e8⟩ := key hx
    rw [← e8, h.kids p x0 h0 k]
    constructor
    · rintro ⟨y, hy, hp⟩
      obtain ⟨y0, g0, g1⟩ := kex hy
      exact ⟨y0, g0, by rw [g1.2.1]; exact hp⟩
    · rintro ⟨y, hy, hp⟩
      obtain ⟨y0, g0, g1⟩ := key hy
      exact ⟨y0, g0, by rw [g1.2.1]; exact hp⟩
  · obtain ⟨y0, h0, e0, e1, e2, e8⟩ := key hy
    rw [← e0]; exact h.host k y0 h0 (by rw [e2]; exact hn)
  · obtain ⟨y0, h0, e0, e1, e2, e8⟩ := key hy
    rw [← e0]; exact h.par k y0 h0 (by rw [e1]; exact hn)
  · obtain ⟨r, hr⟩ := h.rank
    refine ⟨r, fun k y hy hn => ?_⟩
    obtain ⟨y0, h0, e0, e1, e2, e8⟩ := key hy
    have e : ovF y0 = ovF y := by unfold ovF; rw [e1, e2]
    rw [← e]; exact hr k y0 h0 (by rw [e]; exact hn)
  · obtain ⟨k, hk⟩ := mem_nodeF hx
    obtain ⟨y0, h0, e0, e1, e2, e8⟩ := key hk
    rw [← e8]; exact h.kl y0 (nodeF_mem h0)
theorem nodeF_set {l : List S61} {id : Int} {x x' : S61} (h : nodeF l id = some x) (k : Int) : nodeF (l.set (id - 1).toNat x') k = if k = id then some x' else nodeF l k := by
  obtain ⟨j, rfl, hj, hx⟩ := nodeF_some h
  rw [show (((j + 1 : Nat) : Int) - 1).toNat = j by omega]
  unfold nodeF
  by_cases hk : 1 ≤ k
  · rw [if_pos hk, if_pos hk, List.getElem?_set]
    by_cases e : k = ((j + 1 : Nat) : Int)
    · rw [if_pos e, if_pos (by omega), if_pos hj]
    · rw [if_neg e, if_neg (by omega)]
  · rw [if_neg hk, if_neg hk, if_neg (by omega)]
theorem WF.set_same {l : List S61} (h : WF l) {id : Int} {x x' : S61} (hx : nodeF l id = some x) (hs : sk x' = sk x) : WF (l.set (id - 1).toNat x') :=
  h.same (by simp) (fun k => by
    rw [nodeF_set hx]
    split
    · rename_i e; subst e; rw [hx]; simp [hs]
    · rfl)
theorem WF.name {l : List S61} (h : WF l) (id : Int) (s : ByteArray) : WF (nameF l id s) := by
  unfold nameF
  split
  · exact h
  · rename_i x hx
    split
    · split
      · exact h.set_same hx rfl
      · exact h
    · exact h
theorem WF.want {l : List S61} (h : WF l) (id : Int) (s : ByteArray) : WF (wantF l id s) := by
  unfold wantF
  split
  · exact h
  · rename_i x hx
    split
    · split
      · exact h.set_same hx rfl
      · exact h
    · exact h
theorem nodeF_append {l : List S61} (x : S61) (k : Int) : nodeF (l ++ [x]) k = if k = l.length + 1 then some x else nodeF l k := by
  unfold nodeF
  by_cases hk : 1 ≤ k
  · rw [if_pos hk, if_pos hk]
    by_cases e : k = l.length + 1
    · rw [if_pos e, List.getElem?_append_right (by omega), show (k - 1).toNat - l.length = 0 by omega]; rfl
    · rw [if_neg e]
      by_cases hlt : (k - 1).toNat < l.length
      · rw [List.getElem?_append_left hlt]
      · rw [List.getElem?_eq_none (by simp; omega), List.getElem?_eq_none (by omega)]
  · rw [if_neg hk, if_neg hk, if_neg (by omega)]
theorem WF.make {l : List S61} (h : WF l) (k m : Int) (sl : Bool) (nm wt : ByteArray) : WF (makeF l k m sl nm wt) := by
  unfold makeF
  split
  · split
    · have hf : ∀ {k' : Int} {y : S61}, nodeF (l ++ [⟨k, 0, 0, 0, m, sl, nm, wt, []⟩]) k' = some y → (k' = l.length + 1 ∧ y = ⟨k, 0, 0, 0, m, sl, nm, wt, []⟩) ∨ nodeF l k' = some y := fun {k' y} hy => by
        rw [nodeF_append] at hy
        split at hy
        · rename_i e; exact Or.inl ⟨e, (Option.some.inj hy).symm⟩
        · exact Or.inr hy
      have hb : ∀ {k' : Int} {y : S61}, nodeF l k' = some y → nodeF (l ++ [⟨k, 0, 0, 0, m, sl, nm, wt, []⟩]) k' = some y := fun {k' y} hy => by
        have := nodeF_range hy
        rw [nodeF_append, if_neg (by omega)]; exact hy
      refine ⟨fun x hx => ?_, fun p x hx k' => ?_, fun k' y hy hn => ?_, fun k' y hy hn => ?_, ?_, fun x hx => ?_⟩
      · rcases List.mem_append.1 hx with hx | hx
        · have := h.links x hx; simp; omega
        · rw [List.mem_singleton] at hx; subst hx; simp; omega
      · rcases hf hx with ⟨e, rfl⟩ | hx
        · constructor
          · intro hk; cases hk
          · rintro ⟨y, hy, hp⟩
            rcases hf hy with ⟨_, rfl⟩ | hy
            · simp at hp; omega
            · have := h.links y (nodeF_mem hy); omega
        · rw [h.kids p x hx k']
          constructor
          · rintro ⟨y, hy, hp⟩; exact ⟨y, hb hy, hp⟩
          · rintro ⟨y, hy, hp⟩
            rcases hf hy with ⟨_, rfl⟩ | hy
            · have := nodeF_range hx; simp at hp; omega
            · exact ⟨y, hy, hp⟩
      · rcases hf hy with ⟨_, rfl⟩ | hy
        · exact absurd rfl hn
        · exact h.host k' y hy hn
      · rcases hf hy with ⟨_, rfl⟩ | hy
        · exact absurd rfl hn
        · exact h.par k' y hy hn
      · obtain ⟨r, hr⟩ := h.rank
        refine ⟨r, fun k' y hy hn => ?_⟩
        rcases hf hy with ⟨_, rfl⟩ | hy
        · exact absurd rfl hn
        · exact hr k' y hy hn
      · rcases List.mem_append.1 hx with hx | hx
        · exact h.kl x hx
        · rw [List.mem_singleton] at hx; subst hx; simp
    · exact h
  · exact h
end Go.Proofs.Ytmjedjhgomlfiaa

set_option linter.unusedSimpArgs false
set_option linter.unusedVariables false
namespace Go.Proofs.Ytmjedjhgomlfiaa
open Go.RowKit Go.Proofs.YtmjedjhgomlfiaaW.PrintWords Go.Proofs.YtmjedjhgomlfiaaW.PrintLast Go.Proofs.Ytmjedjhgomlfiaa.PAuditLeaks

open Classical in
theorem rank_link {l l' : List S61} (h : WF l) (S : Int → Prop) (p : Int) (hp : ∀ s, S s → s ∉ overL l l.length p)
    (hc : ∀ k y', nodeF l' k = some y' → ovF y' ≠ 0 → (S k ∧ ovF y' = p ∧ ∃ y, nodeF l k = some y) ∨ (¬ S k ∧ ∃ y, nodeF l k = some y ∧ ovF y = ovF y')) :
    ∃ r : Int → Nat, ∀ k y, nodeF l' k = some y → ovF y ≠ 0 → r (ovF y) < r k := by
  obtain ⟨r, hr⟩ := h.rank
  have hstep : ∀ k y, nodeF l k = some y → overL l l.length k = k :: overL l l.length (ovF y) := fun k y hy => by
    have hrg := nodeF_range hy
    obtain ⟨m, hm⟩ : ∃ m, l.length = m + 1 := ⟨l.length - 1, by omega⟩
    have he := h.endsO k
    rw [hm] at he ⊢
    rw [overL_some hy, overL_more m 1 _ (he y hy)]
  refine ⟨fun k => r k + if (∃ s, S s ∧ s ∈ overL l l.length k) then r p + 1 else 0, fun k y' hy' hn => ?_⟩
  simp only
  rcases hc k y' hy' hn with ⟨hS, e, y, hy⟩ | ⟨hS, y, hy, e⟩
  · rw [e, if_neg (fun ⟨s, h1, h2⟩ => hp s h1 h2), if_pos ⟨k, hS, by rw [hstep k y hy]; exact List.mem_cons_self⟩]
    omega
  · rw [← e] at hn ⊢
    have hlt := hr k y hy hn
    have hB : (∃ s, S s ∧ s ∈ overL l l.length k) ↔ (∃ s, S s ∧ s ∈ overL l l.length (ovF y)) := by
      rw [hstep k y hy]
      constructor
      · rintro ⟨s, h1, h2⟩
        rcases List.mem_cons.1 h2 with rfl | h2
        · exact absurd h1 hS
        · exact ⟨s, h1, h2⟩
      · rintro ⟨s, h1, h2⟩
        exact ⟨s, h1, List.mem_cons_of_mem _ h2⟩
    by_cases hb : ∃ s, S s ∧ s ∈ overL l l.length (ovF y)
    · rw [if_pos hb, if_pos (hB.2 hb)]; omega
    · rw [if_neg hb, if_neg (fun h => hb (hB.1 h))]; omega
theorem WF.tie {l : List S61} (h : WF l) (a b : Int) : WF (tieF l a b) := by
  cases hx : nodeF l a with
  | none => rw [tieF_none b hx]; exact h
  | some x =>
    cases hy : nodeF l b with
    | none => rw [tieF_none2 hx hy]; exact h
    | some y =>
      rw [tieF_some hx hy]
      split
      case isFalse => exact h
      rename_i c1
      split
      case isFalse => exact h
      rename_i c2
      split
      case isFalse => exact h
      rename_i c3
      split
      case isFalse => exact h
      rename_i c4
      split
      case isTrue => exact h
      rename_i c5
      have hab : a ≠ b := fun e => by subst e; rw [hx] at hy; obtain rfl := Option.some.inj hy; omega
      have hra := nodeF_range hx
      have hy' : nodeF (l.set (a - 1).toNat { x with f3 := b }) b = some y := by rw [nodeF_set hx, if_neg (Ne.symm hab)]; exact hy
      have hN : ∀ k, nodeF ((l.set (a - 1).toNat { x with f3 := b }).set (b - 1).toNat { y with f2 := a }) k = if k = b then some { y with f2 := a } else if k = a then some { x with f3 := b } else nodeF l k := fun k => by
        rw [nodeF_set hy', nodeF_set hx]
      have hy1 : y.f1 = 0 := by
        by_cases e : y.f1 = 0
        · exact e
        · exact absurd c2 (h.par b y hy e).2
      have hlen : ((l.set (a - 1).toNat { x with f3 := b }).set (b - 1).toNat { y with f2 := a }).length = l.length := by simp
      generalize (l.set (a - 1).toNat { x with f3 := b }).set (b - 1).toNat { y with f2 := a } = l' at hN hlen
      have key : ∀ {k : Int} {z : S61}, nodeF l' k = some z → ∃ z0, nodeF l k = some z0 ∧ z.f0 = z0.f0 ∧ z.f1 = z0.f1 ∧ z.f8 = z0.f8 ∧ ((k = b ∧ z.f2 = a) ∨ (k ≠ b ∧ z.f2 = z0.f2)) := fun {k z} hz => by
        rw [hN] at hz
        split at hz
        · rename_i e; subst e
          obtain rfl := Option.some.inj hz
          exact ⟨y, hy, rfl, rfl, rfl, Or.inl ⟨rfl, rfl⟩⟩
        · rename_i e0
          split at hz
          · rename_i e; subst e
            obtain rfl := Option.some.inj hz
            exact ⟨x, hx, rfl, rfl, rfl, Or.inr ⟨e0, rfl⟩⟩
          · exact ⟨z, hz, rfl, rfl, rfl, Or.inr ⟨e0, rfl⟩⟩
      have kex : ∀ {k : Int} {z0 : S61}, nodeF l k = some z0 → ∃ z, nodeF l' k = some z ∧ z.f1 = z0.f1 := fun {k z0} hz => by
        rw [hN]
        split
        · rename_i e; subst e
          rw [hy] at hz; obtain rfl := Option.some.inj hz
          exact ⟨_, rfl, rfl⟩
        · split
          · rename_i e; subst e
            rw [hx] at hz; obtain rfl := Option.some.inj hz
            exact ⟨_, rfl, rfl⟩
          · exact ⟨z0, hz, rfl⟩
      refine ⟨fun z hz => ?_, fun p z hz k => ?_, fun k z hz hn => ?_, fun k z hz hn => ?_, ?_, fun z hz => ?_⟩
      · obtain ⟨k, hk⟩ := mem_nodeF hz
        obtain ⟨z0, g0, e0, e1, e8, e2⟩ := key hk
        have := h.links z0 (nodeF_mem g0)
        rw [hlen, e1]
        rcases e2 with ⟨_, e2⟩ | ⟨_, e2⟩ <;> rw [e2] <;> omega
      · obtain ⟨z0, g0, e0, e1, e8, e2⟩ := key hz
        rw [e8, h.kids p z0 g0 k]
        constructor
        · rintro ⟨q, hq, hp⟩
          obtain ⟨q', i0, i1⟩ := kex hq
          exact ⟨q', i0, i1.trans hp⟩
        · rintro ⟨q, hq, hp⟩
          obtain ⟨q', i0, _, i1, _⟩ := key hq
          exact ⟨q', i0, i1.symm.trans hp⟩
      · obtain ⟨z0, g0, e0, e1, e8, e2⟩ := key hz
        rcases e2 with ⟨ek, e2⟩ | ⟨_, e2⟩
        · subst ek
          rw [hy] at g0; obtain rfl := Option.some.inj g0
          rw [e0]; exact c2
        · rw [e0]; exact h.host k z0 g0 (by rw [← e2]; exact hn)
      · obtain ⟨z0, g0, e0, e1, e8, e2⟩ := key hz
        rw [e0]; exact h.par k z0 g0 (by rw [← e1]; exact hn)
      · refine rank_link h (fun k => k = b) a (fun s hs => by subst hs; exact c5) (fun k z hz hn => ?_)
        obtain ⟨z0, g0, e0, e1, e8, e2⟩ := key hz
        rcases e2 with ⟨ek, e2⟩ | ⟨ek, e2⟩
        · left
          subst ek
          rw [hy] at g0; obtain rfl := Option.some.inj g0
          exact ⟨rfl, by unfold ovF; rw [if_pos (e1.trans hy1), e2], _, hy⟩
        · right
          exact ⟨ek, z0, g0, by unfold ovF; rw [e1, e2]⟩
      · obtain ⟨k, hk⟩ := mem_nodeF hz
        obtain ⟨z0, g0, e0, e1, e8, e2⟩ := key hk
        rw [e8]; exact h.kl z0 (nodeF_mem g0)
theorem nodeF_setPar1 (v : Int) (l : List S61) (k0 k : Int) : nodeF (setPar1 v l k0) k = (nodeF l k).map (fun y => if k = k0 then { y with f1 := v } else y) := by
  unfold setPar1
  split
  · rename_i hn
    by_cases e : k = k0
    · subst e; rw [hn]; rfl
    · simp [e]
  · rename_i x hx
    rw [nodeF_set hx]
    by_cases e : k = k0
    · subst e; rw [if_pos rfl, hx]; simp
    · rw [if_neg e]; simp [e]
theorem nodeF_setPar (v : Int) : ∀ (ks : List Int) (l : List S61) (k : Int), nodeF (setPar v l ks) k = (nodeF l k).map (fun y => if k ∈ ks then { y with f1 := v } else y)
  | [], l, k => by simp [setPar]
  | a :: r, l, k => by
    rw [show setPar v l (a :: r) = setPar v (setPar1 v l a) r from rfl, nodeF_setPar v r, nodeF_setPar1, Option.map_map]
    congr 1
    funext y
    simp only [Function.comp]
    by_cases e : k = a
    · subst e
      by_cases e2 : k ∈ r <;> simp [e2]
    · by_cases e2 : k ∈ r <;> simp [e2, e]
end Go.Proofs.Ytmjedjhgomlfiaa

set_option linter.unusedSimpArgs false
set_option linter.unusedVariables false
namespace Go.Proofs.Ytmjedjhgomlfiaa
open Go.RowKit Go.Proofs.YtmjedjhgomlfiaaW.PrintWords Go.Proofs.YtmjedjhgomlfiaaW.PrintLast Go.Proofs.Ytmjedjhgomlfiaa.PAuditLeaks

theorem okKids_mem {l : List S61} {p : Int} : ∀ {ks : List Int}, okKids l p ks = true → ∀ k ∈ ks, ∃ y, nodeF l k = some y ∧ rootedF y = false ∧ k ∉ overL l l.length p ∧ (y.f1 = 0 ∨ y.f1 = p)
  | [], _, k, hk => by cases hk
  | a :: r, h, k, hk => by
    rw [okKids] at h
    cases hn : nodeF l a with
    | none => rw [hn] at h; cases h
    | some y =>
      rw [hn] at h
      simp only at h
      split at h
      · cases h
      rename_i h1
      split at h
      · cases h
      rename_i h2
      rw [Bool.not_eq_true] at h1
      split at h
      · rename_i h3
        rcases List.mem_cons.1 hk with rfl | hk
        · exact ⟨y, hn, h1, h2, Or.inl h3⟩
        · exact okKids_mem h k hk
      · split at h
        · rename_i h3
          rcases List.mem_cons.1 hk with rfl | hk
          · exact ⟨y, hn, h1, h2, Or.inr h3⟩
          · exact okKids_mem h k hk
        · cases h
/-- What Put makes of a node. -/
def putN (p : Int) (ks old : List Int) (k : Int) (y : S61) : S61 := ⟨y.f0, if k ∈ ks then p else if k ∈ old then 0 else y.f1, y.f2, y.f3, y.f4, y.f5, y.f6, y.f7, if k = p then ks else y.f8⟩
theorem putF_nodes {l : List S61} {p : Int} {ks : List Int} {x : S61} (hx : nodeF l p = some x) (h1 : okIds l [] ks = true) (h2 : okKids l p ks = true) :
    (putF l p ks).length = l.length ∧ ∀ k, nodeF (putF l p ks) k = (nodeF l k).map (putN p ks x.f8 k) := by
  have hlen : (setPar p (setPar 0 l x.f8) ks).length = l.length := by rw [setPar_length, setPar_length]
  obtain ⟨y, hy⟩ := nodeF_len hlen hx
  rw [putF_ok hx h1 h2 hy]
  refine ⟨by simp [hlen], fun k => ?_⟩
  rw [nodeF_set hy]
  rw [nodeF_setPar, nodeF_setPar, Option.map_map] at hy
  rw [nodeF_setPar, nodeF_setPar, Option.map_map]
  by_cases e : k = p
  · subst e
    rw [if_pos rfl, hx]
    rw [hx] at hy
    simp only [Option.map_some, Function.comp, Option.some.injEq] at hy ⊢
    subst hy
    by_cases e1 : k ∈ ks <;> by_cases e2 : k ∈ x.f8 <;> simp [putN, e1, e2]
  · rw [if_neg e]
    congr 1
    funext z
    by_cases e1 : k ∈ ks <;> by_cases e2 : k ∈ x.f8 <;> simp [putN, e1, e2, e]
theorem WF.put {l : List S61} (h : WF l) (p : Int) (ks : List Int) (hkl : ks.length ≤ 100000) : WF (putF l p ks) := by
  cases hx : nodeF l p with
  | none => unfold putF; rw [hx]; exact h
  | some x =>
    cases h1 : okIds l [] ks with
    | false => rw [putF_bad hx h1]; exact h
    | true =>
      cases h2 : okKids l p ks with
      | false => rw [putF_bad2 hx h2]; exact h
      | true =>
        obtain ⟨hlen, hN⟩ := putF_nodes hx h1 h2
        have hm := okKids_mem h2
        have hp := nodeF_range hx
        have hold := h.kids p x hx
        generalize putF l p ks = l' at *
        have key : ∀ {k : Int} {z : S61}, nodeF l' k = some z → ∃ z0, nodeF l k = some z0 ∧ z = putN p ks x.f8 k z0 := fun {k z} hz => by
          rw [hN] at hz
          obtain ⟨z0, g0, g1⟩ := Option.map_eq_some_iff.1 hz
          exact ⟨z0, g0, g1.symm⟩
        refine ⟨fun z hz => ?_, fun q z hz k => ?_, fun k z hz hn => ?_, fun k z hz hn => ?_, ?_, fun z hz => ?_⟩
        · obtain ⟨k, hk⟩ := mem_nodeF hz
          obtain ⟨z0, g0, rfl⟩ := key hk
          have := h.links z0 (nodeF_mem g0)
          rw [hlen]
          simp only [putN]
          split
          · omega
          · split <;> omega
        · obtain ⟨z0, g0, rfl⟩ := key hz
          have hq := nodeF_range g0
          by_cases e : q = p
          · subst e
            simp only [putN, if_pos]
            constructor
            · intro hk
              obtain ⟨y, hy, _⟩ := hm k hk
              refine ⟨putN q ks x.f8 k y, by rw [hN, hy]; rfl, ?_⟩
              simp only [putN]; rw [if_pos hk]
            · rintro ⟨w, hw, hwp⟩
              obtain ⟨w0, i0, rfl⟩ := key hw
              simp only [putN] at hwp
              split at hwp
              · assumption
              · split at hwp
                · omega
                · rename_i n1 n2
                  exact absurd ((hold k).2 ⟨w0, i0, hwp⟩) n2
          · simp only [putN, if_neg e]
            rw [h.kids q z0 g0 k]
            constructor
            · rintro ⟨y, hy, hyq⟩
              refine ⟨putN p ks x.f8 k y, by rw [hN, hy]; rfl, ?_⟩
              simp only [putN]
              rw [if_neg (fun hk => by
                obtain ⟨y2, hy2, _, _, h3⟩ := hm k hk
                rw [hy] at hy2; obtain rfl := Option.some.inj hy2
                omega), if_neg (fun hk => by
                obtain ⟨y2, hy2, h3⟩ := (hold k).1 hk
                rw [hy] at hy2; obtain rfl := Option.some.inj hy2
                omega)]
              exact hyq
            · rintro ⟨w, hw, hwp⟩
              obtain ⟨w0, i0, rfl⟩ := key hw
              simp only [putN] at hwp
              split at hwp
              · omega
              · split at hwp
                · omega
                · exact ⟨w0, i0, hwp⟩
        · obtain ⟨z0, g0, rfl⟩ := key hz
          exact h.host k z0 g0 hn
        · obtain ⟨z0, g0, rfl⟩ := key hz
          simp only [putN] at hn ⊢
          split at hn
          · rename_i hk
            obtain ⟨y2, hy2, h3, _⟩ := hm k hk
            rw [g0] at hy2; obtain rfl := Option.some.inj hy2
            simp [rootedF] at h3
            exact h3
          · split at hn
            · exact absurd rfl hn
            · exact h.par k z0 g0 hn
        · refine rank_link h (fun k => k ∈ ks) p (fun s hs => (hm s hs).elim (fun _ h => h.2.2.1)) (fun k z hz hn => ?_)
          obtain ⟨z0, g0, rfl⟩ := key hz
          by_cases hk : k ∈ ks
          · left
            refine ⟨hk, ?_, z0, g0⟩
            unfold ovF putN
            simp only
            rw [if_pos hk, if_neg (by omega)]
          · right
            refine ⟨hk, z0, g0, ?_⟩
            by_cases ho : k ∈ x.f8
            · exfalso
              obtain ⟨y2, hy2, h3⟩ := (hold k).1 ho
              rw [g0] at hy2; obtain rfl := Option.some.inj hy2
              refine hn ?_
              unfold ovF putN
              simp only
              rw [if_neg hk, if_pos ho, if_pos rfl]
              by_cases e : z0.f2 = 0
              · exact e
              · exact absurd (h.host k z0 g0 e) (h.par k z0 g0 (by omega)).2
            · unfold ovF putN
              simp only
              rw [if_neg hk, if_neg ho]
        · obtain ⟨k, hk⟩ := mem_nodeF hz
          obtain ⟨z0, g0, rfl⟩ := key hk
          simp only [putN]
          split
          · exact hkl
          · exact h.kl z0 (nodeF_mem g0)
end Go.Proofs.Ytmjedjhgomlfiaa
