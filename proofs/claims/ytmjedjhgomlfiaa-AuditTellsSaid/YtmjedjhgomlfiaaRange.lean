/- A range over a function that is never left early, and one round of it: by what lies in the record. -/
import Derived.Test.YtmjedjhgomlfiaaHeldIn
import Derived.RangeFuncNested
import Derived.RangeFuncLeaves
import Derived.RangeFuncCalls
namespace Go.Proofs.Ytmjedjhgomlfiaa
open Go.RowKit

/-- The record of a loop that no round leaves. -/
def recAt (fn : FuncId) (tmps : Array Value) (ps : Array Tmp) (assign body : Code) (D : Nat) (st : LoopState) : Loop :=
  { state := st, pending := none, fn, tmps, params := ps, assign, body, defers := D }

section
variable {F : Fence} {n : Nat} {P : Program}

theorem rangeFunc_plain {g : Operand} {ps : Array Tmp} {assign body : Code} {Q : Exit → Act → World → Prop} {a : Act} {w : World}
    (hro : F.round = none) (hfn : ∀ f, F.fn f) (hd : F.depth = none) {gf : Nat} {lb : Array Value} (hg : a.eval g = .func (.func gf) #[] lb) (eg : ∀ args w, (callFunc gf args).run P w = .ok (.enter gf args) w)
    (h : ∀ fn, CallsIn F (n - 1) P gf (#[.func (.yield (w.heap.size + 1)) #[] #[]] ++ lb)
      ((w.alloc (.deferred (some []))).alloc (.loop (recAt fn a.tmps ps assign body w.heap.size .ready))) fun e W2 => (∃ v, e = .returned v) ∧
        W2.heap[w.heap.size + 1]? = some (.loop (recAt fn a.tmps ps assign body w.heap.size .ready)) ∧
        Q .normal { a with defers := { target := .collected w.heap.size, args := #[] } :: a.defers } (W2.putObj (w.heap.size + 1) (.loop (recAt fn a.tmps ps assign body w.heap.size .exhausted)))) :
    (Code.rangeFunc g ps assign body).wpIn F n P Q a w := by
  refine wpIn_rangeFunc ?_
  intro fn _
  rw [hro]
  obtain ⟨W1, hW1⟩ : ∃ W1, (w.alloc (.deferred (some []))).alloc (.loop (recAt fn a.tmps ps assign body w.heap.size .ready)) = W1 := ⟨_, rfl⟩
  refine ⟨w.heap.size + 1, [{ target := .collected w.heap.size, args := #[] }], W1, { target := .fn (.func gf) lb, args := #[.func (.yield (w.heap.size + 1)) #[] #[]] }, W1, gf,
    #[.func (.yield (w.heap.size + 1)) #[] #[]] ++ lb, W1, ?_, ?_, fun f _ => hfn f, ?_, fun h => absurd h (by rw [hd]; simp), ?_⟩
  · rw [← hW1]; exact run_enterLoop_outer _ _ _ _ _
  · simp only [resolve, hg]
    simp [go_sem]
  · simp [invoke, go_sem, eg]
  · rw [← hW1]
    refine (h fn).mono ?_
    rintro e W2 ⟨⟨v, rfl⟩, hl, hq⟩
    exact ⟨none, _, run_endLoop (P := P) hl (by simp [recAt]), hq⟩

theorem round_plain {l : Nat} {fn : FuncId} {tmps args : Array Value} {ps : Array Tmp} {assign body : Code} {D : Nat} {rc : LoopState → Loop} {W : World} {R : Ending → World → Prop} (hfn : ∀ f, F.fn f)
    (hr : recAt fn tmps ps assign body D = rc) (hl : W.heap[l]? = some (.loop (rc .ready))) (hps : args.size = ps.size)
    (h : assign.wpIn (F.inRound l) n P (Exit.then (fun a₁ w₁ => w₁.heap[l]? = some (.loop (rc .ready)) ∧
      body.wpIn (F.inRound l) n P (fun e _ w₂ => e = .normal ∧ w₂.heap[l]? = some (.loop (rc .busy)) ∧ R (.returned (.bool true)) (w₂.putObj l (.loop (rc .ready)))) a₁
        (w₁.putObj l (.loop (rc .busy)))) (fun _ _ _ => False)) { tmps := (ps.zip args).foldl (fun tmps (t, a) => tmps.setIfInBounds t a) tmps, defers := [] } W) :
    YieldAt F n P l args W R := by
  subst hr
  refine ⟨fn, _, assign, body, run_yield (P := P) hl (by simpa [recAt] using hps), roundIn_of_wpIn (hfn _) ?_⟩
  refine wpIn_mono h ?_
  rintro e a w he
  cases e with
  | normal =>
    obtain ⟨hl1, hb⟩ := he
    refine ⟨_, run_beginRound hl1 (by simp [recAt]), wpIn_mono hb ?_⟩
    rintro e a w ⟨rfl, hl2, hR⟩
    exact ⟨_, _, run_endRound (P := P) none hl2, hR⟩
  | ret => exact he
  | exit _ => exact he
  | goto _ => exact he
  | panic _ => exact he
  | outgrown => exact he
end

theorem alloc_at {W : World} {k : Nat} {o : Obj} (h : W.heap[k]? = some o) (x : Obj) : (W.alloc x).heap[k]? = some o := (Below.heap_alloc W x k (Array.getElem?_eq_some_iff.1 h).1).trans h

theorem below_at {A B : World} {k : Nat} {o : Obj} (h : Below A.heap.size A B) (hk : A.heap[k]? = some o) : B.heap[k]? = some o := (h.block k (Array.getElem?_eq_some_iff.1 hk).1).trans hk

/-- What an iterator of this seat does to the world: its caller's own cells (of the types 22 and 24), and all that lay below n, lie as they lay. -/
structure Quiet (n : Nat) (W W' : World) : Prop where
  below : Below n W W'
  own : ∀ (k : Nat) (cs : Array Value) (t : TypeId) (f : Nat × Nat), W.heap[k]? = some (.cells cs t f) → t = 22 ∨ t = 24 → W'.heap[k]? = W.heap[k]?
theorem Quiet.refl (n : Nat) (W : World) : Quiet n W W := ⟨Below.refl _ _, fun _ _ _ _ _ _ => rfl⟩
theorem Quiet.trans {n : Nat} {A B C : World} (h : Quiet n A B) (k : Quiet n B C) : Quiet n A C :=
  ⟨h.below.trans k.below, fun i cs t f hi ht => (k.own i cs t f ((h.own i cs t f hi ht).trans hi) ht).trans (h.own i cs t f hi ht)⟩
theorem Quiet.of_below {n : Nat} {A B : World} (h : Below A.heap.size A B) (hn : n ≤ A.heap.size) : Quiet n A B :=
  ⟨⟨h.os, h.tape, h.output, h.size, fun k hk => h.block k (Nat.lt_of_lt_of_le hk hn)⟩, fun k _ _ _ hi _ => h.block k (Array.getElem?_eq_some_iff.1 hi).1⟩
theorem Quiet.mono {n m : Nat} {A B : World} (h : Quiet n A B) (hm : m ≤ n) : Quiet m A B :=
  ⟨⟨h.below.os, h.below.tape, h.below.output, h.below.size, fun k hk => h.below.block k (Nat.lt_of_lt_of_le hk hm)⟩, h.own⟩
theorem quiet_putObj {n l : Nat} {W : World} {r : Loop} (hl : W.heap[l]? = some (.loop r)) (hn : n ≤ l) (o : Obj) : Quiet n W (W.putObj l o) :=
  ⟨⟨rfl, rfl, rfl, by simp, fun k hk => World.putObj_heap_other (by omega)⟩, fun k cs t f hi _ => World.putObj_heap_other (fun e => by rw [e, hl] at hi; cases hi)⟩

theorem quiet_putD {n l : Nat} {W : World} {d : Option (List Deferred)} (hl : W.heap[l]? = some (.deferred d)) (hn : n ≤ l) (o : Obj) : Quiet n W (W.putObj l o) :=
  ⟨⟨rfl, rfl, rfl, by simp, fun k hk => World.putObj_heap_other (by omega)⟩, fun k cs t f hi _ => World.putObj_heap_other (fun e => by rw [e, hl] at hi; cases hi)⟩

/-- What a round of this seat does to the world: all but cells of the types 22 and 24, and the record l, lies as it lay. -/
structure Keeps (l : Nat) (W W' : World) : Prop where
  size : W.heap.size ≤ W'.heap.size
  same : ∀ (k : Nat) (o : Obj), W.heap[k]? = some o → k ≠ l → (∀ (cs : Array Value) (t : TypeId) (f : Nat × Nat), o = .cells cs t f → t ≠ 22 ∧ t ≠ 24) → W'.heap[k]? = some o
end Go.Proofs.Ytmjedjhgomlfiaa
