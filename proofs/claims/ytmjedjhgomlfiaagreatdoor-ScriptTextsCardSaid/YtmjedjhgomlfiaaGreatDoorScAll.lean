/- Scripts: lines, programs, what a line's words do, and script.Parse. -/
import Derived.OrdersHeld
import Derived.OrdersIn
import Derived.OwnWalkIn
import Derived.RangeFuncNested
import Derived.RangeFuncCalls
import Derived.RangeFuncLeaves
import Derived.Shelf.Strings.Prefix
import Derived.Shelf.Strings.Search3
import Derived.Test.YtmjedjhgomlfiaaGreatDoorShelf
import Derived.Test.YtmjedjhgomlfiaaGreatDoorSplits
import Derived.Test.YtmjedjhgomlfiaaGreatDoorRSplit
import Derived.Lib.IndexLaws
import Derived.Shelf.Abstract
import Derived.TacticsInMore
import Derived.LoopIn
import Derived.Test.YtmjedjhgomlfiaaGreatDoorTextsAll
import Derived.Test.YtmjedjhgomlfiaaGreatDoorWEqStruct
import Derived.BigQuiet
import Derived.Deep.QuietTactic
import Derived.Test.YtmjedjhgomlfiaaGreatDoorWApart
namespace Go.Proofs.YtmjedjhgomlfiaaGreatDoor
open Go

section
variable {F : Fence} {n : Nat} {P : Program} {ops : Array Oper} {Q : Exit → Act → World → Prop} {md : Region.Mode} {S : World → Prop}

/-- No operation is a defer statement. -/
def noDefer (ops : Array Oper) : Bool := ops.all fun o => match o.op with | .defer _ => false | _ => true
theorem noDefer_spec (h : noDefer ops = true) (j : Nat) (o : Oper) (c : Call) (ho : ops[j]? = some o) : o.op ≠ .defer c := fun heq => by
  have h1 := Array.all_eq_true_iff_forall_mem.1 h o (Array.mem_of_getElem? ho)
  rw [heq] at h1
  exact absurd h1 (by simp)

theorem yieldsIf_wpOpIn (hfn : ∀ f, F.fn f) {i : Nat} {o : Oper} {v : Value} {a : Act} (hnd : ∀ c, o.op ≠ .defer c) (hi : ops[i]? = some o) (hy : YieldsIf P ops S o v a)
    {K : Act → World → Prop} {w : World} (hS : S w) (h : K (a.put o.dst v) w) : wpOpIn F n P ops Q i K a w := by
  unfold Go.wpOpIn
  simp only [hi]
  rcases hy with ⟨hw, hv⟩ | ⟨hw, rfl⟩
  · simp only [hw, if_true, Oper.wpIn, Oper.semAt_plain F _ _ hnd, hv w hS, Oper.uponIn]; exact ⟨fun f _ => hfn f, h⟩
  · simp only [hw, Bool.false_eq_true, if_false]; exact ⟨fun f _ => hfn f, h⟩

theorem wpOpIn_putIf (hfn : ∀ f, F.fn f) {j : Nat} {oi oj : Oper} {v : Value} (hnd : ∀ c, oj.op ≠ .defer c) (hj : ops[j]? = some oj) (hap : oi.apart ops oj = true)
    (hsi : ∀ cs b, oi.op ≠ .select cs b) (hsj : ∀ cs b, oj.op ≠ .select cs b)
    (hQ : ∀ c a w, Q (.panic c) (a.put oi.dst v) w → Q (.panic c) a w) {K : Act → World → Prop} {a : Act} {w : World}
    (hy : YieldsIf P ops S oi v a) (h : wpOpIn F n P ops Q j K (a.put oi.dst v) w) :
    wpOpIn F n P ops Q j (fun a' w' => YieldsIf P ops S oi v a' ∧ K (a'.put oi.dst v) w') a w := by
  obtain ⟨h1, h2, h3⟩ := Oper.apart_spec hap
  have keep : ∀ (a : Act), YieldsIf P ops S oi v a → ∀ u, YieldsIf P ops S oi v (a.put oj.dst u) := fun a hy u =>
    hy.of_same (execOp_put oi hsi a oj.dst u h3) (wanted_put oi a oj.dst u h3)
  have keepD : ∀ d, YieldsIf P ops S oi v { a with defers := d :: a.defers } := fun d => hy.of_same rfl rfl
  unfold wpOpIn at *
  simp only [hj] at *
  rw [wanted_put oj a oi.dst v h1] at h
  split
  · rename_i hw
    simp only [hw, if_true] at h
    unfold Oper.wpIn at *
    refine ⟨fun f _ => hfn f, ?_⟩
    have h := h.2
    rw [Oper.semAt_plain F _ _ hnd, execOp_put oj hsj a oi.dst v h1] at h
    rw [Oper.semAt_plain F _ _ hnd]
    generalize (execOp a.eval oj).run P w = r at *
    cases r with
    | ok x w' =>
      cases x <;> simp only [Oper.uponIn] at h ⊢
      case value u => exact ⟨keep a hy u, by rw [← Act.put_comm a v u h2]; exact h⟩
      case skip => exact ⟨keep a hy _, by rw [← Act.put_comm a v undef h2]; exact h⟩
      case defer d =>
        refine ⟨keep _ (keepD d) _, ?_⟩
        rw [← Act.put_comm _ v undef h2, ← Act.put_defers]
        exact h
      case enter f args =>
        refine ⟨h.1, CallsIn.mono h.2 fun e w'' he => ?_⟩
        cases e with
        | returned u => exact ⟨keep a hy u, by rw [← Act.put_comm a v u h2]; exact he⟩
        | panicked c => exact hQ _ _ _ he
        | outgrown => exact he
      case row row args => exact ⟨h.1, RowsIn.mono h.2 fun u w'' he => ⟨keep a hy u, by rw [← Act.put_comm a v u h2]; exact he⟩⟩
      case round l f tmps assign body =>
        refine ⟨h.1, RoundIn.mono h.2 fun e w'' he => ?_⟩
        cases e with
        | returned u => exact ⟨keep a hy u, by rw [← Act.put_comm a v u h2]; exact he⟩
        | panicked c => exact hQ _ _ _ he
        | outgrown => exact he
    | halt x w' =>
      cases x <;> simp only [Oper.uponIn] at h ⊢
      case panic u => exact hQ _ _ _ h
  · rename_i hw
    simp only [hw] at h
    exact ⟨fun f _ => hfn f, keep a hy _, by rw [← Act.put_comm a v undef h2]; exact h.2⟩

/-- Whatever order is picked from here on, and S holds behind every operation. -/
def wpAnyR (F : Fence) (n : Nat) (P : Program) (md : Region.Mode) (ops : Array Oper) (Q : Exit → Act → World → Prop) (S : World → Prop) : Nat → Array Bool → Act → World → Prop
  | 0, listed, a, w => Region.ready md ops listed = [] ∧ Q .normal a w
  | fuel + 1, listed, a, w =>
    (Region.ready md ops listed = [] → Q .normal a w) ∧
    ∀ i ∈ Region.ready md ops listed, wpOpIn F n P ops Q i (fun a' w' => S w' ∧ wpAnyR F n P md ops Q S fuel (listed.setIfInBounds i true) a' w') a w

theorem wpAnyIn_of_R : ∀ (fuel : Nat) (listed : Array Bool) (a : Act) (w : World), wpAnyR F n P md ops Q S fuel listed a w → wpAnyIn F n P md ops Q fuel listed a w
  | 0, _, _, _, h => h
  | fuel + 1, _, _, _, h => ⟨h.1, fun i hi => wpOpIn_mono (fun a' w' h' => wpAnyIn_of_R fuel _ a' w' h'.2) (h.2 i hi)⟩

theorem wpAnyR_first (hfn : ∀ f, F.fn f) (hnd : noDefer ops = true) {i : Nat} {oi : Oper} {v : Value} (hi : ops[i]? = some oi) (hsel : ∀ (j : Nat) (o : Oper) cs b, ops[j]? = some o → o.op ≠ .select cs b)
    (hQ : ∀ c a w, Q (.panic c) (a.put oi.dst v) w → Q (.panic c) a w) :
    ∀ (fuel : Nat) (listed : Array Bool) (a : Act) (w : World),
      (∀ j oj, ops[j]? = some oj → j ≠ i → listed.getD j true = false → (∀ e ∈ oj.after, Region.binds md e = true → e.on ≠ i) → oi.apart ops oj = true) →
      i ∈ Region.ready md ops listed → YieldsIf P ops S oi v a → S w →
      wpAnyR F n P md ops Q S fuel (listed.setIfInBounds i true) (a.put oi.dst v) w → wpAnyR F n P md ops Q S (fuel + 1) listed a w := by
  intro fuel
  induction fuel with
  | zero =>
    intro listed a w _ hr hy hS H
    refine ⟨fun h => (by rw [h] at hr; cases hr), fun j hj => ?_⟩
    by_cases hji : j = i
    · subst hji; exact yieldsIf_wpOpIn hfn (fun c => noDefer_spec hnd _ _ c hi) hi hy hS ⟨hS, H⟩
    · have := ready_mono hj hji
      rw [H.1] at this
      cases this
  | succ fuel ih =>
    intro listed a w hfree hr hy hS H
    refine ⟨fun h => (by rw [h] at hr; cases hr), fun j hj => ?_⟩
    by_cases hji : j = i
    · subst hji; exact yieldsIf_wpOpIn hfn (fun c => noDefer_spec hnd _ _ c hi) hi hy hS ⟨hS, H⟩
    · have h1 := H.2 j (ready_mono hj hji)
      obtain ⟨hjun, oj, hoj, hall⟩ := mem_ready.1 hj
      have hnot : ∀ e ∈ oj.after, Region.binds md e = true → e.on ≠ i := fun e he hb heq => by
        have h1 := hall e he hb
        have h0 := (mem_ready.1 hr).1
        rw [heq] at h1
        rcases Nat.lt_or_ge i listed.size with h' | h'
        · simp [h'] at h0 h1; rw [h0] at h1; cases h1
        · simp [Array.getElem?_eq_none h'] at h1
      have h2 := wpOpIn_putIf hfn (fun c => noDefer_spec hnd _ _ c hoj) hoj (hfree j oj hoj hji hjun hnot) (fun cs b => hsel i oi cs b hi) (fun cs b => hsel j oj cs b hoj) hQ hy h1
      have hfree' : ∀ k ok, ops[k]? = some ok → k ≠ i → (listed.setIfInBounds j true).getD k true = false →
          (∀ e ∈ ok.after, Region.binds md e = true → e.on ≠ i) → oi.apart ops ok = true := fun k ok hk hki hun hno => by
        refine hfree k ok hk hki ?_ hno
        by_cases hjk : j = k
        · subst hjk; exact hjun
        · rw [getD_set_ne true hjk] at hun; exact hun
      refine wpOpIn_mono (fun a' w' h3 => ⟨h3.2.1, ih (listed.setIfInBounds j true) a' w' hfree' (ready_mono hr (Ne.symm hji)) h3.1 h3.2.1 ?_⟩) h2
      rw [Array.setIfInBounds_comm _ _ hji]
      exact h3.2.2

/-- Number i first. -/
theorem wpAnyR_take {i : Nat} {oi : Oper} {v : Value} {fuel : Nat} {listed : Array Bool} {a : Act} {w : World} (hfn : ∀ f, F.fn f) (hnd : noDefer ops = true) (hi : ops[i]? = some oi)
    (hs : Region.noSelect ops = true) (hf : Region.free md ops listed i = true) (hr : (Region.ready md ops listed).contains i = true)
    (hQ : ∀ c a w, Q (.panic c) (a.put oi.dst v) w → Q (.panic c) a w) (hy : YieldsIf P ops S oi v a) (hS : S w)
    (h : wpAnyR F n P md ops Q S fuel (listed.setIfInBounds i true) (a.put oi.dst v) w) : wpAnyR F n P md ops Q S (fuel + 1) listed a w :=
  wpAnyR_first hfn hnd hi (Region.noSelect_spec hs) hQ fuel listed a w (Region.free_spec hi hf) (by simpa using hr) hy hS h

/-- The only one that may come up. -/
theorem wpAnyR_only {i : Nat} {o : Oper} {fuel : Nat} {listed : Array Bool} {a : Act} {w : World} (hr : Region.ready md ops listed = [i]) (ho : ops[i]? = some o) (hw : Region.wanted o (yielded ops a.tmps) = true)
    (h : ∀ K' : Act → World → Prop, (∀ a w, S w → (S w → wpAnyR F n P md ops Q S fuel (listed.setIfInBounds i true) a w) → K' a w) → Oper.wpIn F n P o a w K' Q) :
    wpAnyR F n P md ops Q S (fuel + 1) listed a w := by
  refine ⟨fun h0 => absurd h0 (by rw [hr]; simp), fun j hj => ?_⟩
  rw [hr] at hj
  obtain rfl := List.mem_singleton.1 hj
  refine wpOpIn_step ho (fun K' hK => ?_)
  rw [if_pos hw]
  exact h K' (fun a w hS hW => hK a w ⟨hS, hW hS⟩)

theorem wpAnyR_done {listed : Array Bool} {a : Act} {w : World} (hr : Region.ready md ops listed = []) (h : Q .normal a w) :
    ∀ fuel, wpAnyR F n P md ops Q S fuel listed a w
  | 0 => ⟨hr, h⟩
  | _ + 1 => ⟨fun _ => h, by rw [hr]; simp⟩

/-- The beginning. -/
theorem wpIn_region_R {id : Nat} {a : Act} {w : World} (hm : P.follows .mixedOrders = true) (hS : S w.drew)
    (h : S w.drew → wpAnyR F n P .any ops Q S ops.size (Array.replicate ops.size false) a w.drew) : (Code.region id ops true).wpIn F n P Q a w :=
  wpIn_region_any hm (wpAnyIn_of_R _ _ _ _ (h hS))

end
theorem opIn_skip {F : Fence} {n : Nat} {P : Program} {Q : Exit → Act → World → Prop} (hfn : ∀ f, F.fn f) {o : Oper} {a : Act} {w w' : World} {K : Act → World → Prop} (hnd : ∀ c, o.op ≠ .defer c)
    (hrun : (execOp a.eval o).run P w = .ok .skip w') (h : K (a.put o.dst undef) w') : Oper.wpIn F n P o a w K Q := by
  refine ⟨fun f _ => hfn f, ?_⟩
  rw [Oper.semAt_plain F _ _ hnd, hrun]
  exact h
/-- The walk never ends by a panic. -/
def noPanic (Q : Exit → Act → World → Prop) : Exit → Act → World → Prop
  | .panic _, _, _ => False
  | .normal, a, w => Q .normal a w
  | .ret, a, w => Q .ret a w
  | .exit i, a, w => Q (.exit i) a w
  | .goto i, a, w => Q (.goto i) a w
  | .outgrown, a, w => Q .outgrown a w
theorem noPanic_le {Q : Exit → Act → World → Prop} (e : Exit) (a : Act) (w : World) (h : noPanic Q e a w) : Q e a w := by
  cases e <;> first | exact h | exact h.elim
end Go.Proofs.YtmjedjhgomlfiaaGreatDoor

namespace Go.Proofs.YtmjedjhgomlfiaaGreatDoor
open Go.RowKit

/-- The record of a loop. -/
def recJ (fn : FuncId) (tmps : Array Value) (ps : Array Tmp) (assign body : Code) (D : Nat) (st : LoopState) (pe : Option Code) : Loop :=
  { state := st, pending := pe, fn, tmps, params := ps, assign, body, defers := D }

section
variable {F : Fence} {n : Nat} {P : Program}

theorem rangeFunc_gen {g : Operand} {ps : Array Tmp} {assign body : Code} {Q : Exit → Act → World → Prop} {a : Act} {w : World}
    (hro : F.round = none) (hfn : ∀ f, F.fn f) (hd : F.depth = none) {gf : Nat} {lb : Array Value} (hg : a.eval g = .func (.func gf) #[] lb) (eg : ∀ args w, (callFunc gf args).run P w = .ok (.enter gf args) w)
    (h : ∀ fn, CallsIn F (n - 1) P gf (#[.func (.yield (w.heap.size + 1)) #[] #[]] ++ lb)
      ((w.alloc (.deferred (some []))).alloc (.loop (recJ fn a.tmps ps assign body w.heap.size .ready none))) fun e W2 => (∃ v, e = .returned v) ∧
        ((W2.heap[w.heap.size + 1]? = some (.loop (recJ fn a.tmps ps assign body w.heap.size .ready none)) ∧
          Q .normal { a with defers := { target := .collected w.heap.size, args := #[] } :: a.defers } (W2.putObj (w.heap.size + 1) (.loop (recJ fn a.tmps ps assign body w.heap.size .exhausted none)))) ∨
         (W2.heap[w.heap.size + 1]? = some (.loop (recJ fn a.tmps ps assign body w.heap.size .done (some .ret))) ∧
          Q .ret { a with defers := { target := .collected w.heap.size, args := #[] } :: a.defers } (W2.putObj (w.heap.size + 1) (.loop (recJ fn a.tmps ps assign body w.heap.size .exhausted (some .ret))))))) :
    (Code.rangeFunc g ps assign body).wpIn F n P Q a w := by
  refine wpIn_rangeFunc ?_
  intro fn _
  rw [hro]
  obtain ⟨W1, hW1⟩ : ∃ W1, (w.alloc (.deferred (some []))).alloc (.loop (recJ fn a.tmps ps assign body w.heap.size .ready none)) = W1 := ⟨_, rfl⟩
  refine ⟨w.heap.size + 1, [{ target := .collected w.heap.size, args := #[] }], W1, { target := .fn (.func gf) lb, args := #[.func (.yield (w.heap.size + 1)) #[] #[]] }, W1, gf,
    #[.func (.yield (w.heap.size + 1)) #[] #[]] ++ lb, W1, ?_, ?_, fun f _ => hfn f, ?_, fun h => absurd h (by rw [hd]; simp), ?_⟩
  · rw [← hW1]; exact run_enterLoop_outer _ _ _ _ _
  · simp only [resolve, hg]
    simp [go_sem]
  · simp [invoke, go_sem, eg]
  · rw [← hW1]
    refine (h fn).mono ?_
    rintro e W2 ⟨⟨v, rfl⟩, ⟨hl, hq⟩ | ⟨hl, hq⟩⟩
    · exact ⟨none, _, run_endLoop (P := P) hl (by simp [recJ]), hq⟩
    · exact ⟨some .ret, _, run_endLoop (P := P) hl (by simp [recJ]), wpIn_ret hq⟩

theorem round_gen {l : Nat} {fn : FuncId} {tmps args : Array Value} {ps : Array Tmp} {assign body : Code} {D : Nat} {rc : LoopState → Option Code → Loop} {W : World} {R : Ending → World → Prop} (hfn : ∀ f, F.fn f)
    (hr : recJ fn tmps ps assign body D = rc) (hl : W.heap[l]? = some (.loop (rc .ready none))) (hps : args.size = ps.size)
    (h : assign.wpIn (F.inRound l) n P (Exit.then (fun a₁ w₁ => w₁.heap[l]? = some (.loop (rc .ready none)) ∧
      body.wpIn (F.inRound l) n P (fun e _ w₂ => w₂.heap[l]? = some (.loop (rc .busy none)) ∧ ((e = .normal ∧ R (.returned (.bool true)) (w₂.putObj l (.loop (rc .ready none)))) ∨ (e = .ret ∧ R (.returned (.bool false)) (w₂.putObj l (.loop (rc .done (some .ret))))))) a₁
        (w₁.putObj l (.loop (rc .busy none)))) (fun _ _ _ => False)) { tmps := (ps.zip args).foldl (fun tmps (t, a) => tmps.setIfInBounds t a) tmps, defers := [] } W) :
    YieldAt F n P l args W R := by
  subst hr
  refine ⟨fn, _, assign, body, run_yield (P := P) hl (by simpa [recJ] using hps), roundIn_of_wpIn (hfn _) ?_⟩
  refine wpIn_mono h ?_
  rintro e a w he
  cases e with
  | normal =>
    obtain ⟨hl1, hb⟩ := he
    refine ⟨_, run_beginRound hl1 (by simp [recJ]), wpIn_mono hb ?_⟩
    rintro e a w ⟨hl2, ⟨rfl, hR⟩ | ⟨rfl, hR⟩⟩
    · exact ⟨_, _, run_endRound (P := P) none hl2, hR⟩
    · exact ⟨_, _, run_endRound (P := P) (some .ret) hl2, hR⟩
  | ret => exact he
  | exit _ => exact he
  | goto _ => exact he
  | panic _ => exact he
  | outgrown => exact he
end

theorem alloc_at {W : World} {k : Nat} {o : Obj} (h : W.heap[k]? = some o) (x : Obj) : (W.alloc x).heap[k]? = some o := (Below.heap_alloc W x k (Array.getElem?_eq_some_iff.1 h).1).trans h
theorem below_put {n l : Nat} (W : World) (hn : n ≤ l) (o : Obj) : Below n W (W.putObj l o) := ⟨rfl, rfl, rfl, by simp, fun k hk => World.putObj_heap_other (by omega)⟩
theorem below_cut {A B : World} {n : Nat} (h : Below A.heap.size A B) (hn : n ≤ A.heap.size) : Below n A B := ⟨h.os, h.tape, h.output, h.size, fun k hk => h.block k (Nat.lt_of_lt_of_le hk hn)⟩
end Go.Proofs.YtmjedjhgomlfiaaGreatDoor

namespace Go.Proofs.YtmjedjhgomlfiaaGreatDoor
open Go.RowKit Go.Shelf

def renS : Go.Shelf.Ren := ⟨fun | 102 => 18 | 207 => 56 | 209 => 39 | 99 => 43 | 206 => 59 | n => n, fun | n => n, fun | n => n⟩
theorem laysS102 : Go.Proofs.Lays.n102 Tryz.prog renS := {
  mixed := by kernel_rfl
  f102 := Tryz.func18.trans (congrArg some (by kernel_rfl))
  f207 := Tryz.func56.trans (congrArg some (by kernel_rfl))
  f209 := Tryz.func39.trans (congrArg some (by kernel_rfl))
  t3 := Tryz.underlying3
  a3 := Tryz.isAgg3
  z3 := Tryz.sizeOf3
  v3 := Tryz.zeroValue3
  t4 := Tryz.underlying4
  a4 := Tryz.isAgg4
  z4 := Tryz.sizeOf4
  v4 := Tryz.zeroValue4
  t9 := Tryz.underlying9
  a9 := Tryz.isAgg9
  z9 := Tryz.sizeOf9
  v9 := Tryz.zeroValue9 }
theorem laysS99 : Go.Proofs.Lays.n99 Tryz.prog renS := {
  mixed := by kernel_rfl
  f99 := Tryz.func43.trans (congrArg some (by kernel_rfl))
  f206 := Tryz.func59.trans (congrArg some (by kernel_rfl))
  t3 := Tryz.underlying3
  a3 := Tryz.isAgg3
  z3 := Tryz.sizeOf3
  v3 := Tryz.zeroValue3
  t4 := Tryz.underlying4
  a4 := Tryz.isAgg4
  z4 := Tryz.sizeOf4
  v4 := Tryz.zeroValue4
  t9 := Tryz.underlying9
  a9 := Tryz.isAgg9
  z9 := Tryz.sizeOf9
  v9 := Tryz.zeroValue9 }
theorem laysS143 : Go.Proofs.Lays.n143 Tryz.prog Tryz.laysM146_ren := { Tryz.laysM146 with }
theorem trimSuffix_any (s p : ByteArray) (w : World) (hs : s.size ≤ 9223372036854775807) :
    Calls Tryz.prog 18 #[.string s, .string p] w fun e w' => e = .returned (.string ⟨(Lib.trimSuffix s.data.toList p.data.toList).toArray⟩) ∧ w' = w := Any.strings_TrimSuffix laysS102 s p w hs
theorem hasPrefix_any (s p : ByteArray) (w : World) :
    Calls Tryz.prog 43 #[.string s, .string p] w fun e w' => e = .returned (.bool (Lib.hasPrefix s.data.toList p.data.toList)) ∧ w' = w := Any.strings_HasPrefix laysS99 s p w
theorem indexOne_any (s : ByteArray) (c : UInt8) (w : World) :
    Calls Tryz.prog 55 #[.string s, .string ⟨#[c]⟩] w fun e w' => e = .returned (.int .i64 (Lib.indexByte s.data.toList c)) ∧ w' = w := Any.strings_Index_one laysS143 s c w
end Go.Proofs.YtmjedjhgomlfiaaGreatDoor

set_option linter.unusedSimpArgs false
namespace Go.Proofs.YtmjedjhgomlfiaaGreatDoor
open Go.RowKit Go.Shelf Go.Lib Go.Proofs.YtmjedjhgomlfiaaGreatDoorW.PrintWords

/-- The pieces between the lines' ends. -/
def spn : List UInt8 → List (List UInt8)
  | [] => [[]]
  | b :: l => if b = 10 then [] :: spn l else match spn l with | [] => [[b]] | h :: t => (b :: h) :: t
theorem spn_ne (l : List UInt8) : ∃ h t, spn l = h :: t := by
  cases l with
  | nil => exact ⟨_, _, rfl⟩
  | cons b l =>
    rw [spn]
    split
    · exact ⟨_, _, rfl⟩
    · split <;> exact ⟨_, _, rfl⟩
theorem spn_cons {b : UInt8} (hb : b ≠ 10) {l h : List UInt8} {t : List (List UInt8)} (hl : spn l = h :: t) : spn (b :: l) = (b :: h) :: t := by rw [spn, if_neg hb, hl]
theorem spn_end (l : List UInt8) : spn (10 :: l) = [] :: spn l := by rw [spn, if_pos rfl]
theorem spn_free : ∀ (l : List UInt8), (∀ b ∈ l, b ≠ 10) → spn l = [l]
  | [], _ => rfl
  | b :: l, h => spn_cons (h b (by simp)) (spn_free l (fun c hc => h c (by simp [hc])))
theorem spn_cut : ∀ (l r : List UInt8), (∀ b ∈ l, b ≠ 10) → spn (l ++ 10 :: r) = l :: spn r
  | [], r, _ => spn_end r
  | b :: l, r, h => spn_cons (h b (by simp)) (spn_cut l r (fun c hc => h c (by simp [hc])))
theorem spn_miss {l : List UInt8} (h : indexByte l 10 = -1) : spn l = [l] :=
  spn_free l (fun b hb e => by
    obtain ⟨k, hk⟩ := List.mem_iff_getElem?.1 hb
    exact indexByte_none h k (by rw [hk, e]))
theorem spn_hit {l : List UInt8} {j : Nat} (h : indexByte l 10 = j) : j < l.length ∧ spn l = l.take j :: spn (l.drop (j + 1)) := by
  obtain ⟨h1, h2⟩ := indexByte_some h
  obtain ⟨hlt, he⟩ := List.getElem?_eq_some_iff.1 h1
  refine ⟨hlt, ?_⟩
  have hd : l = l.take j ++ 10 :: l.drop (j + 1) := by
    rw [← he, ← List.drop_eq_getElem_cons hlt, List.take_append_drop]
  conv => lhs; rw [hd]
  exact spn_cut _ _ (fun b hb e => by
    obtain ⟨k, hk⟩ := List.mem_iff_getElem?.1 hb
    rw [List.getElem?_take] at hk
    split at hk
    · rename_i hkj
      exact h2 k hkj (by rw [hk, e])
    · cases hk)
/-- A text's lines, as strings.SplitSeq gives them. -/
def linesS (l : List UInt8) : List ByteArray := (spn l).map ofL

theorem ext_take (r : List UInt8) (j : Nat) : (ofL r).extract 0 j = ofL (r.take j) := by
  apply ByteArray.ext
  apply Array.toList_inj.1
  simp [ofL]
theorem ext_drop (r : List UInt8) (j k : Nat) (hk : k = r.length) : (ofL r).extract j k = ofL (r.drop j) := by
  apply ByteArray.ext
  apply Array.toList_inj.1
  subst hk
  simp [ofL, List.extract_eq_take_drop]
  exact List.take_of_length_le (by simp)
theorem splitSeq_any (s : ByteArray) (w : World) :
    Calls Tryz.prog 17 #[.string s, .string ⟨#[10]⟩] w fun e w' => e = .returned (.func (.func 53) #[] #[.pointer (some ⟨w.heap.size + 1, 0, none⟩), .pointer (some ⟨w.heap.size, 0, none⟩), .pointer (some ⟨w.heap.size + 2, 0, none⟩)]) ∧
      w' = ((w.alloc (.cells #[.string s] 9)).alloc (.cells #[.string ⟨#[10]⟩] 9)).alloc (.cells #[.int .i64 0] 3) := by
  go_enter Tryz.func17, Tryz.ntmps17
  go_wp2
  go_ret
  exact ⟨rfl, rfl⟩

set_option maxRecDepth 100000 in
set_option maxHeartbeats 2000000 in
theorem lines_in (l Bs Bp Bz : Nat) (s : List UInt8) (hs : s.length < 4294967281) (J Jx : List ByteArray → World → Prop)
    (hJ : ∀ ts X, J ts X → X.heap[Bp]? = some (.cells #[.string ⟨#[10]⟩] 9 (0, 0)) ∧ X.heap[Bz]? = some (.cells #[.int .i64 0] 3 (0, 0)))
    (hA : ∀ ts X v, J ts X → J ts (X.setCell ⟨Bs, 0, none⟩ v))
    (hY : ∀ m ts t v X, (ts ++ [t]) <+: linesS s → J ts X → X.heap[Bs]? = some (.cells #[v] 9 (0, 0)) → YieldAt Fence.wide m Tryz.prog l #[.string t] X fun e Y => (e = .returned (.bool true) ∧ J (ts ++ [t]) Y ∧ Y.heap[Bs]? = some (.cells #[v] 9 (0, 0))) ∨ (e = .returned (.bool false) ∧ Jx (ts ++ [t]) Y))
    (W : World) (h0 : J [] W) (hb : W.heap[Bs]? = some (.cells #[.string (ofL s)] 9 (0, 0))) :
    Calls Tryz.prog 53 #[.func (.yield l) #[] #[], .pointer (some ⟨Bp, 0, none⟩), .pointer (some ⟨Bs, 0, none⟩), .pointer (some ⟨Bz, 0, none⟩)] W fun e Y => (∃ v, e = .returned v) ∧ (J (linesS s) Y ∨ ∃ pre, pre <+: linesS s ∧ Jx pre Y) := by
  refine (callsIn_wide (n := 0)).1 (callsIn_of_wp Tryz.func53 rfl trivial ?_ rfl)
  simp only [Tryz.ntmps53, List.size_toArray, List.length_cons, List.length_nil, Nat.reduceAdd, Nat.reduceSub, Array.replicate_succ, Array.replicate_zero, List.push_toArray, List.append_toArray, List.nil_append, List.cons_append]
  have zp := blk_cell (hJ _ _ h0).1 0
  gi_wp2
  gi_loopw [7] (fun iv wr => ∃ (done : List ByteArray) (r : List UInt8), done ++ linesS r = linesS s ∧ r.length ≤ s.length ∧ J done wr ∧ wr.heap[Bs]? = some (.cells #[.string (ofL r)] 9 (0, 0))) (fun iv wr => match wr.cell? ⟨Bs, 0, none⟩ with | some (.string x) => x.size | _ => 0)
  case atStart => exact ⟨[], s, rfl, Nat.le_refl _, h0, hb⟩
  case round =>
    obtain ⟨done, r, hd, hrl, hJd, hbr⟩ := hrel
    have zs := blk_cell hbr 0
    have zp := blk_cell (hJ _ _ hJd).1 0
    have zz := blk_cell (hJ _ _ hJd).2 0
    have hcase : indexByte r 10 = -1 ∨ ∃ j : Nat, indexByte r 10 = j := by
      have := indexByte_ge r 10
      by_cases h : indexByte r 10 = -1
      · exact .inl h
      · exact .inr ⟨(indexByte r 10).toNat, by omega⟩
    rcases hcase with hm | ⟨j, hm⟩
    · have hsp := spn_miss hm
      gi_wp2
      refine ⟨trivial, rfl, (callsIn_wide.2 (indexOne_any (ofL r) 10 _)).mono ?_⟩
      rintro _ _ ⟨rfl, rfl⟩
      rw [data_ofL, hm]
      have hdd : done ++ [ofL r] = linesS s := by rw [← hd, linesS, hsp]; rfl
      obtain ⟨fn, tmps, assign, body, hy, hR⟩ := hY (0 - 1) done (ofL r) _ _ (by rw [hdd]; exact List.prefix_refl _) hJd hbr
      gi_wp2
      refine ⟨rfl, hR.mono ?_⟩
      rintro _ W3 (⟨rfl, hJ3, hb3⟩ | ⟨rfl, hJ3⟩)
      · gi_wp2
        go_end0
        exact ⟨⟨_, rfl⟩, .inl (by rw [← hdd]; exact hJ3)⟩
      · gi_wp2
        go_end0
        exact ⟨⟨_, rfl⟩, .inr ⟨_, by rw [hdd]; exact List.prefix_refl _, hJ3⟩⟩
    · obtain ⟨hjr, hsp⟩ := spn_hit hm
      have hj0 : ¬ ((j : Int) < 0) := by omega
      have hjz : (ofL r).size = r.length := by rw [Lib.size_eq, data_ofL]
      gi_wp2
      refine ⟨trivial, rfl, (callsIn_wide.2 (indexOne_any (ofL r) 10 _)).mono ?_⟩
      rintro _ _ ⟨rfl, rfl⟩
      rw [data_ofL, hm]
      have hdd : (done ++ [ofL (r.take j)]) ++ linesS (r.drop (j + 1)) = linesS s := by rw [← hd, linesS, linesS, hsp, List.append_assoc]; rfl
      obtain ⟨fn, tmps, assign, body, hy, hR⟩ := hY (0 - 1) done (ofL (r.take j)) _ _ (by rw [← hdd]; exact List.prefix_append _ _) hJd hbr
      rw [← ext_take] at hy
      gi_wp2
      refine ⟨rfl, hR.mono ?_⟩
      rintro _ W3 (⟨rfl, hJ3, hb3⟩ | ⟨rfl, hJ3⟩)
      · have ys := blk_cell hb3 0
        have yp := blk_cell (hJ _ _ hJ3).1 0
        have yf : W3.frozen? ⟨Bs, 0, none⟩ = false := by simp [World.frozen?, hb3]
        gi_wp2
        rw [ext_drop r (j + 1) r.length rfl]
        go_roundw
        case rel => exact ⟨_, _, hdd, by rw [List.length_drop]; omega, hA _ _ _ hJ3, blk_put hb3 0 _ rfl⟩
        case measure =>
          rw [zs, blk_cell (blk_put hb3 0 (.string (ofL (r.drop (j + 1)))) (cs' := #[.string (ofL (r.drop (j + 1)))]) rfl) 0]
          show (ofL (r.drop (j + 1))).size < (ofL r).size
          rw [Lib.size_eq, Lib.size_eq, data_ofL, data_ofL, List.length_drop]
          omega
      · gi_wp2
        refine bodyPost_ret (results_none rfl _ _ _) rfl ?_
        exact ⟨⟨_, rfl⟩, .inr ⟨_, by rw [← hdd]; exact List.prefix_append _ _, hJ3⟩⟩
end Go.Proofs.YtmjedjhgomlfiaaGreatDoor

set_option linter.unusedSimpArgs false
namespace Go.Proofs.YtmjedjhgomlfiaaGreatDoor
open Go.RowKit Go.Proofs.YtmjedjhgomlfiaaGreatDoorW.PrintWords

def OpV.tup (x : OpV) : Int × Int × Int × Int × Int × ByteArray := (x.code, x.a, x.b, x.c, x.d, x.s)
def kOp : Kd OpV := Kd.iso (Kd.pair (Kd.int .i64) (Kd.pair (Kd.int .i64) (Kd.pair (Kd.int .i64) (Kd.pair (Kd.int .i64) (Kd.pair (Kd.int .i64) Kd.string))))) OpV.tup
theorem kOp_mkM (w : World) (base : Nat) (ok : Nat → Prop) (x : OpV) : kOp.M w base ok x [.int .i64 x.code, .int .i64 x.a, .int .i64 x.b, .int .i64 x.c, .int .i64 x.d, .string x.s] :=
  ⟨_, _, rfl, rfl, ⟨_, _, rfl, rfl, ⟨_, _, rfl, rfl, ⟨_, _, rfl, rfl, ⟨_, _, rfl, rfl, rfl⟩⟩⟩⟩⟩
theorem kOp_open {w : World} {x : OpV} {cs : List Value} (h : kOp.K w x cs) : cs = [.int .i64 x.code, .int .i64 x.a, .int .i64 x.b, .int .i64 x.c, .int .i64 x.d, .string x.s] := by
  obtain ⟨_, _, rfl, rfl, ⟨_, _, rfl, rfl, ⟨_, _, rfl, rfl, ⟨_, _, rfl, rfl, ⟨_, _, rfl, rfl, h5⟩⟩⟩⟩⟩ := h
  rw [show _ = [Value.string x.s] from h5]
  rfl
/-- An operation of a row. -/
theorem el_op {w : World} {A : Option Addr} {n : Nat} {xs : List OpV} (h : Kd.C kOp w A n xs) (j : Nat) (hj : j < n) :
    ∃ ad e, A = some ad ∧ Hid (xs[j]? = some e) ∧ w.cell? (ad.add (j * 6)) = some (.int .i64 e.code) ∧ w.cell? ⟨(ad.add (j * 6)).block, (ad.add (j * 6)).off + 1, none⟩ = some (.int .i64 e.a) ∧ w.cell? ⟨(ad.add (j * 6)).block, (ad.add (j * 6)).off + 2, none⟩ = some (.int .i64 e.b) ∧
      w.cell? ⟨(ad.add (j * 6)).block, (ad.add (j * 6)).off + 3, none⟩ = some (.int .i64 e.c) ∧ w.cell? ⟨(ad.add (j * 6)).block, (ad.add (j * 6)).off + 4, none⟩ = some (.int .i64 e.d) ∧ w.cell? ⟨(ad.add (j * 6)).block, (ad.add (j * 6)).off + 5, none⟩ = some (.string e.s) := by
  have hl : xs.length = n := h.1
  obtain ⟨ad, c, hA, _, hK, hc0⟩ := Kd.C_get h zeroV (j : Int) (by omega) (by omega)
  rw [Int.toNat_natCast] at hK hc0
  obtain ⟨e, he⟩ : ∃ e, xs[j]? = some e := ⟨_, List.getElem?_eq_getElem (by omega)⟩
  rw [List.getD_eq_getElem?_getD, he] at hK
  obtain rfl := kOp_open hK
  have hc : ∀ i u, ([.int .i64 e.code, .int .i64 e.a, .int .i64 e.b, .int .i64 e.c, .int .i64 e.d, .string e.s] : List Value)[i]? = some u → w.cell? (ad.add (j * 6 + i)) = some u := hc0
  exact ⟨ad, e, hA, ⟨he⟩, hc 0 _ rfl, by rw [← add_field _ _ 1 (by omega)]; exact hc 1 _ rfl, by rw [← add_field _ _ 2 (by omega)]; exact hc 2 _ rfl, by rw [← add_field _ _ 3 (by omega)]; exact hc 3 _ rfl,
    by rw [← add_field _ _ 4 (by omega)]; exact hc 4 _ rfl, by rw [← add_field _ _ 5 (by omega)]; exact hc 5 _ rfl⟩
theorem eq_op_yes (x : OpV) (W : World) : (Op.equalIn 10000 38 (.agg #[.int .i64 x.code, .int .i64 x.a, .int .i64 x.b, .int .i64 x.c, .int .i64 x.d, .string x.s]) (.agg #[.int .i64 x.code, .int .i64 x.a, .int .i64 x.b, .int .i64 x.c, .int .i64 x.d, .string x.s])).run Tryz.prog W = .ok true W := by
  go_simp
theorem eq_op_no (x y : OpV) (h : x ≠ y) (W : World) : (Op.equalIn 10000 38 (.agg #[.int .i64 x.code, .int .i64 x.a, .int .i64 x.b, .int .i64 x.c, .int .i64 x.d, .string x.s]) (.agg #[.int .i64 y.code, .int .i64 y.a, .int .i64 y.b, .int .i64 y.c, .int .i64 y.d, .string y.s])).run Tryz.prog W = .ok false W := by
  have h' : ¬ (x.code = y.code ∧ x.a = y.a ∧ x.b = y.b ∧ x.c = y.c ∧ x.d = y.d ∧ x.s.toList = y.s.toList) := fun ⟨h1, h2, h3, h4, h5, h6⟩ => h (by
    obtain ⟨x1, x2, x3, x4, x5, x6⟩ := x
    obtain ⟨y1, y2, y3, y4, y5, y6⟩ := y
    simp only at h1 h2 h3 h4 h5 h6
    rw [h1, h2, h3, h4, h5, toList_inj h6])
  clear h
  go_simp
  intro h1 h2 h3 h4 h5 h6
  exact h' ⟨h1, h2, h3, h4, h5, h6⟩
theorem take_ext {α : Type} {a b : List α} {i : Nat} {x : α} (h : a.take i = b.take i) (hx : a[i]? = some x) (hy : b[i]? = some x) : a.take (i + 1) = b.take (i + 1) := by
  rw [List.take_add_one, List.take_add_one, hx, hy, h]

open Classical in
set_option maxRecDepth 100000 in
set_option maxHeartbeats 1600000 in
theorem sameOps_any (a b : List OpV) (A B : Option Addr) (c d : Nat) (w : World) (ha : kOp.C w A a.length a) (hb : kOp.C w B b.length b) (hal : a.length ≤ 4294967296) :
    Calls Tryz.prog 22 #[.slice A a.length c, .slice B b.length d] w fun e w' => e = .returned (.bool (decide (a = b))) ∧ ∃ q, w' = w.drewN q := by
  by_cases hl : a.length = b.length
  · have hlb : ((a.length : Int) != (b.length : Int)) = false := by simp [hl]
    have HL := hide_ hl
    have hle : a.length ≤ b.length := by omega
    have hge : b.length ≤ a.length := by omega
    clear hl
    go_enter Tryz.func22, Tryz.ntmps22
    go_wp2
    go_loopw [5] (fun i wr => ∃ (j : Nat), j ≤ a.length ∧ i = .int .i64 j ∧ a.take j = b.take j ∧ ∃ q, wr = w.drewN q) (fun i _ => a.length - (intOf i).toNat)
    case atStart => exact ⟨0, Nat.zero_le _, rfl, rfl, 0, (World.drewN_zero w).symm⟩
    case round =>
      obtain ⟨j, hj, rfl, ht, q0, hq⟩ := hrel
      have hB : Below w.heap.size w wr := by rw [hq]; exact pw_below_drewN (Below.refl _ _) _
      have HQ := hide_ hq
      clear hq
      have HT := hide_ ht
      clear ht
      by_cases hlt : j < a.length
      · obtain ⟨ad, x, rfl, HX, x0, x1, x2, x3, x4, x5⟩ := el_op (Kd.C_below ha hB) j hlt
        obtain ⟨bd, y, rfl, HY, y0, y1, y2, y3, y4, y5⟩ := el_op (Kd.C_below hb hB) j (by omega)
        have hltb : j < b.length := by omega
        by_cases hxy : x = y
        · subst hxy
          have heq := eq_op_yes x
          go_wp2
          go_quiet (fail)
          go_wp2
          go_roundw
          case rel => exact ⟨j + 1, by omega, by go_num, take_ext HT.out HX.out HY.out, _, by rw [HQ.out, World.drewN_drewN]⟩
          case measure => simp [intOf]; omega
        · have heq := eq_op_no x y hxy
          have HXY := hide_ hxy
          clear hxy
          have HF : Hid (decide (a = b) = false) := ⟨by
            refine decide_eq_false fun e => HXY.out ?_
            have h1 := HX.out
            rw [e, HY.out] at h1
            exact (Option.some.inj h1).symm⟩
          go_wp2
          go_quiet (fail)
          go_wp2
          go_ret
          exact ⟨by rw [HF.out]; rfl, _, by rw [HQ.out, World.drewN_drewN]⟩
      · have HF : Hid (decide (a = b) = true) := ⟨by
          refine decide_eq_true ?_
          have h1 := HT.out
          rwa [List.take_of_length_le (by omega), List.take_of_length_le (by omega)] at h1⟩
        go_wp2
        go_ret
        exact ⟨by rw [HF.out]; rfl, q0, HQ.out⟩
  · have hlb : ((a.length : Int) != (b.length : Int)) = true := by simp; omega
    have HF : Hid (decide (a = b) = false) := ⟨decide_eq_false fun e => hl (by rw [e])⟩
    go_enter Tryz.func22, Tryz.ntmps22
    go_wp2
    go_ret
    exact ⟨by rw [HF.out]; rfl, 0, (World.drewN_zero w).symm⟩
end Go.Proofs.YtmjedjhgomlfiaaGreatDoor

set_option linter.unusedSimpArgs false
namespace Go.Proofs.YtmjedjhgomlfiaaGreatDoor
open Go.RowKit Go.Proofs.YtmjedjhgomlfiaaGreatDoorW.PrintWords

/-- A program. -/
structure ProgV where
  main : List OpV
  calls : List (List OpV)
def kCalls : Kd (List OpV) := Kd.slice 38 kOp
/-- A program as a value is read. -/
def ReadsP (w : World) (vm vc : Value) (p : ProgV) : Prop :=
  ∃ A c B d, vm = .slice A p.main.length c ∧ vc = .slice B p.calls.length d ∧ kOp.C w A p.main.length p.main ∧ kCalls.C w B p.calls.length p.calls
theorem ReadsP.below {w w' : World} {vm vc : Value} {p : ProgV} (h : ReadsP w vm vc p) (hb : Below w.heap.size w w') : ReadsP w' vm vc p := by
  obtain ⟨A, c, B, d, h1, h2, h3, h4⟩ := h
  exact ⟨A, c, B, d, h1, h2, Kd.C_below h3 hb, Kd.C_below h4 hb⟩
/-- How many operations there are. -/
def sumL (l : List (List OpV)) : Nat := (l.map List.length).sum
def countP (p : ProgV) : Nat := p.main.length + sumL p.calls
theorem sumL_next {l : List (List OpV)} {j : Nat} {x : List OpV} (h : l[j]? = some x) : sumL (l.take (j + 1)) = sumL (l.take j) + x.length := by
  unfold sumL
  rw [List.take_add_one, h, List.map_append, List.sum_append]
  simp
theorem sumL_le {l : List (List OpV)} (j : Nat) : sumL (l.take j) ≤ sumL l := by
  unfold sumL
  conv => rhs; rw [← List.take_append_drop j l, List.map_append, List.sum_append]
  exact Nat.le_add_right _ _
/-- A callback of a program. -/
theorem el_call {w : World} {B : Option Addr} {n : Nat} {cs : List (List OpV)} (h : kCalls.C w B n cs) (j : Nat) (hj : j < n) :
    ∃ bd xs A c, B = some bd ∧ Hid (cs[j]? = some xs) ∧ w.cell? (bd.add j) = some (.slice A xs.length c) ∧ xs.length ≤ c ∧ kOp.C w A xs.length xs := by
  have hl : cs.length = n := h.1
  obtain ⟨bd, c, hA, _, hK, hc0⟩ := Kd.C_get h [] (j : Int) (by omega) (by omega)
  rw [Int.toNat_natCast] at hK hc0
  obtain ⟨xs, he⟩ : ∃ e, cs[j]? = some e := ⟨_, List.getElem?_eq_getElem (by omega)⟩
  rw [List.getD_eq_getElem?_getD, he] at hK
  obtain ⟨A, c', rfl, hle, hC⟩ := hK
  refine ⟨bd, xs, A, c', hA, ⟨he⟩, ?_, hle, hC⟩
  have := hc0 0 _ rfl
  rwa [show j * kCalls.sz + 0 = j from by show j * 1 + 0 = j; omega] at this

set_option maxRecDepth 100000 in
set_option maxHeartbeats 1600000 in
theorem count_any (vm vc : Value) (p : ProgV) (w : World) (h : ReadsP w vm vc p) (hb : countP p ≤ 9223372036854775807) :
    Calls Tryz.prog 23 #[.agg #[vm, vc]] w fun e w' => e = .returned (.int .i64 (countP p)) ∧ Below w.heap.size w w' := by
  obtain ⟨A, c, B, d, rfl, rfl, hm, hc⟩ := h
  have hcm := Kd.C_max hc
  go_enter Tryz.func23, Tryz.ntmps23
  go_wp2
  go_loopw [3, 12] (fun v i wr => ∃ (j : Nat), j ≤ p.calls.length ∧ i = .int .i64 j ∧ v = .int .i64 ((p.main.length + sumL (p.calls.take j) : Nat) : Int) ∧ Below w.heap.size w wr) (fun _ i _ => p.calls.length - (intOf i).toNat)
  case atStart => exact ⟨0, Nat.zero_le _, rfl, rfl, below_alloc (Below.refl _ _) _⟩
  case round =>
    obtain ⟨j, hj, rfl, rfl, hB⟩ := hrel


    by_cases hlt : j < p.calls.length
    · obtain ⟨bd, xs, A', c', rfl, HX, x0, _, _⟩ := el_call (Kd.C_below hc hB) j hlt
      have h1 := sumL_next HX.out
      have h2 := sumL_le (l := p.calls) (j + 1)
      have hb' : p.main.length + sumL p.calls ≤ 9223372036854775807 := hb
      obtain ⟨k, hkd⟩ : ∃ k, k = p.main.length + sumL (p.calls.take j) := ⟨_, rfl⟩
      have HN := hide_ (show p.main.length + sumL (p.calls.take (j + 1)) = k + xs.length by omega)
      have hk : k + xs.length ≤ 9223372036854775807 := by omega
      rw [← hkd]
      clear h1 h2 hb' hkd
      go_wp2
      go_roundw
      case rel => exact ⟨j + 1, by omega, by go_num, by rw [HN.out]; go_num, hB⟩
      case measure => simp [intOf]; omega
    · have HP := hide_ (show p.calls.take j = p.calls from List.take_of_length_le (by omega))
      go_wp2
      go_ret
      exact ⟨by rw [HP.out]; rfl, hB⟩
set_option maxRecDepth 100000 in
set_option maxHeartbeats 1600000 in
theorem rcount_any (vm vc : Value) (p : ProgV) (w : World) (h : ReadsP w vm vc p) (hb : countP p ≤ 9223372036854775807) :
    Calls Tryz.prog 5 #[.agg #[vm, vc]] w fun e w' => e = .returned (.int .i64 (countP p)) ∧ Below w.heap.size w w' := by
  obtain ⟨A, c, B, d, rfl, rfl, hm, hc⟩ := h
  have hcm := Kd.C_max hc
  go_enter Tryz.func5, Tryz.ntmps5
  go_wp2
  go_loopw [3, 4] (fun v i wr => ∃ (j : Nat), j ≤ p.calls.length ∧ i = .int .i64 j ∧ v = .int .i64 ((p.main.length + sumL (p.calls.take j) : Nat) : Int) ∧ Below w.heap.size w wr ∧ wr.heap[w.heap.size]? = some (.cells #[.slice A p.main.length c, .slice B p.calls.length d] 25 (0, 0))) (fun _ i _ => p.calls.length - (intOf i).toNat)
  case atStart => exact ⟨0, Nat.zero_le _, rfl, rfl, below_alloc (Below.refl _ _) _, heap_alloc_new w _⟩
  case round =>
    obtain ⟨j, hj, rfl, rfl, hB, hbx⟩ := hrel
    have z0 := blk_cell hbx 0
    have z1 := blk_cell hbx 1
    by_cases hlt : j < p.calls.length
    · obtain ⟨bd, xs, A', c', rfl, HX, x0, _, _⟩ := el_call (Kd.C_below hc hB) j hlt
      have h1 := sumL_next HX.out
      have h2 := sumL_le (l := p.calls) (j + 1)
      have hb' : p.main.length + sumL p.calls ≤ 9223372036854775807 := hb
      obtain ⟨k, hkd⟩ : ∃ k, k = p.main.length + sumL (p.calls.take j) := ⟨_, rfl⟩
      have HN := hide_ (show p.main.length + sumL (p.calls.take (j + 1)) = k + xs.length by omega)
      have hk : k + xs.length ≤ 9223372036854775807 := by omega
      rw [← hkd]
      clear h1 h2 hb' hkd
      go_wp2
      go_roundw
      case rel => exact ⟨j + 1, by omega, by go_num, by rw [HN.out]; go_num, hB, hbx⟩
      case measure => simp [intOf]; omega
    · have HP := hide_ (show p.calls.take j = p.calls from List.take_of_length_le (by omega))
      go_wp2
      go_ret
      exact ⟨by rw [HP.out]; rfl, hB⟩

open Classical in
set_option maxRecDepth 100000 in
set_option maxHeartbeats 1600000 in
theorem sameP_any (vm vc um uc : Value) (p q : ProgV) (w : World) (hp : ReadsP w vm vc p) (hq : ReadsP w um uc q) (hb : countP p ≤ 4294967296) :
    Calls Tryz.prog 9 #[.agg #[vm, vc], .agg #[um, uc]] w fun e w' => e = .returned (.bool (decide (p.main = q.main ∧ p.calls = q.calls))) ∧ Below w.heap.size w w' := by
  obtain ⟨A, c, B, d, rfl, rfl, hm, hc⟩ := hp
  obtain ⟨A', c', B', d', rfl, rfl, hm', hc'⟩ := hq
  have hcm := Kd.C_max hc
  have hcm' := Kd.C_max hc'
  have hbm : p.main.length + sumL p.calls ≤ 4294967296 := hb
  have k1 : ((w.alloc (.cells #[.slice A p.main.length c, .slice B p.calls.length d] 25)).alloc (.cells #[.slice A' q.main.length c', .slice B' q.calls.length d'] 25)).heap[w.heap.size]? = some (.cells #[.slice A p.main.length c, .slice B p.calls.length d] 25 (0, 0)) := alloc_at (heap_alloc_new w _) _
  have k2 : ((w.alloc (.cells #[.slice A p.main.length c, .slice B p.calls.length d] 25)).alloc (.cells #[.slice A' q.main.length c', .slice B' q.calls.length d'] 25)).heap[w.heap.size + 1]? = some (.cells #[.slice A' q.main.length c', .slice B' q.calls.length d'] 25 (0, 0)) := by
    have := heap_alloc_new (w.alloc (.cells #[.slice A p.main.length c, .slice B p.calls.length d] 25)) (.cells #[.slice A' q.main.length c', .slice B' q.calls.length d'] 25)
    rwa [World.size_alloc] at this
  have kB : Below w.heap.size w ((w.alloc (.cells #[.slice A p.main.length c, .slice B p.calls.length d] 25)).alloc (.cells #[.slice A' q.main.length c', .slice B' q.calls.length d'] 25)) := below_alloc (below_alloc (Below.refl _ _) _) _
  by_cases h1 : p.main = q.main
  · have hd1 : decide (p.main = q.main) = true := decide_eq_true h1
    have H1 := hide_ h1
    clear h1
    by_cases h2 : p.calls.length = q.calls.length
    · have h2b : ((p.calls.length : Int) != (q.calls.length : Int)) = false := by simp [h2]
      have hle : p.calls.length ≤ q.calls.length := by omega
      have H2 := hide_ h2
      clear h2
      go_enter Tryz.func9, Tryz.ntmps9
      go_wp2_with (go_at_call 22; refine (sameOps_any p.main q.main A A' c c' _ (Kd.C_below hm kB) (Kd.C_below hm' kB) (by omega)).mono ?_; rintro e1 w1 ⟨rfl, q1, rfl⟩; rw [hd1])
      replace k1 := blk_drewN k1 q1
      replace k2 := blk_drewN k2 q1
      replace kB := pw_below_drewN kB q1
      generalize World.drewN _ q1 = w1 at *
      go_loopw [5] (fun i wr => ∃ (j : Nat), j ≤ p.calls.length ∧ i = .int .i64 j ∧ p.calls.take j = q.calls.take j ∧ Below w.heap.size w wr ∧ wr.heap[w.heap.size]? = some (.cells #[.slice A p.main.length c, .slice B p.calls.length d] 25 (0, 0)) ∧ wr.heap[w.heap.size + 1]? = some (.cells #[.slice A' q.main.length c', .slice B' q.calls.length d'] 25 (0, 0))) (fun i _ => p.calls.length - (intOf i).toNat)
      case atStart => exact ⟨0, Nat.zero_le _, rfl, rfl, kB, k1, k2⟩
      case round =>
        clear k1 k2 kB
        obtain ⟨j, hj, rfl, ht, hB, k1, k2⟩ := hrel
        have HT := hide_ ht
        clear ht
        have x0 := blk_cell k1 0
        have x1 := blk_cell k1 1
        have y0 := blk_cell k2 0
        have y1 := blk_cell k2 1
        by_cases hlt : j < p.calls.length
        · obtain ⟨bd, xs, A1, c1, rfl, HX, z0, _, hCx⟩ := el_call (Kd.C_below hc hB) j hlt
          obtain ⟨bd', ys, A2, c2, rfl, HY, z1, _, hCy⟩ := el_call (Kd.C_below hc' hB) j (by omega)
          have hltb : j < q.calls.length := by omega
          have hxl : xs.length ≤ 4294967296 := by
            have h1 := sumL_next HX.out
            have h2 := sumL_le (l := p.calls) (j + 1)
            omega
          by_cases hxy : xs = ys
          · have hd2 : decide (xs = ys) = true := decide_eq_true hxy
            have hcall : ∀ k, Calls Tryz.prog 22 #[.slice A1 xs.length c1, .slice A2 ys.length c2] (wr.drewN k) fun e w' => e = .returned (.bool true) ∧ ∃ m, w' = (wr.drewN k).drewN m := fun k => by
              have h := sameOps_any xs ys A1 A2 c1 c2 (wr.drewN k) (Kd.C_drewN hCx _) (Kd.C_drewN hCy _) hxl
              rw [hd2] at h
              exact h
            have HXY := hide_ hxy
            clear hxy
            go_wp2
            go_quiet ((go_at_call 22; exact Calls.quiet_of (hcall _)))
            go_wp2
            go_roundw
            case rel => exact ⟨j + 1, by omega, by go_num, take_ext HT.out HX.out (by rw [HXY.out]; exact HY.out), pw_below_drewN hB _, blk_drewN k1 _, blk_drewN k2 _⟩
            case measure => simp [intOf]; omega
          · have hd2 : decide (xs = ys) = false := decide_eq_false hxy
            have hcall : ∀ k, Calls Tryz.prog 22 #[.slice A1 xs.length c1, .slice A2 ys.length c2] (wr.drewN k) fun e w' => e = .returned (.bool false) ∧ ∃ m, w' = (wr.drewN k).drewN m := fun k => by
              have h := sameOps_any xs ys A1 A2 c1 c2 (wr.drewN k) (Kd.C_drewN hCx _) (Kd.C_drewN hCy _) hxl
              rw [hd2] at h
              exact h
            have HF : Hid (decide (p.main = q.main ∧ p.calls = q.calls) = false) := ⟨by
              refine decide_eq_false fun e => hxy ?_
              have h1 := HX.out
              rw [e.2, HY.out] at h1
              exact (Option.some.inj h1).symm⟩
            clear hxy
            go_wp2
            go_quiet ((go_at_call 22; exact Calls.quiet_of (hcall _)))
            go_wp2
            go_ret
            exact ⟨by rw [HF.out]; rfl, pw_below_drewN hB _⟩
        · have HF : Hid (decide (p.main = q.main ∧ p.calls = q.calls) = true) := ⟨by
            refine decide_eq_true ⟨H1.out, ?_⟩
            have h1 := HT.out
            rwa [List.take_of_length_le (by omega), List.take_of_length_le (by have := H2.out; omega)] at h1⟩
          go_wp2
          go_ret
          exact ⟨by rw [HF.out]; rfl, hB⟩
    · have h2b : ((p.calls.length : Int) != (q.calls.length : Int)) = true := by simp; omega
      have HF : Hid (decide (p.main = q.main ∧ p.calls = q.calls) = false) := ⟨decide_eq_false fun e => h2 (by rw [e.2])⟩
      go_enter Tryz.func9, Tryz.ntmps9
      go_wp2_with (go_at_call 22; refine (sameOps_any p.main q.main A A' c c' _ (Kd.C_below hm kB) (Kd.C_below hm' kB) (by omega)).mono ?_; rintro e1 w1 ⟨rfl, q1, rfl⟩; rw [hd1])
      go_ret
      exact ⟨by rw [HF.out]; rfl, pw_below_drewN kB _⟩
  · have hd1 : decide (p.main = q.main) = false := decide_eq_false h1
    have HF : Hid (decide (p.main = q.main ∧ p.calls = q.calls) = false) := ⟨decide_eq_false fun e => h1 e.1⟩
    go_enter Tryz.func9, Tryz.ntmps9
    go_wp2_with (go_at_call 22; refine (sameOps_any p.main q.main A A' c c' _ (Kd.C_below hm kB) (Kd.C_below hm' kB) (by omega)).mono ?_; rintro e1 w1 ⟨rfl, q1, rfl⟩; rw [hd1])
    go_ret
    exact ⟨by rw [HF.out]; rfl, pw_below_drewN kB _⟩
end Go.Proofs.YtmjedjhgomlfiaaGreatDoor

namespace Go.Proofs.YtmjedjhgomlfiaaGreatDoor
open Go.RowKit Go.Proofs.YtmjedjhgomlfiaaGreatDoorW.PrintWords Go.Lib

def zeroP : ProgV := ⟨[], []⟩
/-- Does a line's first word begin no remark? -/
def saysW : List ByteArray → Bool
  | [] => false
  | h :: _ => !(Lib.hasPrefix h.data.toList [35])
def callW : ByteArray := ⟨#[99, 97, 108, 108]⟩
/-- An operation behind the last one. -/
def addOp (p : ProgV) (x : OpV) : ProgV :=
  if p.calls.length = 0 then ⟨p.main ++ [x], p.calls⟩ else ⟨p.main, p.calls.set (p.calls.length - 1) (p.calls.getD (p.calls.length - 1) [] ++ [x])⟩
/-- A line's words, taken into a program: an error's number. -/
def takeW (p : ProgV) (l : List ByteArray) : ProgV × Int :=
  if l = [callW] then (if 64 ≤ p.calls.length then (p, 9) else (⟨p.main, p.calls ++ [[]]⟩, 0))
  else if (parseW l).2 = 0 then (if 4096 ≤ countP p then (p, 9) else (addOp p (parseW l).1, 0))
  else (p, (parseW l).2)
def lineW (p : ProgV) (s : ByteArray) : ProgV × Int := if saysW (words s) = true then takeW p (words s) else (p, 0)
/-- Lines, one behind the other: a program, a line, an error's number. -/
def runW : List ByteArray → Nat → ProgV → ProgV × Int × Int
  | [], _, p => (p, 0, 0)
  | s :: r, k, p => if (lineW p s).2 = 0 then runW r (k + 1) (lineW p s).1 else (zeroP, ((k + 1 : Nat) : Int), (lineW p s).2)
/-- The program behind right lines. -/
def stW : List ByteArray → ProgV → Option ProgV
  | [], p => some p
  | s :: r, p => if (lineW p s).2 = 0 then stW r (lineW p s).1 else none

theorem stW_snoc (s : ByteArray) : ∀ (l : List ByteArray) (p : ProgV), stW (l ++ [s]) p = (stW l p).bind fun q => if (lineW q s).2 = 0 then some (lineW q s).1 else none
  | [], p => by
    simp only [List.nil_append, stW, Option.bind_some]
  | x :: l, p => by
    rw [List.cons_append, stW, stW]
    split
    · exact stW_snoc s l _
    · rfl
theorem runW_st : ∀ (l r : List ByteArray) (k : Nat) (p q : ProgV), stW l p = some q → runW (l ++ r) k p = runW r (k + l.length) q
  | [], r, k, p, q, h => by
    rw [stW] at h
    obtain rfl := Option.some.inj h
    rfl
  | x :: l, r, k, p, q, h => by
    rw [stW] at h
    split at h
    · rename_i hx
      rw [List.cons_append, runW, if_pos hx, runW_st l r (k + 1) _ q h, List.length_cons, show k + (l.length + 1) = k + 1 + l.length by omega]
    · cases h
theorem runW_all {l : List ByteArray} {p q : ProgV} (h : stW l p = some q) : runW l 0 p = (q, 0, 0) := by
  have := runW_st l [] 0 p q h
  rwa [List.append_nil] at this
theorem runW_err {l L : List ByteArray} {s : ByteArray} {p q : ProgV} (h : stW l p = some q) (hs : (lineW q s).2 ≠ 0) (hp : (l ++ [s]) <+: L) : runW L 0 p = (zeroP, ((l.length + 1 : Nat) : Int), (lineW q s).2) := by
  obtain ⟨t, rfl⟩ := hp
  rw [List.append_assoc, runW_st l _ 0 p q h, List.singleton_append, runW, if_neg hs, Nat.zero_add]

theorem addOp_last (m : List OpV) (L : List (List OpV)) (y : List OpV) (x : OpV) : addOp ⟨m, L ++ [y]⟩ x = ⟨m, L ++ [y ++ [x]]⟩ := by
  unfold addOp
  rw [if_neg (by simp)]
  simp
theorem calls_last (p : ProgV) (h : p.calls.length ≠ 0) : ∃ L y, p = ⟨p.main, L ++ [y]⟩ := by
  obtain ⟨m, c⟩ := p
  refine ⟨c.dropLast, c.getLast (by intro e; simp [e] at h), ?_⟩
  rw [List.dropLast_concat_getLast]
theorem countP_add (p : ProgV) (x : OpV) : countP (addOp p x) = countP p + 1 := by
  by_cases h : p.calls.length = 0
  · unfold addOp countP
    rw [if_pos h]
    simp; omega
  · obtain ⟨L, y, hp⟩ := calls_last p h
    rw [hp, addOp_last]
    simp [countP, sumL, List.map_append]
    omega
theorem takeW_count (p : ProgV) (l : List ByteArray) : countP (takeW p l).1 ≤ countP p + 1 ∧ (takeW p l).1.calls.length ≤ p.calls.length + 1 := by
  unfold takeW
  split
  · split
    · exact ⟨by simp, by simp⟩
    · refine ⟨?_, by simp⟩
      simp [countP, sumL, List.map_append]
  · split
    · split
      · exact ⟨by simp, by simp⟩
      · refine ⟨by rw [countP_add]; exact Nat.le_refl _, ?_⟩
        simp only [addOp]
        split <;> simp
    · exact ⟨by simp, by simp⟩
theorem lineW_count (p : ProgV) (s : ByteArray) : countP (lineW p s).1 ≤ countP p + 1 ∧ (lineW p s).1.calls.length ≤ p.calls.length + 1 := by
  unfold lineW
  split
  · exact takeW_count _ _
  · exact ⟨by simp, by simp⟩
theorem stW_count : ∀ (l : List ByteArray) (p q : ProgV), stW l p = some q → countP q ≤ countP p + l.length ∧ q.calls.length ≤ p.calls.length + l.length
  | [], p, q, h => by
    rw [stW] at h
    obtain rfl := Option.some.inj h
    exact ⟨by simp, by simp⟩
  | x :: l, p, q, h => by
    rw [stW] at h
    split at h
    · have h1 := stW_count l _ q h
      have h2 := lineW_count p x
      rw [List.length_cons]
      omega
    · cases h
end Go.Proofs.YtmjedjhgomlfiaaGreatDoor

set_option linter.unusedSimpArgs false
namespace Go.Proofs.YtmjedjhgomlfiaaGreatDoor
open Go.RowKit Go.Proofs.YtmjedjhgomlfiaaGreatDoorW.PrintWords

theorem kOp_E : kOp.E = [] := rfl
theorem kCalls_E : kCalls.E = [38] := rfl
/-- The program that lies in block b: its rows are the call's own. -/
def OwnsP (w : World) (base b : Nat) (p : ProgV) : Prop :=
  ∃ vm vc, w.heap[b]? = some (.cells #[vm, vc] 25 (0, 0)) ∧ base ≤ b ∧ kOp.R 38 w base (fun _ => True) vm p.main ∧ Kd.S kCalls 22 w base (fun k => some k ≠ vm.ownBlock) vc p.calls
/-- Rows and the program's block are kept. -/
def KeptP (base : Nat) (w w' : World) : Prop := ∀ k cs t, (t = 38 ∨ t = 22 ∨ t = 25) → base ≤ k → w.heap[k]? = some (.cells cs t (0, 0)) → w'.heap[k]? = some (.cells cs t (0, 0))
theorem KeptP.refl (base : Nat) (w : World) : KeptP base w w := fun _ _ _ _ _ h => h
theorem KeptP.trans {base : Nat} {a b c : World} (h : KeptP base a b) (k : KeptP base b c) : KeptP base a c := fun i cs t ht hi hc => k i cs t ht hi (h i cs t ht hi hc)
theorem KeptP.of_below {base : Nat} {w w' : World} (h : Below w.heap.size w w') : KeptP base w w' := fun k _ _ _ _ hc => (h.block k (blk_lt hc)).trans hc
theorem KeptP.put {base : Nat} {w : World} {l : Nat} {o : Obj} (hl : w.heap[l]? = some o) (ho : ∀ cs t f, o ≠ .cells cs t f) (o' : Obj) : KeptP base w (w.putObj l o') := fun k cs t _ _ hc => by
  by_cases hk : k = l
  · subst hk; rw [hl] at hc; exact absurd (Option.some.inj hc) (ho _ _ _)
  · exact (World.putObj_heap_other hk).trans hc
theorem KeptP.set {base : Nat} {w : World} {g t : Nat} {cs : Array Value} (hg : w.heap[g]? = some (.cells cs t (0, 0))) (h1 : t ≠ 38) (h2 : t ≠ 22) (h3 : t ≠ 25) (j : Nat) (u : Value) : KeptP base w (w.setCell ⟨g, j, none⟩ u) := fun k cs' t' ht _ hc => by
  by_cases hk : k = g
  · subst hk
    rw [hg] at hc
    injection hc with hc
    injection hc with _ hc
    subst hc
    rcases ht with h | h | h
    · exact absurd h h1
    · exact absurd h h2
    · exact absurd h h3
  · exact (Below.heap_setCell w ⟨g, j, none⟩ u k hk).trans hc
theorem OwnsP.keep {w w' : World} {base b : Nat} {p : ProgV} (h : OwnsP w base b p) (hk : KeptP base w w') : OwnsP w' base b p := by
  obtain ⟨vm, vc, h1, h2, h3, h4⟩ := h
  refine ⟨vm, vc, hk _ _ _ (by simp) h2 h1, h2, ?_, ?_⟩
  · refine Kd.R_mono (Kd.R_step (Kd.R_bound h3) (fun k hok _ => ?_)) (fun _ _ => trivial)
    obtain ⟨_, hb, _, q, hq, cs, hc⟩ := hok
    have hq1 : q = 38 := by simpa [kOp_E] using hq
    subst hq1
    rw [hc]; exact hk _ _ _ (by simp) hb hc
  · refine Kd.S_mono (Kd.S_step (Kd.S_bound h4) (fun k hok _ => ?_)) (fun k hk => hk.1)
    obtain ⟨_, hb, _, q, hq, cs, hc⟩ := hok
    have hq1 : q = 22 ∨ q = 38 := by simpa [kCalls_E] using hq
    rw [hc]
    rcases hq1 with rfl | rfl
    · exact hk _ _ _ (by simp) hb hc
    · exact hk _ _ _ (by simp) hb hc
theorem OwnsP.reads {w : World} {base b : Nat} {p : ProgV} (h : OwnsP w base b p) : ∃ vm vc, w.heap[b]? = some (.cells #[vm, vc] 25 (0, 0)) ∧ ReadsP w vm vc p := by
  obtain ⟨vm, vc, h1, _, h3, h4⟩ := h
  obtain ⟨A, c, rfl, _, hC⟩ := Kd.R_reads h3
  obtain ⟨B, d, rfl, _, hD⟩ := Kd.R_reads (Kd.S_R h4)
  exact ⟨_, _, h1, A, c, B, d, rfl, rfl, hC, hD⟩
theorem OwnsP.nil {w : World} {base b : Nat} (h : w.heap[b]? = some (.cells #[.slice none 0 0, .slice none 0 0] 25 (0, 0))) (hb : base ≤ b) : OwnsP w base b zeroP :=
  ⟨_, _, h, hb, Kd.R_nil _ _ _ _ _, Kd.S_nil _ _ _ _ _⟩

/-- What an append to the program's own operations leaves, stored. -/
theorem OwnsP.main_put {w w1 : World} {base b : Nat} {p : ProgV} {vm vc v1 : Value} {l1 : List OpV} (h1 : w.heap[b]? = some (.cells #[vm, vc] 25 (0, 0))) (h2 : base ≤ b) (hm : kOp.R 38 w base (fun _ => True) vm p.main)
    (hc : Kd.S kCalls 22 w base (fun k => some k ≠ vm.ownBlock) vc p.calls) (hr : kOp.R 38 w1 base (fun _ => True) v1 l1) (hg : w.grownBy w1 vm.ownBlock) (hat : v1.ownBlock = vm.ownBlock ∨ ∃ b, v1.ownBlock = some b ∧ w.heap.size ≤ b) :
    w1.heap[b]? = some (.cells #[vm, vc] 25 (0, 0)) ∧ OwnsP (w1.setCell ⟨b, 0, none⟩ v1) base b ⟨l1, p.calls⟩ := by
  have hb := blk_grown h1 hg (Kd.R_ne hm h1 (by decide))
  refine ⟨hb, v1, vc, blk_put hb 0 v1 rfl, h2, ?_, ?_⟩
  · exact Kd.R_set hr hb (by rw [kOp_E]; intro q hq; simp at hq; omega) _ _
  · refine Kd.S_set ?_ hb (by rw [kCalls_E]; intro q hq; simp at hq; omega) _ _
    exact Kd.S_mono (Kd.S_after (ok := fun _ => True) (Kd.S_mono hc (fun _ h => ⟨trivial, h⟩)) hg hat) (fun _ h => h.2)
/-- What an append to the callbacks leaves, stored. -/
theorem OwnsP.calls_put {w w1 : World} {base b : Nat} {p : ProgV} {vm vc v1 : Value} {l1 : List (List OpV)} (h1 : w.heap[b]? = some (.cells #[vm, vc] 25 (0, 0))) (h2 : base ≤ b) (hm : kOp.R 38 w base (fun _ => True) vm p.main)
    (hc : Kd.S kCalls 22 w base (fun k => some k ≠ vm.ownBlock) vc p.calls) (hr : Kd.S kCalls 22 w1 base (fun k => some k ≠ vm.ownBlock) v1 l1) (hg : w.grownBy w1 vc.ownBlock) :
    w1.heap[b]? = some (.cells #[vm, vc] 25 (0, 0)) ∧ OwnsP (w1.setCell ⟨b, 1, none⟩ v1) base b ⟨p.main, l1⟩ := by
  have hb := blk_grown h1 hg (Kd.S_ne hc h1 (by decide))
  refine ⟨hb, vm, v1, blk_put hb 1 v1 rfl, h2, ?_, ?_⟩
  · refine Kd.R_set ?_ hb (by rw [kOp_E]; intro q hq; simp at hq; omega) _ _
    exact Kd.R_over' hm (Kd.S_typed hc) (by rw [kOp_E]; intro q hq; simp at hq; omega) hg
  · exact Kd.S_set hr hb (by rw [kCalls_E]; intro q hq; simp at hq; omega) _ _
end Go.Proofs.YtmjedjhgomlfiaaGreatDoor

set_option linter.unusedSimpArgs false
namespace Go.Proofs.YtmjedjhgomlfiaaGreatDoor
open Go.RowKit Go.Proofs.YtmjedjhgomlfiaaGreatDoorW.PrintWords Go.Proofs.YtmjedjhgomlfiaaGreatDoorW.PrintLast Go.Lib

theorem says_any (l : List ByteArray) (A : Option Addr) (cap : Nat) (w : World) (hA : Kd.string.C w A l.length l) (hll : l.length ≤ 4294967296) :
    Calls Tryz.prog 20 #[.slice A l.length cap] w fun e w' => e = .returned (.bool (saysW l)) ∧ w' = w := by
  cases hl : l with
  | nil =>
    subst hl
    go_enter Tryz.func20, Tryz.ntmps20
    go_wp2
    go_ret
    exact ⟨rfl, rfl⟩
  | cons h r =>
    obtain ⟨B, o, rfl, hBw, hcell⟩ := C_str hA (by rw [hl]; simp)
    have hcell0 : w.cell? ⟨B, o, none⟩ = some (.string h) := hcell 0 h (by rw [hl]; rfl)
    have hlen : l.length = r.length + 1 := by rw [hl]; rfl
    clear hcell hA
    have hr : r.length ≤ 4294967296 := by omega
    have HS := hide_ (show saysW (h :: r) = !(Lib.hasPrefix h.data.toList [35]) from rfl)
    rw [List.length_cons]
    clear hl hlen
    go_enter Tryz.func20, Tryz.ntmps20
    go_wp2_with (go_at_call 43; refine (hasPrefix_any _ _ _).mono ?_; rintro e w1 ⟨rfl, rfl⟩)
    go_ret
    exact ⟨by rw [HS.out]; rfl, rfl⟩

/-- What is no row and no program is kept. -/
def Other (w w' : World) : Prop := ∀ (k : Nat) (o : Obj), w.heap[k]? = some o → (∀ (cs : Array Value) (t : TypeId), o = Obj.cells cs t (0, 0) → t ≠ 38 ∧ t ≠ 22 ∧ t ≠ 25) → w'.heap[k]? = some o
theorem Other.trans {a b c : World} (h : Other a b) (k : Other b c) : Other a c := fun i o hi ho => k i o (h i o hi ho) ho
theorem Other.of_below {w w' : World} (h : Below w.heap.size w w') : Other w w' := fun k _ hk _ => (h.block k (blk_lt hk)).trans hk
theorem Other.of_grown {w w' : World} {v : Value} {t : TypeId} (h : w.grownBy w' v.ownBlock) (hv : ∀ k, v.ownBlock = some k → ∃ cs, w.heap[k]? = some (.cells cs t (0, 0))) (ht : t = 38 ∨ t = 22 ∨ t = 25) : Other w w' := fun k o hk ho => by
  refine (h.block k (blk_lt hk) (fun e => ?_)).trans hk
  obtain ⟨cs, hc⟩ := hv k e.symm
  rw [hk] at hc
  have := ho cs t (Option.some.inj hc)
  rcases ht with rfl | rfl | rfl
  · exact this.1 rfl
  · exact this.2.1 rfl
  · exact this.2.2 rfl
theorem Other.of_set {w : World} {g t : Nat} {cs : Array Value} (hg : w.heap[g]? = some (.cells cs t (0, 0))) (ht : t = 38 ∨ t = 22 ∨ t = 25) (j : Nat) (u : Value) : Other w (w.setCell ⟨g, j, none⟩ u) := fun k o hk ho => by
  by_cases h : k = g
  · subst h
    rw [hg] at hk
    have := ho cs t (Option.some.inj hk).symm
    rcases ht with rfl | rfl | rfl
    · exact absurd rfl this.1
    · exact absurd rfl this.2.1
    · exact absurd rfl this.2.2
  · exact (Below.heap_setCell w ⟨g, j, none⟩ u k h).trans hk
theorem below_set_cell {w W : World} {base g : Nat} (h : Below base w W) (hg : base ≤ g) (j : Nat) (u : Value) : Below base w (W.setCell ⟨g, j, none⟩ u) := h.setCell hg u

theorem info22 : (Tryz.prog.info? 22).map (fun i => (i.zero, i.size, i.bytes)) = some (some (.slice none 0 0), 1, 24) := by kernel_rfl
theorem info38' : (Tryz.prog.info? 38).map (fun i => (i.zero, i.size, i.bytes)) = some (some zeroV.val, 6, 56) := by kernel_rfl
theorem callW_ne {l : List ByteArray} (h : l ≠ [callW]) (x : ByteArray) (hx : l[0]? = some x) (h1 : l.length = 1) : ¬ x.toList = [99, 97, 108, 108] := fun e => h (by
  cases l with
  | nil => simp at hx
  | cons y r =>
    simp at hx h1
    subst hx h1
    rw [toList_inj (a := y) (b := callW) (by rw [e, ByteArray.toList_eq]; rfl)])

/-- What taking a line's words leaves. -/
def Taken (w : World) (base b : Nat) (q : ProgV × Int) (e : Ending) (w' : World) : Prop := e = .returned (.int .i64 q.2) ∧ OwnsP w' base b q.1 ∧ Below base w w' ∧ Other w w'

set_option maxRecDepth 100000 in
set_option maxHeartbeats 1600000 in
theorem take_call (base b : Nat) (p : ProgV) (A : Option Addr) (cap : Nat) (w : World) (hA : Kd.string.C w A 1 [callW]) (hP : OwnsP w base b p) (hbw : base ≤ w.heap.size) (hcl : p.calls.length ≤ 4294967296) :
    Calls Tryz.prog 21 #[.pointer (some ⟨b, 0, none⟩), .slice A 1 cap] w (Taken w base b (takeW p [callW])) := by
  obtain ⟨B, o, rfl, hBw, hcell⟩ := C_str (l := [callW]) hA (by simp)
  have hcell0 : w.cell? ⟨B, o, none⟩ = some (.string ⟨#[99, 97, 108, 108]⟩) := hcell 0 callW rfl
  clear hcell hA
  obtain ⟨vm, vc, h1, h2, h3, h4⟩ := hP
  obtain ⟨Av, c2, rfl, -, -⟩ := Kd.S_reads h4
  have z1 := blk_cell h1 1
  have zf := blk_frozen h1 1
  by_cases h64 : 64 ≤ p.calls.length
  · have HT := hide_ (show takeW p [callW] = (p, 9) by rw [takeW, if_pos rfl, if_pos h64])
    go_enter Tryz.func21, Tryz.ntmps21
    go_wp2
    go_ret
    rw [HT.out]
    exact ⟨rfl, ⟨vm, _, h1, h2, h3, h4⟩, Below.refl _ _, Other.of_below (Below.refl _ _)⟩
  · have HT := hide_ (show takeW p [callW] = (⟨p.main, p.calls ++ [[]]⟩, 0) by rw [takeW, if_pos rfl, if_neg h64])
    have hlt : p.calls.length < 64 := by omega
    have e2 : (p.calls ++ [([] : List OpV)]).length = p.calls.length + 1 := by simp
    have hvm : ∀ k, w.heap.size ≤ k → some k ≠ vm.ownBlock := fun k hk e => by have := Kd.R_lt h3 k e.symm; omega
    go_enter Tryz.func21, Tryz.ntmps21
    go_wp2_with (at_builtin; refine Kd.S_append kCalls (w0 := w) base rfl (.tmp 28) (.tmp 29) 23 22 (.slice none 0 0) 24 rfl Tryz.underlying23 info22 rfl (by decide) (by decide) (.slice Av p.calls.length c2) p.calls [] [.slice none 0 0] (fun k => some k ≠ vm.ownBlock) (fun _ => False) rfl rfl ⟨_, rfl, Kd.R_nil _ _ _ _ _⟩ (fun _ hk => hk.elim) hvm (Kd.S_mono h4 (fun k hk => ⟨hk, fun h => h⟩)) (Below.refl _ _) hbw (by omega) ?_; intro v1 w1 hS1 hB1 hg1 hat1; obtain ⟨A1, c1, e1⟩ := Kd.S_slice hS1; rw [e2] at e1; subst e1; obtain ⟨hb1, hP1⟩ := OwnsP.calls_put h1 h2 h3 h4 hS1 hg1; have y1 := blk_cell hb1 1; have yf := blk_frozen hb1 1)
    go_ret
    rw [HT.out]
    exact ⟨rfl, hP1, below_set_cell hB1 h2 _ _, (Other.of_grown hg1 (Kd.S_typed h4) (by simp)).trans (Other.of_set hb1 (by simp) _ _)⟩


/-- What an append to one callback leaves, stored. -/
theorem OwnsP.call_put {w w1 : World} {base b g n cap m : Nat} {p : ProgV} {vm v v1 : Value} {oki : Nat → Prop} {x : OpV} (h1 : w.heap[b]? = some (.cells #[vm, .slice (some ⟨g, 0, none⟩) n cap] 25 (0, 0))) (h2 : base ≤ b) (hm : kOp.R 38 w base (fun _ => True) vm p.main)
    (hc : Kd.S kCalls 22 w base (fun k => some k ≠ vm.ownBlock) (.slice (some ⟨g, 0, none⟩) n cap) p.calls) (hH : Kd.H kCalls 22 w base (fun k => some k ≠ vm.ownBlock) (.slice (some ⟨g, 0, none⟩) n cap) p.calls (m : Int) oki [v])
    (hRi : kOp.R 38 w base oki v (p.calls.getD m [])) (hmn : m < n) (hr : kOp.R 38 w1 base (fun k => oki k ∨ some k ≠ vm.ownBlock ∧ w.heap.size ≤ k) v1 (p.calls.getD m [] ++ [x])) (hg : w.grownBy w1 v.ownBlock) :
    w1.cell? ⟨g, m, none⟩ = some v ∧ w1.frozen? ⟨g, m, none⟩ = false ∧ (∃ cs, w1.heap[g]? = some (.cells cs 22 (0, 0))) ∧ OwnsP (w1.setCell ⟨g, m, none⟩ v1) base b ⟨p.main, p.calls.set m (p.calls.getD m [] ++ [x])⟩ := by
  have hoo := hH.1
  have hty := Kd.R_typed hRi
  have hgo : (Value.slice (some ⟨g, 0, none⟩) n cap).ownBlock = some g := by simp [Value.ownBlock]
  have hb1 : w1.heap[b]? = some (.cells #[vm, .slice (some ⟨g, 0, none⟩) n cap] 25 (0, 0)) := blk_grown h1 hg (Kd.R_ne hRi h1 (by decide))
  obtain ⟨cs, hcs⟩ := Kd.S_typed hc g hgo
  have hcs1 : w1.heap[g]? = some (.cells cs 22 (0, 0)) := blk_grown hcs hg (Kd.R_ne hRi hcs (by decide))
  have hH1 := Kd.H_grown (Kd.H_widen hH) hg (fun k hk => Or.inl (hRi.1 k hk))
  obtain ⟨hca, hcf⟩ := Kd.H_at hH1 (Int.natCast_nonneg m) (by omega)
  have hca0 := hca 0 v rfl
  have hcf0 := hcf 0
  rw [show (m : Int).toNat * kCalls.sz + 0 = m by show m * 1 + 0 = m; omega] at hca0 hcf0
  have hset := Kd.S_seg (okg := fun _ => False) (x' := p.calls.getD m [] ++ [x]) (okp := fun k => oki k ∨ some k ≠ vm.ownBlock ∧ w.heap.size ≤ k) (Kd.H_mono hH1 (fun k hk => ⟨hk, fun h => h⟩)) (Int.natCast_nonneg m) (by omega) (seg := [v1]) (j := 0) (Nat.le_refl _) ⟨v1, rfl, hr⟩ (fun k hk => Or.inl hk) (fun _ h => h.elim)
  rw [show (m : Int).toNat * kCalls.sz + 0 = m by show m * 1 + 0 = m; omega] at hset
  have hset' : Kd.S kCalls 22 (w1.setCell ⟨g, m, none⟩ v1) base (fun k => some k ≠ vm.ownBlock) (.slice (some ⟨g, 0, none⟩) n cap) (p.calls.set m (p.calls.getD m [] ++ [x])) ∧ w1.grownBy (w1.setCell ⟨g, m, none⟩ v1) (some g) := hset
  have hmain := Kd.R_grown2 (Kd.R_grown2 hm kOp_E hg (fun k hk => hoo k (hRi.1 k hk))) kOp_E hset'.2 (fun k hk => by
    obtain rfl := Option.some.inj hk
    exact Kd.R_ne hm hcs (by decide))
  refine ⟨hca0, hcf0, ⟨cs, hcs1⟩, vm, .slice (some ⟨g, 0, none⟩) n cap, ?_, h2, hmain, hset'.1⟩
  refine (Below.heap_setCell w1 ⟨g, m, none⟩ v1 b (fun e => ?_)).trans hb1
  have e' : b = g := e
  subst e'
  rw [hcs1] at hb1
  simp at hb1
theorem cell_alloc_at {w : World} {a : Addr} {v : Value} (h : w.cell? a = some v) (o : Obj) : (w.alloc o).cell? a = some v := (World.cell?_alloc_lt _ _ _ (World.block_lt_of_cell? w a h)).trans h

set_option maxRecDepth 100000 in
set_option maxHeartbeats 3200000 in
theorem take_op (base b : Nat) (p : ProgV) (l : List ByteArray) (A : Option Addr) (cap : Nat) (w : World) (hO : LayO w) (hA : Kd.string.C w A l.length l) (hc : l.length ≤ cap) (hll : l.length ≤ 4294967296) (hs : ∀ x ∈ l, x.size ≤ 281474976710656) (hne : l ≠ [callW]) (hP : OwnsP w base b p) (hbw : base ≤ w.heap.size) (hcl : p.calls.length ≤ 4294967296) (hcn : countP p ≤ 4294967296) :
    Calls Tryz.prog 21 #[.pointer (some ⟨b, 0, none⟩), .slice A l.length cap] w (Taken w base b (takeW p l)) := by
  have hparse := parse_any l A cap w hO hA hc hll hs
  have HT := hide_ (show takeW p l = if (parseW l).2 = 0 then (if 4096 ≤ countP p then (p, 9) else (addOp p (parseW l).1, 0)) else (p, (parseW l).2) by rw [takeW, if_neg hne])
  have hcell : l.length = 1 → ∃ B o y, A = some ⟨B, o, none⟩ ∧ w.cell? ⟨B, o, none⟩ = some (.string y) ∧ ¬ y.toList = [99, 97, 108, 108] := fun h1 => by
    obtain ⟨B, o, e, _, hc⟩ := C_str hA (fun e => by rw [e] at h1; cases h1)
    obtain ⟨y, hy⟩ : ∃ y, l[0]? = some y := ⟨_, List.getElem?_eq_getElem (by omega)⟩
    exact ⟨B, o, y, e, hc 0 y hy, callW_ne hne y hy h1⟩
  simp only [OpV.val] at hparse
  generalize (parseW l).1 = x at hparse HT
  generalize (parseW l).2 = f at hparse HT
  generalize l.length = n at *
  clear hA hs hne hc hO
  obtain ⟨vm, vc, hb0, hrd⟩ := hP.reads
  have hcnt : ∀ W, Below w.heap.size w W → Calls Tryz.prog 23 #[.agg #[vm, vc]] W fun e w' => e = .returned (.int .i64 (countP p)) ∧ Below W.heap.size W w' := fun W hW => count_any vm vc p W (hrd.below hW) (by omega)
  have hAl : ∀ (W : World) (a : Addr) {v : Value} (o : Obj), W.cell? a = some v → (W.alloc o).cell? a = some v ∧ True := fun W a v o h => ⟨cell_alloc_at h o, trivial⟩
  rcases (show n = 1 ∨ n ≠ 1 by omega) with h1 | h1
  · obtain ⟨B, o, y, rfl, hy, hyn⟩ := hcell h1
    subst h1
    replace hyn : (y.toList == [99, 97, 108, 108]) = false := beq_eq_false_iff_ne.2 hyn
    clear hcell
    by_cases hf : f = 0
    · subst hf
      rw [if_pos rfl] at HT
      by_cases h4096 : 4096 ≤ countP p
      · have hn : (4096 : Int) ≤ (countP p : Int) := by omega
        rw [if_pos h4096] at HT
        generalize countP p = cn at *
        go_enter Tryz.func21, Tryz.ntmps21
        go_wp2_with (first
          | (go_at_call 44; refine hparse.mono ?_; rintro e w1 ⟨rfl, hB1⟩; have hB2 := fun o => below_alloc hB1 o; have b1 := blk_below hb0 hB1; have y0 := fun o => cell_alloc_at ((blk_cell b1 0).trans rfl) o; have y1 := fun o => cell_alloc_at ((blk_cell b1 1).trans rfl) o)
          | (go_at_call 23; refine (hcnt _ (hB2 _)).mono ?_; rintro e w3 ⟨rfl, hB3⟩; have hX3 := blk_below (blk_new w1 _) hB3; have hC3 := below_then (hB2 _) (hB2 _).size hB3; clear y0 y1 b1; have hb3 := blk_below hb0 hC3; have y0 := (blk_cell hb3 0).trans rfl; have y1 := (blk_cell hb3 1).trans rfl; clear hB3))
        go_ret
        rw [HT.out]
        exact ⟨rfl, hP.keep (KeptP.of_below hC3), hC3.mono hbw, Other.of_below hC3⟩
      · have hn : ¬ (4096 : Int) ≤ (countP p : Int) := by omega
        rw [if_neg h4096] at HT
        have hml : p.main.length < 4096 := by have : countP p = p.main.length + sumL p.calls := rfl; omega
        obtain ⟨vm', vc', hb0', h2, hR0, hS0⟩ := hP
        have hvv := hb0.symm.trans hb0'
        simp at hvv
        obtain ⟨rfl, rfl⟩ := hvv
        clear hb0'
        obtain ⟨Am, cm, rfl, -, -⟩ := Kd.R_reads hR0
        obtain ⟨Av, cv, rfl, -, -⟩ := Kd.S_reads hS0
        generalize hcc : countP p = cn at *
        by_cases hz : p.calls.length = 0
        · have HA := hide_ (show addOp p x = ⟨p.main ++ [x], p.calls⟩ by rw [addOp, if_pos hz])
          have hzb : decide ((0 : Int) < (p.calls.length : Int)) = false := decide_eq_false (by omega)
          have hz' : ¬ (0 : Int) < (p.calls.length : Int) := by omega
          clear hz
          go_enter Tryz.func21, Tryz.ntmps21
          go_wp2_with (first
            | (go_at_call 44; refine hparse.mono ?_; rintro e w1 ⟨rfl, hB1⟩; have hB2 := fun o => below_alloc hB1 o; have b1 := blk_below hb0 hB1; have y0 := fun o => cell_alloc_at ((blk_cell b1 0).trans rfl) o; have y1 := fun o => cell_alloc_at ((blk_cell b1 1).trans rfl) o)
            | (go_at_call 23; refine (hcnt _ (hB2 _)).mono ?_; rintro e w3 ⟨rfl, hB3⟩; have hX3 := blk_below (blk_new w1 _) hB3; have hC3 := below_then (hB2 _) (hB2 _).size hB3; clear y0 y1 b1; have hb3 := blk_below hb0 hC3; have y0 := (blk_cell hb3 0).trans rfl; have y1 := (blk_cell hb3 1).trans rfl; clear hB3))
          have hO3 := OwnsP.keep (w := w) (p := p) ⟨_, _, hb0, h2, hR0, hS0⟩ (KeptP.of_below (below_drew hC3))
          obtain ⟨vm', vc', hb3', _, hR3, hS3⟩ := hO3
          have hvv := (show w3.heap[b]? = _ from hb3').symm.trans hb3
          simp at hvv
          obtain ⟨rfl, rfl⟩ := hvv
          have hgne : some w1.heap.size ≠ (Value.slice Am p.main.length cm).ownBlock := fun e => by have := Kd.R_lt hR0 _ e.symm; have := hB1.size; omega
          generalize w1.heap.size = g at *
          refine start_ (n := 9) (S := fun w' => w'.cell? ⟨b, 0, none⟩ = some (.slice Am p.main.length cm) ∧ w'.heap[g]? = some (.cells #[.int .i64 x.code, .int .i64 x.a, .int .i64 x.b, .int .i64 x.c, .int .i64 x.d, .string x.s] 38 (0, 0))) (ds := [6, 8]) #[false, false, false, false, false, false, false, false, false] (by kernel_rfl) rfl rfl ⟨by exact y0, hX3⟩ (fun hHeld => ?_)
          refine pure_ (i := 0) (N := (some 63)) (v := ?_) (a' := ?_) #[true, false, false, false, false, false, false, false, false] rfl rfl (by kernel_rfl) (fun _ _ _ h => h) (Or.inl ⟨by rfl, ?_⟩) ?_ ?_
          rotate_left
          · intro w'
            go_simp
            with_reducible rfl
          rotate_left
          · simp only [Act.put, List.setIfInBounds_toArray, List.set_cons_zero, List.set_cons_succ]
            rfl
          refine pure_ (i := 1) (N := (some 64)) (v := ?_) (a' := ?_) #[true, true, false, false, false, false, false, false, false] rfl rfl (by kernel_rfl) (fun _ _ _ h => h) (Or.inl ⟨by rfl, ?_⟩) ?_ ?_
          rotate_left
          · intro w'
            go_simp
            with_reducible rfl
          rotate_left
          · simp only [Act.put, List.setIfInBounds_toArray, List.set_cons_zero, List.set_cons_succ]
            rfl
          refine pure_ (i := 2) (N := (some 65)) (v := ?_) (a' := ?_) #[true, true, true, false, false, false, false, false, false] rfl rfl (by kernel_rfl) (fun _ _ _ h => h) (Or.inl ⟨by rfl, ?_⟩) ?_ ?_
          rotate_left
          · intro w'
            go_simp
            with_reducible rfl
          rotate_left
          · simp only [Act.put, List.setIfInBounds_toArray, List.set_cons_zero, List.set_cons_succ]
            rfl
          refine take_ (i := 3) (N := (some 66)) (v := ?_) (a' := ?_) #[true, true, true, true, false, false, false, false, false] rfl rfl (by kernel_rfl) (fun _ _ _ h => h) (Or.inl ⟨by rfl, ?_⟩) hHeld ?_ ?_
          rotate_left
          · intro w' hSw
            have z0 := hSw.1
            go_simp
            with_reducible rfl
          rotate_left
          · simp only [Act.put, List.setIfInBounds_toArray, List.set_cons_zero, List.set_cons_succ]
            rfl
          refine take_ (i := 4) (N := (some 67)) (v := ?_) (a' := ?_) #[true, true, true, true, true, false, false, false, false] rfl rfl (by kernel_rfl) (fun _ _ _ h => h) (Or.inl ⟨by rfl, ?_⟩) hHeld ?_ ?_
          rotate_left
          · intro w' hSw
            have z0 := blk_cell hSw.2 0
            have z1 := blk_cell hSw.2 1
            have z2 := blk_cell hSw.2 2
            have z3 := blk_cell hSw.2 3
            have z4 := blk_cell hSw.2 4
            have z5 := blk_cell hSw.2 5
            go_simp
            with_reducible rfl
          rotate_left
          · simp only [Act.put, List.setIfInBounds_toArray, List.set_cons_zero, List.set_cons_succ]
            rfl
          refine one_ (i := 5) (N := (some 68)) #[true, true, true, true, true, true, false, false, false] rfl rfl (by kernel_rfl) (by decide) (fun K hK => ?_)
          refine value_ (w1 := w3.drew.alloc (.cells #[.int .i64 x.code, .int .i64 x.a, .int .i64 x.b, .int .i64 x.c, .int .i64 x.d, .string x.s] 38)) (v := .slice (some ⟨w3.heap.size, 0, none⟩) 1 1) (by rfl) rfl ?_ ?_
          · go_simp
          refine hK.out _ _ ⟨cell_alloc_at hHeld.1 _, alloc_at hHeld.2 _⟩ (fun hHeld => ?_)
          clear hK K
          refine norm_ (a' := ?_) ?_ ?_
          rotate_left
          · show Act.put _ (some 68) _ = _
            simp only [Act.put, List.setIfInBounds_toArray, List.set_cons_zero, List.set_cons_succ]
            rfl
          refine last_ (i := 6) (N := (some 69)) #[true, true, true, true, true, true, true, false, false] rfl rfl (by kernel_rfl) (by decide) (fun K hK => ?_)
          refine Kd.R_append_step kOp (w0 := w) base (by rfl) (.tmp 66) (.tmp 68) 22 38 zeroV.val 56 rfl Tryz.underlying22 info38' rfl (by decide) (by decide) _ p.main x [.int .i64 x.code, .int .i64 x.a, .int .i64 x.b, .int .i64 x.c, .int .i64 x.d, .string x.s] (fun _ => True) (fun _ => False) rfl rfl (kOp_mkM _ _ _ x) (fun _ hk => hk.elim) (fun _ _ => trivial) hR3 ((below_drew hC3).mono hbw) (Nat.le_trans hbw hC3.size) (by omega) ?_
          intro v1 w4 hR4 hB4 hg4 hat4
          obtain ⟨hb4, hP4⟩ := OwnsP.main_put hb3' h2 hR3 hS3 hR4 hg4 hat4
          have hOt := (Other.of_below hC3).trans ((Other.of_grown (w := w3.drew) hg4 (Kd.R_typed hR3) (by simp)).trans (Other.of_set hb4 (by simp) 0 v1))
          obtain ⟨A1, c1, e1⟩ := Kd.R_slice hR4
          rw [List.length_append, List.length_singleton] at e1
          subst e1
          have y4 := (blk_cell hb4 0).trans rfl
          have yf := blk_frozen hb4 0
          refine hK.out _ _ ?_
          clear hK K
          refine norm_ (a' := ?_) ?_ ?_
          rotate_left
          · show Act.put _ (some 69) _ = _
            simp only [Act.put, List.setIfInBounds_toArray, List.set_cons_zero, List.set_cons_succ]
            rfl
          refine pure_ (i := 7) (N := (some 70)) (v := ?_) (a' := ?_) #[true, true, true, true, true, true, true, true, false] rfl rfl (by kernel_rfl) (fun _ _ _ h => h) (Or.inl ⟨by rfl, ?_⟩) ?_ ?_
          rotate_left
          · intro w'
            go_simp
            with_reducible rfl
          rotate_left
          · simp only [Act.put, List.setIfInBounds_toArray, List.set_cons_zero, List.set_cons_succ]
            rfl
          refine last_ (i := 8) (N := none) #[true, true, true, true, true, true, true, true, true] rfl rfl (by kernel_rfl) (by decide) (fun K hK => ?_)
          refine skip_ (w1 := w4.setCell ⟨b, 0, none⟩ (.slice A1 (p.main.length + 1) c1)) (by rfl) rfl ?_ ?_
          · go_simp
          refine hK.out _ _ ?_
          clear hK K
          refine done_ (by kernel_rfl) ?_
          go_wp2
          go_ret
          rw [HT.out, HA.out]
          exact ⟨rfl, hP4, below_set_cell hB4 h2 _ _, hOt⟩
        · obtain ⟨m, hm⟩ : ∃ m, p.calls.length = m + 1 := ⟨p.calls.length - 1, by omega⟩
          have HA := hide_ (show addOp p x = ⟨p.main, p.calls.set m (p.calls.getD m [] ++ [x])⟩ by rw [addOp, if_neg hz, hm, Nat.add_sub_cancel])
          have hml2 : (p.calls.getD m []).length < 4096 := by
            have h1 : p.calls[m]? = some (p.calls.getD m []) := by
              rw [List.getD_eq_getElem?_getD, List.getElem?_eq_getElem (by omega)]; rfl
            have h2 := sumL_next h1
            have h3 := sumL_le (l := p.calls) (m + 1)
            have h4 : countP p = p.main.length + sumL p.calls := rfl
            omega
          obtain ⟨gc, cv', hvv, -, -, -⟩ := Kd.S_form hS0 (by omega)
          rw [hm] at hvv hcl
          have hO3 := fun w3 => OwnsP.keep (w := w) (w' := w3) (p := p) ⟨_, _, hb0, h2, hR0, hS0⟩
          rw [hm] at hb0 hcnt hS0 hrd
          injection hvv with e1 e2 e3
          subst e1 e3
          have hzb : decide ((0 : Int) < ((m + 1 : Nat) : Int)) = true := decide_eq_true (by omega)
          have hz' : (0 : Int) < ((m + 1 : Nat) : Int) := by omega
          clear hz hm e2
          go_enter Tryz.func21, Tryz.ntmps21
          go_wp2_with (first
            | (go_at_call 44; refine hparse.mono ?_; rintro e w1 ⟨rfl, hB1⟩; have hB2 := fun o => below_alloc hB1 o; have b1 := blk_below hb0 hB1; have y0 := fun o => cell_alloc_at ((blk_cell b1 0).trans rfl) o; have y1 := fun o => cell_alloc_at ((blk_cell b1 1).trans rfl) o)
            | (go_at_call 23; refine (hcnt _ (hB2 _)).mono ?_; rintro e w3 ⟨rfl, hB3⟩; have hX3 := blk_below (blk_new w1 _) hB3; have hC3 := below_then (hB2 _) (hB2 _).size hB3; clear y0 y1 b1; have hb3 := blk_below hb0 hC3; have y0 := (blk_cell hb3 0).trans rfl; have y1 := (blk_cell hb3 1).trans rfl; clear hB3))
          replace hO3 := hO3 _ (KeptP.of_below (below_drew hC3))
          obtain ⟨vm', vc', hb3', _, hR3, hS3⟩ := hO3
          have hvv := (show w3.heap[b]? = _ from hb3').symm.trans hb3
          simp at hvv
          obtain ⟨rfl, rfl⟩ := hvv
          have hgne : ∀ v : Value, (∀ k, v.ownBlock = some k → k < w.heap.size) → some w1.heap.size ≠ v.ownBlock := fun v h e => by have := h _ e.symm; have := hB1.size; omega
          generalize w1.heap.size = g at *
          obtain ⟨oki, c, -, hM, hcc, -, hH⟩ := Kd.S_lend hS3 [] (m : Int) (Int.natCast_nonneg m) (by omega)
          rw [Int.toNat_natCast] at hM hcc
          obtain ⟨v, rfl, hRi⟩ := hM
          have hcc0 := hcc 0 v rfl
          rw [show m * kCalls.sz + 0 = m by show m * 1 + 0 = m; omega] at hcc0
          obtain ⟨Ai, ci, rfl, -, -⟩ := Kd.R_reads hRi
          have hvm : ∀ k, w3.drew.heap.size ≤ k → some k ≠ (Value.slice Am p.main.length cm).ownBlock := fun k hk e => by have := Kd.R_lt hR3 k e.symm; omega
          have hput := fun w1 v1 => OwnsP.call_put (w1 := w1) (v1 := v1) (x := x) hb3' h2 hR3 hS3 hH hRi (Nat.lt_succ_self m)
          have hty := Kd.R_typed hRi
          generalize p.calls.getD m [] = xi at *
          refine start_ (n := 9) (S := fun w' => w'.cell? ⟨gc, m, none⟩ = some (.slice Ai xi.length ci) ∧ w'.heap[g]? = some (.cells #[.int .i64 x.code, .int .i64 x.a, .int .i64 x.b, .int .i64 x.c, .int .i64 x.d, .string x.s] 38 (0, 0))) (ds := [6, 8]) #[false, false, false, false, false, false, false, false, false] (by kernel_rfl) rfl rfl ⟨by exact hcc0, hX3⟩ (fun hHeld => ?_)
          refine pure_ (i := 0) (N := (some 63)) (v := ?_) (a' := ?_) #[true, false, false, false, false, false, false, false, false] rfl rfl (by kernel_rfl) (fun _ _ _ h => h) (Or.inl ⟨by rfl, ?_⟩) ?_ ?_
          rotate_left
          · intro w'
            go_simp
            with_reducible rfl
          rotate_left
          · simp only [Act.put, List.setIfInBounds_toArray, List.set_cons_zero, List.set_cons_succ]
            rfl
          refine pure_ (i := 1) (N := (some 64)) (v := ?_) (a' := ?_) #[true, true, false, false, false, false, false, false, false] rfl rfl (by kernel_rfl) (fun _ _ _ h => h) (Or.inl ⟨by rfl, ?_⟩) ?_ ?_
          rotate_left
          · intro w'
            go_simp
            with_reducible rfl
          rotate_left
          · simp only [Act.put, List.setIfInBounds_toArray, List.set_cons_zero, List.set_cons_succ]
            rfl
          refine pure_ (i := 2) (N := (some 65)) (v := ?_) (a' := ?_) #[true, true, true, false, false, false, false, false, false] rfl rfl (by kernel_rfl) (fun _ _ _ h => h) (Or.inl ⟨by rfl, ?_⟩) ?_ ?_
          rotate_left
          · intro w'
            go_simp
            with_reducible rfl
          rotate_left
          · simp only [Act.put, List.setIfInBounds_toArray, List.set_cons_zero, List.set_cons_succ]
            rfl
          refine take_ (i := 3) (N := (some 66)) (v := ?_) (a' := ?_) #[true, true, true, true, false, false, false, false, false] rfl rfl (by kernel_rfl) (fun _ _ _ h => h) (Or.inl ⟨by rfl, ?_⟩) hHeld ?_ ?_
          rotate_left
          · intro w' hSw
            have z0 := hSw.1
            go_simp
            with_reducible rfl
          rotate_left
          · simp only [Act.put, List.setIfInBounds_toArray, List.set_cons_zero, List.set_cons_succ]
            rfl
          refine take_ (i := 4) (N := (some 67)) (v := ?_) (a' := ?_) #[true, true, true, true, true, false, false, false, false] rfl rfl (by kernel_rfl) (fun _ _ _ h => h) (Or.inl ⟨by rfl, ?_⟩) hHeld ?_ ?_
          rotate_left
          · intro w' hSw
            have z0 := blk_cell hSw.2 0
            have z1 := blk_cell hSw.2 1
            have z2 := blk_cell hSw.2 2
            have z3 := blk_cell hSw.2 3
            have z4 := blk_cell hSw.2 4
            have z5 := blk_cell hSw.2 5
            go_simp
            with_reducible rfl
          rotate_left
          · simp only [Act.put, List.setIfInBounds_toArray, List.set_cons_zero, List.set_cons_succ]
            rfl
          refine one_ (i := 5) (N := (some 68)) #[true, true, true, true, true, true, false, false, false] rfl rfl (by kernel_rfl) (by decide) (fun K hK => ?_)
          refine value_ (w1 := w3.drew.alloc (.cells #[.int .i64 x.code, .int .i64 x.a, .int .i64 x.b, .int .i64 x.c, .int .i64 x.d, .string x.s] 38)) (v := .slice (some ⟨w3.heap.size, 0, none⟩) 1 1) (by rfl) rfl ?_ ?_
          · go_simp
          refine hK.out _ _ ⟨cell_alloc_at hHeld.1 _, alloc_at hHeld.2 _⟩ (fun hHeld => ?_)
          clear hK K
          refine norm_ (a' := ?_) ?_ ?_
          rotate_left
          · show Act.put _ (some 68) _ = _
            simp only [Act.put, List.setIfInBounds_toArray, List.set_cons_zero, List.set_cons_succ]
            rfl
          refine last_ (i := 6) (N := (some 69)) #[true, true, true, true, true, true, true, false, false] rfl rfl (by kernel_rfl) (by decide) (fun K hK => ?_)
          refine Kd.R_append_step kOp (w0 := w) base (by rfl) (.tmp 66) (.tmp 68) 22 38 zeroV.val 56 rfl Tryz.underlying22 info38' rfl (by decide) (by decide) _ xi x [.int .i64 x.code, .int .i64 x.a, .int .i64 x.b, .int .i64 x.c, .int .i64 x.d, .string x.s] (fun k => oki k ∨ some k ≠ (Value.slice Am p.main.length cm).ownBlock ∧ w3.drew.heap.size ≤ k) (fun _ => False) rfl rfl (kOp_mkM _ _ _ x) (fun _ hk => hk.elim) (fun k hk => Or.inr ⟨hvm k hk, hk⟩) (Kd.R_mono hRi (fun _ hk => Or.inl hk)) ((below_drew hC3).mono hbw) (Nat.le_trans hbw hC3.size) (by omega) ?_
          intro v1 w4 hR4 hB4 hg4 hat4
          obtain ⟨y4, yf, ⟨cs4, hb4⟩, hP4⟩ := hput w4 v1 hR4 hg4
          have hOt := (Other.of_below hC3).trans ((Other.of_grown (w := w3.drew) hg4 hty (by simp)).trans (Other.of_set hb4 (by simp) m v1))
          obtain ⟨A1, c1, e1⟩ := Kd.R_slice hR4
          rw [List.length_append, List.length_singleton] at e1
          subst e1
          have hgb : base ≤ gc := Kd.S_base hS3 gc (by simp [Value.ownBlock])
          refine hK.out _ _ ?_
          clear hK K
          refine norm_ (a' := ?_) ?_ ?_
          rotate_left
          · show Act.put _ (some 69) _ = _
            simp only [Act.put, List.setIfInBounds_toArray, List.set_cons_zero, List.set_cons_succ]
            rfl
          refine pure_ (i := 7) (N := (some 70)) (v := ?_) (a' := ?_) #[true, true, true, true, true, true, true, true, false] rfl rfl (by kernel_rfl) (fun _ _ _ h => h) (Or.inl ⟨by rfl, ?_⟩) ?_ ?_
          rotate_left
          · intro w'
            go_simp
            with_reducible rfl
          rotate_left
          · simp only [Act.put, List.setIfInBounds_toArray, List.set_cons_zero, List.set_cons_succ]
            rfl
          refine last_ (i := 8) (N := none) #[true, true, true, true, true, true, true, true, true] rfl rfl (by kernel_rfl) (by decide) (fun K hK => ?_)
          refine skip_ (w1 := w4.setCell ⟨gc, m, none⟩ (.slice A1 (xi.length + 1) c1)) (by rfl) rfl ?_ ?_
          · go_simp
          refine hK.out _ _ ?_
          clear hK K
          refine done_ (by kernel_rfl) ?_
          go_wp2
          go_ret
          rw [HT.out, HA.out]
          exact ⟨rfl, hP4, below_set_cell hB4 hgb _ _, hOt⟩
    · have hfb : (f != 0) = true := by simp [hf]
      rw [if_neg hf] at HT
      go_enter Tryz.func21, Tryz.ntmps21
      go_wp2_with (go_at_call 44; refine hparse.mono ?_; rintro e w1 ⟨rfl, hB1⟩)
      go_ret
      rw [HT.out]
      have hB2 := below_alloc hB1 (.cells #[.int .i64 x.code, .int .i64 x.a, .int .i64 x.b, .int .i64 x.c, .int .i64 x.d, .string x.s] 38)
      exact ⟨rfl, hP.keep (KeptP.of_below hB2), hB2.mono hbw, Other.of_below hB2⟩
  · have hl1 : ((n : Int) == 1) = false := by simp; omega
    clear hcell
    by_cases hf : f = 0
    · subst hf
      rw [if_pos rfl] at HT
      by_cases h4096 : 4096 ≤ countP p
      · have hn : (4096 : Int) ≤ (countP p : Int) := by omega
        rw [if_pos h4096] at HT
        generalize countP p = cn at *
        go_enter Tryz.func21, Tryz.ntmps21
        go_wp2_with (first
          | (go_at_call 44; refine hparse.mono ?_; rintro e w1 ⟨rfl, hB1⟩; have hB2 := fun o => below_alloc hB1 o; have b1 := blk_below hb0 hB1; have y0 := fun o => cell_alloc_at ((blk_cell b1 0).trans rfl) o; have y1 := fun o => cell_alloc_at ((blk_cell b1 1).trans rfl) o)
          | (go_at_call 23; refine (hcnt _ (hB2 _)).mono ?_; rintro e w3 ⟨rfl, hB3⟩; have hX3 := blk_below (blk_new w1 _) hB3; have hC3 := below_then (hB2 _) (hB2 _).size hB3; clear y0 y1 b1; have hb3 := blk_below hb0 hC3; have y0 := (blk_cell hb3 0).trans rfl; have y1 := (blk_cell hb3 1).trans rfl; clear hB3))
        go_ret
        rw [HT.out]
        exact ⟨rfl, hP.keep (KeptP.of_below hC3), hC3.mono hbw, Other.of_below hC3⟩
      · have hn : ¬ (4096 : Int) ≤ (countP p : Int) := by omega
        rw [if_neg h4096] at HT
        have hml : p.main.length < 4096 := by have : countP p = p.main.length + sumL p.calls := rfl; omega
        obtain ⟨vm', vc', hb0', h2, hR0, hS0⟩ := hP
        have hvv := hb0.symm.trans hb0'
        simp at hvv
        obtain ⟨rfl, rfl⟩ := hvv
        clear hb0'
        obtain ⟨Am, cm, rfl, -, -⟩ := Kd.R_reads hR0
        obtain ⟨Av, cv, rfl, -, -⟩ := Kd.S_reads hS0
        generalize hcc : countP p = cn at *
        by_cases hz : p.calls.length = 0
        · have HA := hide_ (show addOp p x = ⟨p.main ++ [x], p.calls⟩ by rw [addOp, if_pos hz])
          have hzb : decide ((0 : Int) < (p.calls.length : Int)) = false := decide_eq_false (by omega)
          have hz' : ¬ (0 : Int) < (p.calls.length : Int) := by omega
          clear hz
          go_enter Tryz.func21, Tryz.ntmps21
          go_wp2_with (first
            | (go_at_call 44; refine hparse.mono ?_; rintro e w1 ⟨rfl, hB1⟩; have hB2 := fun o => below_alloc hB1 o; have b1 := blk_below hb0 hB1; have y0 := fun o => cell_alloc_at ((blk_cell b1 0).trans rfl) o; have y1 := fun o => cell_alloc_at ((blk_cell b1 1).trans rfl) o)
            | (go_at_call 23; refine (hcnt _ (hB2 _)).mono ?_; rintro e w3 ⟨rfl, hB3⟩; have hX3 := blk_below (blk_new w1 _) hB3; have hC3 := below_then (hB2 _) (hB2 _).size hB3; clear y0 y1 b1; have hb3 := blk_below hb0 hC3; have y0 := (blk_cell hb3 0).trans rfl; have y1 := (blk_cell hb3 1).trans rfl; clear hB3))
          have hO3 := OwnsP.keep (w := w) (p := p) ⟨_, _, hb0, h2, hR0, hS0⟩ (KeptP.of_below (below_drew hC3))
          obtain ⟨vm', vc', hb3', _, hR3, hS3⟩ := hO3
          have hvv := (show w3.heap[b]? = _ from hb3').symm.trans hb3
          simp at hvv
          obtain ⟨rfl, rfl⟩ := hvv
          have hgne : some w1.heap.size ≠ (Value.slice Am p.main.length cm).ownBlock := fun e => by have := Kd.R_lt hR0 _ e.symm; have := hB1.size; omega
          generalize w1.heap.size = g at *
          refine start_ (n := 9) (S := fun w' => w'.cell? ⟨b, 0, none⟩ = some (.slice Am p.main.length cm) ∧ w'.heap[g]? = some (.cells #[.int .i64 x.code, .int .i64 x.a, .int .i64 x.b, .int .i64 x.c, .int .i64 x.d, .string x.s] 38 (0, 0))) (ds := [6, 8]) #[false, false, false, false, false, false, false, false, false] (by kernel_rfl) rfl rfl ⟨by exact y0, hX3⟩ (fun hHeld => ?_)
          refine pure_ (i := 0) (N := (some 63)) (v := ?_) (a' := ?_) #[true, false, false, false, false, false, false, false, false] rfl rfl (by kernel_rfl) (fun _ _ _ h => h) (Or.inl ⟨by rfl, ?_⟩) ?_ ?_
          rotate_left
          · intro w'
            go_simp
            with_reducible rfl
          rotate_left
          · simp only [Act.put, List.setIfInBounds_toArray, List.set_cons_zero, List.set_cons_succ]
            rfl
          refine pure_ (i := 1) (N := (some 64)) (v := ?_) (a' := ?_) #[true, true, false, false, false, false, false, false, false] rfl rfl (by kernel_rfl) (fun _ _ _ h => h) (Or.inl ⟨by rfl, ?_⟩) ?_ ?_
          rotate_left
          · intro w'
            go_simp
            with_reducible rfl
          rotate_left
          · simp only [Act.put, List.setIfInBounds_toArray, List.set_cons_zero, List.set_cons_succ]
            rfl
          refine pure_ (i := 2) (N := (some 65)) (v := ?_) (a' := ?_) #[true, true, true, false, false, false, false, false, false] rfl rfl (by kernel_rfl) (fun _ _ _ h => h) (Or.inl ⟨by rfl, ?_⟩) ?_ ?_
          rotate_left
          · intro w'
            go_simp
            with_reducible rfl
          rotate_left
          · simp only [Act.put, List.setIfInBounds_toArray, List.set_cons_zero, List.set_cons_succ]
            rfl
          refine take_ (i := 3) (N := (some 66)) (v := ?_) (a' := ?_) #[true, true, true, true, false, false, false, false, false] rfl rfl (by kernel_rfl) (fun _ _ _ h => h) (Or.inl ⟨by rfl, ?_⟩) hHeld ?_ ?_
          rotate_left
          · intro w' hSw
            have z0 := hSw.1
            go_simp
            with_reducible rfl
          rotate_left
          · simp only [Act.put, List.setIfInBounds_toArray, List.set_cons_zero, List.set_cons_succ]
            rfl
          refine take_ (i := 4) (N := (some 67)) (v := ?_) (a' := ?_) #[true, true, true, true, true, false, false, false, false] rfl rfl (by kernel_rfl) (fun _ _ _ h => h) (Or.inl ⟨by rfl, ?_⟩) hHeld ?_ ?_
          rotate_left
          · intro w' hSw
            have z0 := blk_cell hSw.2 0
            have z1 := blk_cell hSw.2 1
            have z2 := blk_cell hSw.2 2
            have z3 := blk_cell hSw.2 3
            have z4 := blk_cell hSw.2 4
            have z5 := blk_cell hSw.2 5
            go_simp
            with_reducible rfl
          rotate_left
          · simp only [Act.put, List.setIfInBounds_toArray, List.set_cons_zero, List.set_cons_succ]
            rfl
          refine one_ (i := 5) (N := (some 68)) #[true, true, true, true, true, true, false, false, false] rfl rfl (by kernel_rfl) (by decide) (fun K hK => ?_)
          refine value_ (w1 := w3.drew.alloc (.cells #[.int .i64 x.code, .int .i64 x.a, .int .i64 x.b, .int .i64 x.c, .int .i64 x.d, .string x.s] 38)) (v := .slice (some ⟨w3.heap.size, 0, none⟩) 1 1) (by rfl) rfl ?_ ?_
          · go_simp
          refine hK.out _ _ ⟨cell_alloc_at hHeld.1 _, alloc_at hHeld.2 _⟩ (fun hHeld => ?_)
          clear hK K
          refine norm_ (a' := ?_) ?_ ?_
          rotate_left
          · show Act.put _ (some 68) _ = _
            simp only [Act.put, List.setIfInBounds_toArray, List.set_cons_zero, List.set_cons_succ]
            rfl
          refine last_ (i := 6) (N := (some 69)) #[true, true, true, true, true, true, true, false, false] rfl rfl (by kernel_rfl) (by decide) (fun K hK => ?_)
          refine Kd.R_append_step kOp (w0 := w) base (by rfl) (.tmp 66) (.tmp 68) 22 38 zeroV.val 56 rfl Tryz.underlying22 info38' rfl (by decide) (by decide) _ p.main x [.int .i64 x.code, .int .i64 x.a, .int .i64 x.b, .int .i64 x.c, .int .i64 x.d, .string x.s] (fun _ => True) (fun _ => False) rfl rfl (kOp_mkM _ _ _ x) (fun _ hk => hk.elim) (fun _ _ => trivial) hR3 ((below_drew hC3).mono hbw) (Nat.le_trans hbw hC3.size) (by omega) ?_
          intro v1 w4 hR4 hB4 hg4 hat4
          obtain ⟨hb4, hP4⟩ := OwnsP.main_put hb3' h2 hR3 hS3 hR4 hg4 hat4
          have hOt := (Other.of_below hC3).trans ((Other.of_grown (w := w3.drew) hg4 (Kd.R_typed hR3) (by simp)).trans (Other.of_set hb4 (by simp) 0 v1))
          obtain ⟨A1, c1, e1⟩ := Kd.R_slice hR4
          rw [List.length_append, List.length_singleton] at e1
          subst e1
          have y4 := (blk_cell hb4 0).trans rfl
          have yf := blk_frozen hb4 0
          refine hK.out _ _ ?_
          clear hK K
          refine norm_ (a' := ?_) ?_ ?_
          rotate_left
          · show Act.put _ (some 69) _ = _
            simp only [Act.put, List.setIfInBounds_toArray, List.set_cons_zero, List.set_cons_succ]
            rfl
          refine pure_ (i := 7) (N := (some 70)) (v := ?_) (a' := ?_) #[true, true, true, true, true, true, true, true, false] rfl rfl (by kernel_rfl) (fun _ _ _ h => h) (Or.inl ⟨by rfl, ?_⟩) ?_ ?_
          rotate_left
          · intro w'
            go_simp
            with_reducible rfl
          rotate_left
          · simp only [Act.put, List.setIfInBounds_toArray, List.set_cons_zero, List.set_cons_succ]
            rfl
          refine last_ (i := 8) (N := none) #[true, true, true, true, true, true, true, true, true] rfl rfl (by kernel_rfl) (by decide) (fun K hK => ?_)
          refine skip_ (w1 := w4.setCell ⟨b, 0, none⟩ (.slice A1 (p.main.length + 1) c1)) (by rfl) rfl ?_ ?_
          · go_simp
          refine hK.out _ _ ?_
          clear hK K
          refine done_ (by kernel_rfl) ?_
          go_wp2
          go_ret
          rw [HT.out, HA.out]
          exact ⟨rfl, hP4, below_set_cell hB4 h2 _ _, hOt⟩
        · obtain ⟨m, hm⟩ : ∃ m, p.calls.length = m + 1 := ⟨p.calls.length - 1, by omega⟩
          have HA := hide_ (show addOp p x = ⟨p.main, p.calls.set m (p.calls.getD m [] ++ [x])⟩ by rw [addOp, if_neg hz, hm, Nat.add_sub_cancel])
          have hml2 : (p.calls.getD m []).length < 4096 := by
            have h1 : p.calls[m]? = some (p.calls.getD m []) := by
              rw [List.getD_eq_getElem?_getD, List.getElem?_eq_getElem (by omega)]; rfl
            have h2 := sumL_next h1
            have h3 := sumL_le (l := p.calls) (m + 1)
            have h4 : countP p = p.main.length + sumL p.calls := rfl
            omega
          obtain ⟨gc, cv', hvv, -, -, -⟩ := Kd.S_form hS0 (by omega)
          rw [hm] at hvv hcl
          have hO3 := fun w3 => OwnsP.keep (w := w) (w' := w3) (p := p) ⟨_, _, hb0, h2, hR0, hS0⟩
          rw [hm] at hb0 hcnt hS0 hrd
          injection hvv with e1 e2 e3
          subst e1 e3
          have hzb : decide ((0 : Int) < ((m + 1 : Nat) : Int)) = true := decide_eq_true (by omega)
          have hz' : (0 : Int) < ((m + 1 : Nat) : Int) := by omega
          clear hz hm e2
          go_enter Tryz.func21, Tryz.ntmps21
          go_wp2_with (first
            | (go_at_call 44; refine hparse.mono ?_; rintro e w1 ⟨rfl, hB1⟩; have hB2 := fun o => below_alloc hB1 o; have b1 := blk_below hb0 hB1; have y0 := fun o => cell_alloc_at ((blk_cell b1 0).trans rfl) o; have y1 := fun o => cell_alloc_at ((blk_cell b1 1).trans rfl) o)
            | (go_at_call 23; refine (hcnt _ (hB2 _)).mono ?_; rintro e w3 ⟨rfl, hB3⟩; have hX3 := blk_below (blk_new w1 _) hB3; have hC3 := below_then (hB2 _) (hB2 _).size hB3; clear y0 y1 b1; have hb3 := blk_below hb0 hC3; have y0 := (blk_cell hb3 0).trans rfl; have y1 := (blk_cell hb3 1).trans rfl; clear hB3))
          replace hO3 := hO3 _ (KeptP.of_below (below_drew hC3))
          obtain ⟨vm', vc', hb3', _, hR3, hS3⟩ := hO3
          have hvv := (show w3.heap[b]? = _ from hb3').symm.trans hb3
          simp at hvv
          obtain ⟨rfl, rfl⟩ := hvv
          have hgne : ∀ v : Value, (∀ k, v.ownBlock = some k → k < w.heap.size) → some w1.heap.size ≠ v.ownBlock := fun v h e => by have := h _ e.symm; have := hB1.size; omega
          generalize w1.heap.size = g at *
          obtain ⟨oki, c, -, hM, hcc, -, hH⟩ := Kd.S_lend hS3 [] (m : Int) (Int.natCast_nonneg m) (by omega)
          rw [Int.toNat_natCast] at hM hcc
          obtain ⟨v, rfl, hRi⟩ := hM
          have hcc0 := hcc 0 v rfl
          rw [show m * kCalls.sz + 0 = m by show m * 1 + 0 = m; omega] at hcc0
          obtain ⟨Ai, ci, rfl, -, -⟩ := Kd.R_reads hRi
          have hvm : ∀ k, w3.drew.heap.size ≤ k → some k ≠ (Value.slice Am p.main.length cm).ownBlock := fun k hk e => by have := Kd.R_lt hR3 k e.symm; omega
          have hput := fun w1 v1 => OwnsP.call_put (w1 := w1) (v1 := v1) (x := x) hb3' h2 hR3 hS3 hH hRi (Nat.lt_succ_self m)
          have hty := Kd.R_typed hRi
          generalize p.calls.getD m [] = xi at *
          refine start_ (n := 9) (S := fun w' => w'.cell? ⟨gc, m, none⟩ = some (.slice Ai xi.length ci) ∧ w'.heap[g]? = some (.cells #[.int .i64 x.code, .int .i64 x.a, .int .i64 x.b, .int .i64 x.c, .int .i64 x.d, .string x.s] 38 (0, 0))) (ds := [6, 8]) #[false, false, false, false, false, false, false, false, false] (by kernel_rfl) rfl rfl ⟨by exact hcc0, hX3⟩ (fun hHeld => ?_)
          refine pure_ (i := 0) (N := (some 63)) (v := ?_) (a' := ?_) #[true, false, false, false, false, false, false, false, false] rfl rfl (by kernel_rfl) (fun _ _ _ h => h) (Or.inl ⟨by rfl, ?_⟩) ?_ ?_
          rotate_left
          · intro w'
            go_simp
            with_reducible rfl
          rotate_left
          · simp only [Act.put, List.setIfInBounds_toArray, List.set_cons_zero, List.set_cons_succ]
            rfl
          refine pure_ (i := 1) (N := (some 64)) (v := ?_) (a' := ?_) #[true, true, false, false, false, false, false, false, false] rfl rfl (by kernel_rfl) (fun _ _ _ h => h) (Or.inl ⟨by rfl, ?_⟩) ?_ ?_
          rotate_left
          · intro w'
            go_simp
            with_reducible rfl
          rotate_left
          · simp only [Act.put, List.setIfInBounds_toArray, List.set_cons_zero, List.set_cons_succ]
            rfl
          refine pure_ (i := 2) (N := (some 65)) (v := ?_) (a' := ?_) #[true, true, true, false, false, false, false, false, false] rfl rfl (by kernel_rfl) (fun _ _ _ h => h) (Or.inl ⟨by rfl, ?_⟩) ?_ ?_
          rotate_left
          · intro w'
            go_simp
            with_reducible rfl
          rotate_left
          · simp only [Act.put, List.setIfInBounds_toArray, List.set_cons_zero, List.set_cons_succ]
            rfl
          refine take_ (i := 3) (N := (some 66)) (v := ?_) (a' := ?_) #[true, true, true, true, false, false, false, false, false] rfl rfl (by kernel_rfl) (fun _ _ _ h => h) (Or.inl ⟨by rfl, ?_⟩) hHeld ?_ ?_
          rotate_left
          · intro w' hSw
            have z0 := hSw.1
            go_simp
            with_reducible rfl
          rotate_left
          · simp only [Act.put, List.setIfInBounds_toArray, List.set_cons_zero, List.set_cons_succ]
            rfl
          refine take_ (i := 4) (N := (some 67)) (v := ?_) (a' := ?_) #[true, true, true, true, true, false, false, false, false] rfl rfl (by kernel_rfl) (fun _ _ _ h => h) (Or.inl ⟨by rfl, ?_⟩) hHeld ?_ ?_
          rotate_left
          · intro w' hSw
            have z0 := blk_cell hSw.2 0
            have z1 := blk_cell hSw.2 1
            have z2 := blk_cell hSw.2 2
            have z3 := blk_cell hSw.2 3
            have z4 := blk_cell hSw.2 4
            have z5 := blk_cell hSw.2 5
            go_simp
            with_reducible rfl
          rotate_left
          · simp only [Act.put, List.setIfInBounds_toArray, List.set_cons_zero, List.set_cons_succ]
            rfl
          refine one_ (i := 5) (N := (some 68)) #[true, true, true, true, true, true, false, false, false] rfl rfl (by kernel_rfl) (by decide) (fun K hK => ?_)
          refine value_ (w1 := w3.drew.alloc (.cells #[.int .i64 x.code, .int .i64 x.a, .int .i64 x.b, .int .i64 x.c, .int .i64 x.d, .string x.s] 38)) (v := .slice (some ⟨w3.heap.size, 0, none⟩) 1 1) (by rfl) rfl ?_ ?_
          · go_simp
          refine hK.out _ _ ⟨cell_alloc_at hHeld.1 _, alloc_at hHeld.2 _⟩ (fun hHeld => ?_)
          clear hK K
          refine norm_ (a' := ?_) ?_ ?_
          rotate_left
          · show Act.put _ (some 68) _ = _
            simp only [Act.put, List.setIfInBounds_toArray, List.set_cons_zero, List.set_cons_succ]
            rfl
          refine last_ (i := 6) (N := (some 69)) #[true, true, true, true, true, true, true, false, false] rfl rfl (by kernel_rfl) (by decide) (fun K hK => ?_)
          refine Kd.R_append_step kOp (w0 := w) base (by rfl) (.tmp 66) (.tmp 68) 22 38 zeroV.val 56 rfl Tryz.underlying22 info38' rfl (by decide) (by decide) _ xi x [.int .i64 x.code, .int .i64 x.a, .int .i64 x.b, .int .i64 x.c, .int .i64 x.d, .string x.s] (fun k => oki k ∨ some k ≠ (Value.slice Am p.main.length cm).ownBlock ∧ w3.drew.heap.size ≤ k) (fun _ => False) rfl rfl (kOp_mkM _ _ _ x) (fun _ hk => hk.elim) (fun k hk => Or.inr ⟨hvm k hk, hk⟩) (Kd.R_mono hRi (fun _ hk => Or.inl hk)) ((below_drew hC3).mono hbw) (Nat.le_trans hbw hC3.size) (by omega) ?_
          intro v1 w4 hR4 hB4 hg4 hat4
          obtain ⟨y4, yf, ⟨cs4, hb4⟩, hP4⟩ := hput w4 v1 hR4 hg4
          have hOt := (Other.of_below hC3).trans ((Other.of_grown (w := w3.drew) hg4 hty (by simp)).trans (Other.of_set hb4 (by simp) m v1))
          obtain ⟨A1, c1, e1⟩ := Kd.R_slice hR4
          rw [List.length_append, List.length_singleton] at e1
          subst e1
          have hgb : base ≤ gc := Kd.S_base hS3 gc (by simp [Value.ownBlock])
          refine hK.out _ _ ?_
          clear hK K
          refine norm_ (a' := ?_) ?_ ?_
          rotate_left
          · show Act.put _ (some 69) _ = _
            simp only [Act.put, List.setIfInBounds_toArray, List.set_cons_zero, List.set_cons_succ]
            rfl
          refine pure_ (i := 7) (N := (some 70)) (v := ?_) (a' := ?_) #[true, true, true, true, true, true, true, true, false] rfl rfl (by kernel_rfl) (fun _ _ _ h => h) (Or.inl ⟨by rfl, ?_⟩) ?_ ?_
          rotate_left
          · intro w'
            go_simp
            with_reducible rfl
          rotate_left
          · simp only [Act.put, List.setIfInBounds_toArray, List.set_cons_zero, List.set_cons_succ]
            rfl
          refine last_ (i := 8) (N := none) #[true, true, true, true, true, true, true, true, true] rfl rfl (by kernel_rfl) (by decide) (fun K hK => ?_)
          refine skip_ (w1 := w4.setCell ⟨gc, m, none⟩ (.slice A1 (xi.length + 1) c1)) (by rfl) rfl ?_ ?_
          · go_simp
          refine hK.out _ _ ?_
          clear hK K
          refine done_ (by kernel_rfl) ?_
          go_wp2
          go_ret
          rw [HT.out, HA.out]
          exact ⟨rfl, hP4, below_set_cell hB4 hgb _ _, hOt⟩
    · have hfb : (f != 0) = true := by simp [hf]
      rw [if_neg hf] at HT
      go_enter Tryz.func21, Tryz.ntmps21
      go_wp2_with (go_at_call 44; refine hparse.mono ?_; rintro e w1 ⟨rfl, hB1⟩)
      go_ret
      rw [HT.out]
      have hB2 := below_alloc hB1 (.cells #[.int .i64 x.code, .int .i64 x.a, .int .i64 x.b, .int .i64 x.c, .int .i64 x.d, .string x.s] 38)
      exact ⟨rfl, hP.keep (KeptP.of_below hB2), hB2.mono hbw, Other.of_below hB2⟩

theorem take_any (base b : Nat) (p : ProgV) (l : List ByteArray) (A : Option Addr) (cap : Nat) (w : World) (hO : LayO w) (hA : Kd.string.C w A l.length l) (hc : l.length ≤ cap) (hll : l.length ≤ 4294967296) (hs : ∀ x ∈ l, x.size ≤ 281474976710656) (hP : OwnsP w base b p) (hbw : base ≤ w.heap.size) (hcl : p.calls.length ≤ 4294967296) (hcn : countP p ≤ 4294967296) :
    Calls Tryz.prog 21 #[.pointer (some ⟨b, 0, none⟩), .slice A l.length cap] w (Taken w base b (takeW p l)) := by
  by_cases h : l = [callW]
  · subst h
    exact take_call base b p A cap w hA hP hbw hcl
  · exact take_op base b p l A cap w hO hA hc hll hs h hP hbw hcl hcn
end Go.Proofs.YtmjedjhgomlfiaaGreatDoor

set_option linter.unusedSimpArgs false
namespace Go.Proofs.YtmjedjhgomlfiaaGreatDoor
open Go.RowKit Go.Shelf Go.Proofs.YtmjedjhgomlfiaaGreatDoorW.PrintWords Go.Proofs.YtmjedjhgomlfiaaGreatDoorW.PrintLast Go.Lib

attribute [local go_sem] Oper.semAt_some

/-- The program of a script, a line, an error's number. -/
def scriptW (s : ByteArray) : ProgV × Int × Int := runW (linesS (Lib.trimSuffix s.data.toList [10])) 0 zeroP
theorem alloc_new' {w : World} {k : Nat} {o : Obj} (h : w.heap.size = k) : (w.alloc o).heap[k]? = some o := h ▸ World.alloc_heap_new w o
theorem trim_le (s : List UInt8) : (Lib.trimSuffix s [10]).length ≤ s.length := by
  unfold Lib.trimSuffix
  split
  · simp
  · exact Nat.le_refl _
/-- A line is no longer than its text. -/
theorem spn_len : ∀ (l : List UInt8) (t : List UInt8), t ∈ spn l → t.length ≤ l.length
  | [], t, h => by simp [spn] at h; subst h; simp
  | b :: l, t, h => by
    obtain ⟨hd, tl, he⟩ := spn_ne l
    by_cases hb : b = 10
    · subst hb
      rw [spn_end] at h
      rcases List.mem_cons.1 h with h | h
      · subst h; simp
      · have := spn_len l t h; simp; omega
    · rw [spn_cons hb he] at h
      rcases List.mem_cons.1 h with h | h
      · subst h
        have := spn_len l hd (by rw [he]; simp)
        simp; omega
      · have := spn_len l t (by rw [he]; simp [h])
        simp; omega
theorem spn_count : ∀ (l : List UInt8), (spn l).length ≤ l.length + 1
  | [] => by simp [spn]
  | b :: l => by
    obtain ⟨hd, tl, he⟩ := spn_ne l
    have := spn_count l
    by_cases hb : b = 10
    · subst hb; rw [spn_end]; simp; omega
    · rw [spn_cons hb he]; rw [he] at this; simp at this ⊢; omega

theorem sp_len : ∀ (l : List UInt8) (t : List UInt8), t ∈ sp l → t.length ≤ l.length
  | [], t, h => by simp [sp] at h; subst h; simp
  | b :: l, t, h => by
    obtain ⟨hd, tl, he⟩ := sp_ne l
    by_cases hb : b = 32
    · subst hb
      rw [sp_blank] at h
      rcases List.mem_cons.1 h with h | h
      · subst h; simp
      · have := sp_len l t h; simp; omega
    · rw [sp_cons hb he] at h
      rcases List.mem_cons.1 h with h | h
      · subst h
        have := sp_len l hd (by rw [he]; simp)
        simp; omega
      · have := sp_len l t (by rw [he]; simp [h])
        simp; omega
theorem sp_count : ∀ (l : List UInt8), (sp l).length ≤ l.length + 1
  | [] => by simp [sp]
  | b :: l => by
    obtain ⟨hd, tl, he⟩ := sp_ne l
    have := sp_count l
    by_cases hb : b = 32
    · subst hb; rw [sp_blank]; simp; omega
    · rw [sp_cons hb he]; rw [he] at this; simp at this ⊢; omega
theorem words_size {s x : ByteArray} (h : x ∈ words s) : x.size ≤ s.size := by
  rw [words_W, W] at h
  obtain ⟨y, hy, rfl⟩ := List.mem_map.1 h
  have := sp_len _ y (List.mem_filter.1 hy).1
  rw [Lib.size_eq, data_ofL]
  exact this
theorem words_length (s : ByteArray) : (words s).length ≤ s.size + 1 := by
  rw [words_W, W, List.length_map]
  exact Nat.le_trans (List.length_filter_le _ _) (sp_count _)

/-- What a round ends in. -/
def RB (J b Jx : World → Prop) (e : Ending) (Y : World) : Prop := (e = .returned (.bool true) ∧ J Y ∧ b Y) ∨ (e = .returned (.bool false) ∧ Jx Y)
theorem RB.yes {J b Jx : World → Prop} {Y : World} (h : J Y) (h2 : b Y) : RB J b Jx (.returned (.bool true)) Y := .inl ⟨rfl, h, h2⟩
theorem RB.no {J b Jx : World → Prop} {Y : World} (h : Jx Y) : RB J b Jx (.returned (.bool false)) Y := .inr ⟨rfl, h⟩
theorem yield_rb {F : Fence} {n : Nat} {P : Program} {l : Nat} {args : Array Value} {X : World} {J b Jx : World → Prop} (h : YieldAt F n P l args X (RB J b Jx)) : YieldAt F n P l args X (fun e Y => (e = .returned (.bool true) ∧ J Y ∧ b Y) ∨ (e = .returned (.bool false) ∧ Jx Y)) := h
/-- What the loop over a script's lines keeps. -/
structure JS (w : World) (D l : Nat) (r : Loop) (k : Int) (X : World) : Prop where
  b : Below w.heap.size w X
  lp : X.heap[l]? = some (.loop r)
  d : X.heap[D]? = some (.deferred (some []))
  c0 : X.heap[w.heap.size]? = some (.cells #[.slice none 0 0, .slice none 0 0] 25 (0, 0))
  c1 : X.heap[w.heap.size + 1]? = some (.cells #[.int .i64 0] 3 (0, 0))
  c2 : X.heap[w.heap.size + 2]? = some (.cells #[.int .i64 0] 28 (0, 0))
  c4 : X.heap[w.heap.size + 4]? = some (.cells #[.int .i64 k] 3 (0, 0))
  c5 : ∃ u, X.heap[w.heap.size + 5]? = some (.cells #[u] 9 (0, 0))
  c6 : X.heap[w.heap.size + 6]? = some (.cells #[.string ⟨#[10]⟩] 9 (0, 0))
  c7 : X.heap[w.heap.size + 7]? = some (.cells #[.int .i64 0] 3 (0, 0))
  hD : w.heap.size + 8 ≤ D ∧ D < l
theorem JS.map {w : World} {D l : Nat} {r r' : Loop} {k : Int} {X Y : World} (h : JS w D l r k X) (hb : Below w.heap.size X Y) (hl : Y.heap[l]? = some (.loop r')) (hk : ∀ i o, (i = D ∨ i < w.heap.size + 8) → i ≠ w.heap.size + 3 → X.heap[i]? = some o → Y.heap[i]? = some o) : JS w D l r' k Y :=
  ⟨h.b.trans hb, hl, hk _ _ (by simp) (by have := h.hD; omega) h.d, hk _ _ (by omega) (by omega) h.c0, hk _ _ (by omega) (by omega) h.c1, hk _ _ (by omega) (by omega) h.c2, hk _ _ (by omega) (by omega) h.c4, let ⟨u, hu⟩ := h.c5; ⟨u, hk _ _ (by omega) (by omega) hu⟩, hk _ _ (by omega) (by omega) h.c6, hk _ _ (by omega) (by omega) h.c7, h.hD⟩
theorem JS.put {w : World} {D l : Nat} {r : Loop} {k : Int} {X : World} (h : JS w D l r k X) (r' : Loop) : JS w D l r' k (X.putObj l (.loop r')) :=
  h.map (below_put X (by have := h.hD; omega) _) (World.putObj_heap_same (blk_lt h.lp)) (fun i o hi _ ho => (World.putObj_heap_other (by have := h.hD; omega)).trans ho)
theorem JS.below {w : World} {D l : Nat} {r : Loop} {k : Int} {X Y : World} (h : JS w D l r k X) (hb : Below X.heap.size X Y) : JS w D l r k Y :=
  h.map (below_cut hb h.b.size) (blk_below h.lp hb) (fun _ _ _ _ ho => blk_below ho hb)
theorem JS.at {w : World} {D l : Nat} {r : Loop} {k : Int} {X : World} (h : JS w D l r k X) (k' : Int) : JS w D l r k' (X.setCell ⟨w.heap.size + 4, 0, none⟩ (.int .i64 k')) := by
  have far : ∀ i o, i ≠ w.heap.size + 4 → X.heap[i]? = some o → (X.setCell ⟨w.heap.size + 4, 0, none⟩ (.int .i64 k')).heap[i]? = some o := fun i o hi ho => (Below.heap_setCell X ⟨w.heap.size + 4, 0, none⟩ _ i hi).trans ho
  have hD := h.hD
  exact ⟨below_set_cell h.b (by omega) _ _, far _ _ (by omega) h.lp, far _ _ (by omega) h.d, far _ _ (by omega) h.c0, far _ _ (by omega) h.c1, far _ _ (by omega) h.c2, blk_put h.c4 0 _ rfl, let ⟨u, hu⟩ := h.c5; ⟨u, far _ _ (by omega) hu⟩, far _ _ (by omega) h.c6, far _ _ (by omega) h.c7, hD⟩
theorem JS.taken {w : World} {D l : Nat} {r : Loop} {k : Int} {X Y : World} (h : JS w D l r k X) (hb : Below (w.heap.size + 3) X Y) (ho : Other X Y) : JS w D l r k Y := by
  have hx : w.heap.size + 3 ≤ X.heap.size := by have := blk_lt h.c7; omega
  refine ⟨h.b.trans ⟨hb.os, hb.tape, hb.output, hb.size, fun k hk => hb.block k (by omega)⟩, ho _ _ h.lp (fun _ _ e => by cases e), ho _ _ h.d (fun _ _ e => by cases e), (hb.block _ (by omega)).trans h.c0, (hb.block _ (by omega)).trans h.c1, (hb.block _ (by omega)).trans h.c2, ho _ _ h.c4 (fun _ _ e => ?_), let ⟨u, hu⟩ := h.c5; ⟨u, ho _ _ hu (fun _ _ e => by injection e with _ e; subst e; decide)⟩, ho _ _ h.c6 (fun _ _ e => ?_), ho _ _ h.c7 (fun _ _ e => ?_), h.hD⟩
  all_goals (injection e with _ e; subst e; decide)
/-- What a return out of the loop leaves. -/
structure JX (w : World) (D l : Nat) (r : Loop) (k f : Int) (X : World) : Prop where
  b : Below w.heap.size w X
  lp : X.heap[l]? = some (.loop r)
  d : X.heap[D]? = some (.deferred (some []))
  c0 : X.heap[w.heap.size]? = some (.cells #[.slice none 0 0, .slice none 0 0] 25 (0, 0))
  c1 : X.heap[w.heap.size + 1]? = some (.cells #[.int .i64 k] 3 (0, 0))
  c2 : X.heap[w.heap.size + 2]? = some (.cells #[.int .i64 f] 28 (0, 0))
  hD : w.heap.size + 8 ≤ D ∧ D < l
theorem readsP_nil (w : World) : ReadsP w (.slice none 0 0) (.slice none 0 0) zeroP := by
  obtain ⟨A, c, h, _, hC⟩ := Kd.R_reads (Kd.R_nil kOp 38 w 0 (fun _ => True))
  obtain ⟨B, d, h', _, hD⟩ := Kd.R_reads (Kd.R_nil kCalls 22 w 0 (fun _ => True))
  exact ⟨A, c, B, d, h, h', hC, hD⟩
theorem results_script (tmps : Array Value) (W : World) (n : Nat) {a b : Value} {k f : Int} (h0 : W.heap[n]? = some (.cells #[a, b] 25 (0, 0))) (h1 : W.heap[n + 1]? = some (.cells #[.int .i64 k] 3 (0, 0))) (h2 : W.heap[n + 2]? = some (.cells #[.int .i64 f] 28 (0, 0)))
    (t0 : tmps[2]?.getD undef = .pointer (some ⟨n, 0, none⟩)) (t1 : tmps[3]?.getD undef = .pointer (some ⟨n + 1, 0, none⟩)) (t2 : tmps[4]?.getD undef = .pointer (some ⟨n + 2, 0, none⟩)) :
    (results Tryz.f8 tmps).run Tryz.prog W = .ok (.tuple #[.agg #[a, b], .int .i64 k, .int .i64 f]) W := by
  have z1 := blk_cell h1 0
  have z2 := blk_cell h2 0
  have y0 := blk_cell h0 0
  have y1 := blk_cell h0 1
  unfold results
  rw [show Tryz.f8.results = [ResultVar.cell 2 25, .cell 3 3, .cell 4 28].toArray from by kernel_rfl, List.mapM_toArray]
  simp [List.mapM_cons, t0, t1, t2, asAddr, go_sem, y0, y1, z1, z2]

set_option maxRecDepth 100000 in
set_option maxHeartbeats 3200000 in
theorem sparse_big (s : ByteArray) (w : World) (hO : LayO w) (hL : w.ShapedOpen Tryz.prog) (hs : s.size ≤ 1000000) :
    Calls Tryz.prog 8 #[.string s] w fun e w' => ∃ vm vc, e = .returned (.tuple #[.agg #[vm, vc], .int .i64 (scriptW s).2.1, .int .i64 (scriptW s).2.2]) ∧ ReadsP w' vm vc (scriptW s).1 ∧ Below w.heap.size w w' := by
  refine (callsIn_wide (n := 0)).1 (callsIn_of_wp_marks Tryz.func8 rfl trivial (wpIn_mono (Q := noPanic _) ?_ noPanic_le) rfl)
  simp only [Tryz.ntmps8, List.size_toArray, List.length_cons, List.length_nil, Nat.reduceAdd, Nat.reduceSub, Array.replicate_succ, Array.replicate_zero, List.push_toArray, List.append_toArray, List.nil_append, List.cons_append]
  gi_wp2
  refine ⟨trivial, rfl, (callsIn_wide.2 (trimSuffix_any s _ _ (by omega))).mono ?_⟩
  rintro _ _ ⟨rfl, rfl⟩
  gi_wp2
  refine ⟨trivial, rfl, (callsIn_wide.2 (splitSeq_any _ _)).mono ?_⟩
  rintro _ _ ⟨rfl, rfl⟩
  gi_wp2
  have htl := trim_le s.data.toList
  have hsz : s.data.toList.length = s.size := rfl
  have hrun : scriptW s = runW (linesS (Lib.trimSuffix s.data.toList [10])) 0 zeroP := rfl
  rw [show (⟨(Lib.trimSuffix s.data.toList (⟨#[10]⟩ : ByteArray).data.toList).toArray⟩ : ByteArray) = ofL (Lib.trimSuffix s.data.toList [10]) from rfl]
  generalize Lib.trimSuffix s.data.toList [10] = T at *
  have HR := hide_ hrun
  have HS := hide_ hsz
  clear hrun
  obtain ⟨w8, hw8⟩ : ∃ w8, ((((((((w.alloc (.cells #[.slice none 0 0, .slice none 0 0] 25)).alloc (.cells #[.int .i64 0] 3)).alloc (.cells #[.int .i64 0] 28)).alloc (.cells #[.slice none 0 0, .slice none 0 0] 25)).alloc (.cells #[.int .i64 0] 3)).alloc (.cells #[.string (ofL T)] 9)).alloc (.cells #[.string ⟨#[10]⟩] 9)).alloc (.cells #[.int .i64 0] 3)) = w8 := ⟨_, rfl⟩
  have hs8 : w8.heap.size = w.heap.size + 8 := by rw [← hw8]; simp
  have hB8 : Below w.heap.size w w8 := by rw [← hw8]; exact below_alloc (below_alloc (below_alloc (below_alloc (below_alloc (below_alloc (below_alloc (below_alloc (Below.refl _ _) _) _) _) _) _) _) _) _
  have q0 : w8.heap[w.heap.size]? = some (.cells #[.slice none 0 0, .slice none 0 0] 25 (0, 0)) := by rw [← hw8]; exact alloc_at (alloc_at (alloc_at (alloc_at (alloc_at (alloc_at (alloc_at (alloc_new' (by simp)) _) _) _) _) _) _) _
  have q1 : w8.heap[w.heap.size + 1]? = some (.cells #[.int .i64 0] 3 (0, 0)) := by rw [← hw8]; exact alloc_at (alloc_at (alloc_at (alloc_at (alloc_at (alloc_at (alloc_new' (by simp)) _) _) _) _) _) _
  have q2 : w8.heap[w.heap.size + 2]? = some (.cells #[.int .i64 0] 28 (0, 0)) := by rw [← hw8]; exact alloc_at (alloc_at (alloc_at (alloc_at (alloc_at (alloc_new' (by simp)) _) _) _) _) _
  have q3 : w8.heap[w.heap.size + 3]? = some (.cells #[.slice none 0 0, .slice none 0 0] 25 (0, 0)) := by rw [← hw8]; exact alloc_at (alloc_at (alloc_at (alloc_at (alloc_new' (by simp)) _) _) _) _
  have q4 : w8.heap[w.heap.size + 4]? = some (.cells #[.int .i64 0] 3 (0, 0)) := by rw [← hw8]; exact alloc_at (alloc_at (alloc_at (alloc_new' (by simp)) _) _) _
  have q5 : w8.heap[w.heap.size + 5]? = some (.cells #[.string (ofL T)] 9 (0, 0)) := by rw [← hw8]; exact alloc_at (alloc_at (alloc_new' (by simp)) _) _
  have q6 : w8.heap[w.heap.size + 6]? = some (.cells #[.string ⟨#[10]⟩] 9 (0, 0)) := by rw [← hw8]; exact alloc_at (alloc_new' (by simp)) _
  have q7 : w8.heap[w.heap.size + 7]? = some (.cells #[.int .i64 0] 3 (0, 0)) := by rw [← hw8]; exact alloc_new' (by simp)
  simp only [Nat.add_assoc, Nat.reduceAdd]
  rw [hw8]
  clear hw8
  refine rangeFunc_gen rfl (fun _ => trivial) rfl (gf := 53) (lb := #[.pointer (some ⟨w.heap.size + 6, 0, none⟩), .pointer (some ⟨w.heap.size + 5, 0, none⟩), .pointer (some ⟨w.heap.size + 7, 0, none⟩)]) rfl (enters_of Tryz.func53 (by kernel_rfl) rfl) ?_
  intro fn
  generalize hRR : recJ fn _ _ _ _ w8.heap.size = rc
  obtain ⟨D, hD⟩ : ∃ D, w8.heap.size = D := ⟨_, rfl⟩
  obtain ⟨l, hl2⟩ : ∃ l, D + 1 = l := ⟨_, rfl⟩
  rw [hD, hl2]
  have hTl : T.length < 4294967281 := by omega
  refine (callsIn_wide.2 (lines_in l (w.heap.size + 5) (w.heap.size + 6) (w.heap.size + 7) T hTl (fun ts X => ∃ p, stW ts zeroP = some p ∧ OwnsP X (w.heap.size + 3) (w.heap.size + 3) p ∧ JS w D l (rc .ready none) ((ts).length : Nat) X) (fun ts X => ∃ pre t q, ts = pre ++ [t] ∧ stW pre zeroP = some q ∧ (lineW q t).2 ≠ 0 ∧ JX w D l (rc .done (some .ret)) ((pre.length + 1 : Nat) : Int) (lineW q t).2 X) ?_ ?_ ?_ _ ?_ ?_)).mono ?_
  · rintro ts X ⟨p, -, -, h⟩
    exact ⟨h.c6, h.c7⟩
  · rintro ts X v ⟨p, hst, hP, h⟩
    obtain ⟨u, h5⟩ := h.c5
    have far : ∀ i o, i ≠ w.heap.size + 5 → X.heap[i]? = some o → (X.setCell ⟨w.heap.size + 5, 0, none⟩ v).heap[i]? = some o := fun i o hi ho => (Below.heap_setCell X ⟨w.heap.size + 5, 0, none⟩ v i hi).trans ho
    exact ⟨p, hst, hP.keep (KeptP.set h5 (by decide) (by decide) (by decide) 0 v), below_set_cell h.b (by omega) _ _, far _ _ (by omega) h.lp, far _ _ (by omega) h.d, far _ _ (by omega) h.c0, far _ _ (by omega) h.c1, far _ _ (by omega) h.c2, far _ _ (by omega) h.c4, ⟨v, blk_put h5 0 v rfl⟩, far _ _ (by omega) h.c6, far _ _ (by omega) h.c7, h.hD⟩
  · rintro m ts t v X hpre ⟨p, hst, xP, xJ⟩ x5
    have xl := xJ.lp
    refine yield_rb ?_
    refine round_gen (fun _ => trivial) hRR xl rfl ?_
    clear hRR q0 q1 q2 q3 q4 q5 q6 q7
    have hlen : ts.length + 1 ≤ 1000001 := by
      have h1 := hpre.length_le
      have h2 := spn_count T
      have h3 := HS.out
      simp [linesS] at h1
      omega
    have htl' : t.size ≤ 1000000 := by
      have h1 : t ∈ linesS T := hpre.subset (by simp)
      obtain ⟨t', h2, rfl⟩ := List.mem_map.1 h1
      have h3 := spn_len T t' h2
      have h4 := HS.out
      rw [Lib.size_eq, data_ofL]
      omega
    gi_wp2
    refine ⟨xl, ?_⟩
    have r5 := (World.putObj_heap_other (o := .loop (rc .busy none)) (show w.heap.size + 5 ≠ l by omega)).trans x5
    have rJ := xJ.put (rc .busy none)
    have rP : OwnsP (X.putObj l (.loop (rc .busy none))) (w.heap.size + 3) (w.heap.size + 3) p := xP.keep (KeptP.put xl (fun _ _ _ h => by cases h) _)
    clear x5 xl xP xJ
    generalize X.putObj l (.loop (rc .busy none)) = X1 at *
    have r4 := rJ.c4
    have z4 := blk_cell r4 0
    have zf := blk_frozen r4 0
    gi_wp2
    have sJ := rJ.at ((ts.length : Int) + 1)
    have s5 := (Below.heap_setCell X1 ⟨w.heap.size + 4, 0, none⟩ (.int .i64 ((ts.length : Int) + 1)) (w.heap.size + 5) (show w.heap.size + 5 ≠ w.heap.size + 4 by omega)).trans r5
    have sP := rP.keep (KeptP.set r4 (by decide) (by decide) (by decide) 0 (.int .i64 ((ts.length : Int) + 1)))
    clear r4 r5 rJ rP z4 zf
    generalize X1.setCell ⟨w.heap.size + 4, 0, none⟩ (.int .i64 ((ts.length : Int) + 1)) = X2 at *
    refine ⟨trivial, fun h => absurd h (by simp [Fence.wide]), ((callsIn_wide.2 (split_any t X2 (shaped_below hL sJ.b) (by omega))).inRound l).mono ?_⟩
    rintro _ X3 ⟨A, c, rfl, hc, hC, hB3⟩
    have tJ := sJ.below hB3
    have t5 := blk_below s5 hB3
    have tP := sP.keep (KeptP.of_below hB3)
    have hl0 := words_length t
    have hl1 := (blk_lt t5)
    have hws : ∀ x ∈ words t, x.size ≤ 281474976710656 := fun x hx => by have := words_size hx; omega
    have hst2 := stW_count ts zeroP p hst
    have hz0 : countP zeroP = 0 := rfl
    have hz1 : zeroP.calls.length = 0 := rfl
    have hsn := stW_snoc t ts zeroP
    rw [hst, Option.bind_some] at hsn
    have hsay := says_any (words t) A c X3 hC (by omega)
    have htake := take_any (w.heap.size + 3) (w.heap.size + 3) p (words t) A c X3 (hO.below tJ.b) hC hc (by omega) hws tP (by omega) (by omega) (by omega)
    have hline : lineW p t = if saysW (words t) = true then takeW p (words t) else (p, 0) := rfl
    clear s5 sP sJ hB3 hz0 hz1 hws
    have hend : ∀ p' Y, stW (ts ++ [t]) zeroP = some p' → OwnsP Y (w.heap.size + 3) (w.heap.size + 3) p' → JS w D l (rc .busy none) ((ts.length : Int) + 1) Y → ∃ p, stW (ts ++ [t]) zeroP = some p ∧ OwnsP (Y.putObj l (.loop (rc .ready none))) (w.heap.size + 3) (w.heap.size + 3) p ∧ JS w D l (rc .ready none) ((ts.length : Int) + 1) (Y.putObj l (.loop (rc .ready none))) := fun p' Y h1 h2 h3 =>
      ⟨p', h1, h2.keep (KeptP.put h3.lp (fun _ _ _ h => by cases h) _), h3.put _⟩
    cases hsw : saysW (words t) with
    | false =>
      rw [hsw] at hsay hline
      have hline' : lineW p t = (p, 0) := hline
      rw [hline', if_pos rfl] at hsn
      have HN := hide_ hsn
      clear hsn hline hline' hsw htake hst2 hst
      gi_wp2
      refine ⟨trivial, fun h => absurd h (by simp [Fence.wide]), ((callsIn_wide.2 hsay).inRound l).mono ?_⟩
      rintro _ _ ⟨rfl, rfl⟩
      gi_wp2
      exact ⟨tJ.lp, RB.yes (hend _ _ HN.out tP tJ) ((World.putObj_heap_other (show w.heap.size + 5 ≠ l by omega)).trans t5)⟩
    | true =>
      rw [hsw, if_pos rfl] at hline
      rw [hsw] at hsay
      rw [hline] at hsn
      by_cases he : (takeW p (words t)).2 = 0
      · rw [if_pos he] at hsn
        have HN := hide_ hsn
        have HE := hide_ he
        clear hsn hline hsw hst2 hst
        gi_wp2
        refine ⟨trivial, fun h => absurd h (by simp [Fence.wide]), ((callsIn_wide.2 hsay).inRound l).mono ?_⟩
        rintro _ _ ⟨rfl, rfl⟩
        gi_wp2
        refine ⟨trivial, fun h => absurd h (by simp [Fence.wide]), ((callsIn_wide.2 htake).inRound l).mono ?_⟩
        rintro _ X4 ⟨rfl, uP, uB, uO⟩
        have uJ := tJ.taken uB uO
        have u5 := uO _ _ t5 (fun _ _ e => by injection e with _ e; subst e; decide)
        rw [HE.out]
        gi_wp2
        exact ⟨uJ.lp, RB.yes (hend _ _ HN.out uP uJ) ((World.putObj_heap_other (show w.heap.size + 5 ≠ l by omega)).trans u5)⟩
      · have HL2 := hide_ hline
        have HST := hide_ hst
        have hne : ((takeW p (words t)).2 != 0) = true := by simp [he]
        have HE := hide_ he
        clear hsn hline hsw hst2 hst he
        generalize hte : (takeW p (words t)).2 = te at *
        gi_wp2
        refine ⟨trivial, fun h => absurd h (by simp [Fence.wide]), ((callsIn_wide.2 hsay).inRound l).mono ?_⟩
        rintro _ _ ⟨rfl, rfl⟩
        gi_wp2
        refine ⟨trivial, fun h => absurd h (by simp [Fence.wide]), ((callsIn_wide.2 htake).inRound l).mono ?_⟩
        rintro _ X4 ⟨rfl, uP, uB, uO⟩
        have uJ := tJ.taken uB uO
        rw [hte]
        gi_wp2
        have hJ0 := uJ.c0
        have hJ4 := uJ.c4
        have hne01 : w.heap.size ≠ w.heap.size + 4 := by omega
        refine wpIn_region_R (S := fun Y => Y.heap[w.heap.size + 4]? = some (.cells #[.int .i64 ((ts.length : Int) + 1)] 3 (0, 0)) ∧ (∃ a b, Y.heap[w.heap.size]? = some (.cells #[a, b] 25 (0, 0))) ∧ (∃ a, Y.heap[w.heap.size + 1]? = some (.cells #[a] 3 (0, 0))) ∧ ∃ a, Y.heap[w.heap.size + 2]? = some (.cells #[a] 28 (0, 0))) (by kernel_rfl) ⟨uJ.c4, ⟨_, _, uJ.c0⟩, ⟨_, uJ.c1⟩, ⟨_, uJ.c2⟩⟩ (fun hSx => ?_)
        refine wpAnyR_take (i := 0) (v := ?v0) (fun _ => trivial) (by kernel_rfl) rfl (by kernel_rfl) (by kernel_rfl) (by kernel_rfl) (fun _ _ _ h => h) (Or.inl ⟨by rfl, ?hy0⟩) (by assumption) ?rest0
        case hy0 =>
          intro w' hSw
          dsimp only [List.getElem_toArray, List.getElem_cons_zero, List.getElem_cons_succ]
          go_simp
          try (with_reducible rfl)
        try simp only [Act.put, List.getElem_toArray, List.getElem_cons_zero, List.getElem_cons_succ, List.setIfInBounds_toArray, List.set_cons_zero, List.set_cons_succ]
        refine wpAnyR_take (i := 1) (v := ?v1) (fun _ => trivial) (by kernel_rfl) rfl (by kernel_rfl) (by kernel_rfl) (by kernel_rfl) (fun _ _ _ h => h) (Or.inl ⟨by rfl, ?hy1⟩) (by assumption) ?rest1
        case hy1 =>
          intro w' hSw
          have z0 := blk_cell hSw.1 0
          dsimp only [List.getElem_toArray, List.getElem_cons_zero, List.getElem_cons_succ]
          go_simp
          try (with_reducible rfl)
        try simp only [Act.put, List.getElem_toArray, List.getElem_cons_zero, List.getElem_cons_succ, List.setIfInBounds_toArray, List.set_cons_zero, List.set_cons_succ]
        refine wpAnyR_take (i := 2) (v := ?v2) (fun _ => trivial) (by kernel_rfl) rfl (by kernel_rfl) (by kernel_rfl) (by kernel_rfl) (fun _ _ _ h => h) (Or.inl ⟨by rfl, ?hy2⟩) (by assumption) ?rest2
        case hy2 =>
          intro w' hSw
          dsimp only [List.getElem_toArray, List.getElem_cons_zero, List.getElem_cons_succ]
          go_simp
          try (with_reducible rfl)
        try simp only [Act.put, List.getElem_toArray, List.getElem_cons_zero, List.getElem_cons_succ, List.setIfInBounds_toArray, List.set_cons_zero, List.set_cons_succ]
        generalize hX5 : X4.drew = X5 at hSx ⊢
        have d0 : X5.heap[w.heap.size]? = some (.cells #[.slice none 0 0, .slice none 0 0] 25 (0, 0)) := by rw [← hX5]; exact uJ.c0
        have d1 : X5.heap[w.heap.size + 1]? = some (.cells #[.int .i64 0] 3 (0, 0)) := by rw [← hX5]; exact uJ.c1
        have d2 : X5.heap[w.heap.size + 2]? = some (.cells #[.int .i64 0] 28 (0, 0)) := by rw [← hX5]; exact uJ.c2
        have d4 : X5.heap[w.heap.size + 4]? = some (.cells #[.int .i64 ((ts.length : Int) + 1)] 3 (0, 0)) := by rw [← hX5]; exact uJ.c4
        have dl : X5.heap[l]? = some (.loop (rc .busy none)) := by rw [← hX5]; exact uJ.lp
        have dD : X5.heap[D]? = some (.deferred (some [])) := by rw [← hX5]; exact uJ.d
        have dB : Below w.heap.size w X5 := by rw [← hX5]; exact below_drew uJ.b
        clear hX5 uB uO uP hJ0 hJ4
        have far : ∀ (Y : World) (g j : Nat) (u : Value) (i : Nat) (o : Obj), i ≠ g → Y.heap[i]? = some o → (Y.setCell ⟨g, j, none⟩ u).heap[i]? = some o := fun Y g j u i o hi ho => (Below.heap_setCell Y ⟨g, j, none⟩ u i hi).trans ho
        have e0 : ((X5.setCell ⟨w.heap.size, 0, none⟩ (.slice none 0 0)).setCell ⟨w.heap.size, 1, none⟩ (.slice none 0 0)).heap[w.heap.size]? = some (.cells #[.slice none 0 0, .slice none 0 0] 25 (0, 0)) := blk_put (blk_put d0 0 (.slice none 0 0) rfl) 1 (.slice none 0 0) rfl
        have e1 := far _ w.heap.size 1 (.slice none 0 0) _ _ (by omega) (far _ w.heap.size 0 (.slice none 0 0) _ _ (by omega) d1)
        have e2 := far _ w.heap.size 1 (.slice none 0 0) _ _ (by omega) (far _ w.heap.size 0 (.slice none 0 0) _ _ (by omega) d2)
        have e4 := far _ w.heap.size 1 (.slice none 0 0) _ _ (by omega) (far _ w.heap.size 0 (.slice none 0 0) _ _ (by omega) d4)
        have el := far _ w.heap.size 1 (.slice none 0 0) _ _ (by omega) (far _ w.heap.size 0 (.slice none 0 0) _ _ (by omega) dl)
        have eD := far _ w.heap.size 1 (.slice none 0 0) _ _ (by omega) (far _ w.heap.size 0 (.slice none 0 0) _ _ (by omega) dD)
        have eB := below_set_cell (below_set_cell dB (Nat.le_refl _) 0 (.slice none 0 0)) (Nat.le_refl _) 1 (.slice none 0 0)
        refine wpAnyR_only (i := 3) (by kernel_rfl) rfl (by rfl) (fun K hK => ?_)
        refine opIn_skip (w' := (X5.setCell ⟨w.heap.size, 0, none⟩ (.slice none 0 0)).setCell ⟨w.heap.size, 1, none⟩ (.slice none 0 0)) (fun _ => trivial) (by intro c h; cases h) ?hrun3 ?_
        case hrun3 =>
          have z0 := blk_cell d0 0
          have z1 := blk_cell d0 1
          have zf0 := blk_frozen d0 0
          have zf1 := blk_frozen d0 1
          dsimp only [List.getElem_toArray, List.getElem_cons_zero, List.getElem_cons_succ]
          go_simp
        refine hK _ _ ⟨e4, ⟨_, _, e0⟩, ⟨_, e1⟩, ⟨_, e2⟩⟩ (fun hSx => ?_)
        clear hK d0 d1 d2 d4 dl dD dB
        try simp only [Act.put, List.getElem_toArray, List.getElem_cons_zero, List.getElem_cons_succ, List.setIfInBounds_toArray, List.set_cons_zero, List.set_cons_succ]
        generalize (X5.setCell ⟨w.heap.size, 0, none⟩ (.slice none 0 0)).setCell ⟨w.heap.size, 1, none⟩ (.slice none 0 0) = X6 at *
        refine wpAnyR_only (i := 4) (by kernel_rfl) rfl (by rfl) (fun K hK => ?_)
        refine opIn_skip (w' := X6.setCell ⟨w.heap.size + 1, 0, none⟩ (.int .i64 ((ts.length : Int) + 1))) (fun _ => trivial) (by intro c h; cases h) ?hrun4 ?_
        case hrun4 =>
          have z0 := blk_cell e1 0
          have zf0 := blk_frozen e1 0
          dsimp only [List.getElem_toArray, List.getElem_cons_zero, List.getElem_cons_succ]
          go_simp
        have f0 := far _ (w.heap.size + 1) 0 (.int .i64 ((ts.length : Int) + 1)) _ _ (by omega) e0
        have f1 := blk_put e1 0 (.int .i64 ((ts.length : Int) + 1)) (cs' := #[.int .i64 ((ts.length : Int) + 1)]) rfl
        have f2 := far _ (w.heap.size + 1) 0 (.int .i64 ((ts.length : Int) + 1)) _ _ (by omega) e2
        have f4 := far _ (w.heap.size + 1) 0 (.int .i64 ((ts.length : Int) + 1)) _ _ (by omega) e4
        have fl := far _ (w.heap.size + 1) 0 (.int .i64 ((ts.length : Int) + 1)) _ _ (by omega) el
        have fD := far _ (w.heap.size + 1) 0 (.int .i64 ((ts.length : Int) + 1)) _ _ (by omega) eD
        have fB := below_set_cell eB (show w.heap.size ≤ w.heap.size + 1 by omega) 0 (.int .i64 ((ts.length : Int) + 1))
        refine hK _ _ ⟨f4, ⟨_, _, f0⟩, ⟨_, f1⟩, ⟨_, f2⟩⟩ (fun hSx => ?_)
        clear hK e0 e1 e2 e4 el eD eB
        try simp only [Act.put, List.getElem_toArray, List.getElem_cons_zero, List.getElem_cons_succ, List.setIfInBounds_toArray, List.set_cons_zero, List.set_cons_succ]
        generalize X6.setCell ⟨w.heap.size + 1, 0, none⟩ (.int .i64 ((ts.length : Int) + 1)) = X7 at *
        refine wpAnyR_only (i := 5) (by kernel_rfl) rfl (by rfl) (fun K hK => ?_)
        refine opIn_skip (w' := X7.setCell ⟨w.heap.size + 2, 0, none⟩ (.int .i64 te)) (fun _ => trivial) (by intro c h; cases h) ?hrun5 ?_
        case hrun5 =>
          have z0 := blk_cell f2 0
          have zf0 := blk_frozen f2 0
          dsimp only [List.getElem_toArray, List.getElem_cons_zero, List.getElem_cons_succ]
          go_simp
        have g0 := far _ (w.heap.size + 2) 0 (.int .i64 te) _ _ (by omega) f0
        have g1 := far _ (w.heap.size + 2) 0 (.int .i64 te) _ _ (by omega) f1
        have g2 := blk_put f2 0 (.int .i64 te) (cs' := #[.int .i64 te]) rfl
        have g4 := far _ (w.heap.size + 2) 0 (.int .i64 te) _ _ (by omega) f4
        have gl := far _ (w.heap.size + 2) 0 (.int .i64 te) _ _ (by omega) fl
        have gD := far _ (w.heap.size + 2) 0 (.int .i64 te) _ _ (by omega) fD
        have gB := below_set_cell fB (show w.heap.size ≤ w.heap.size + 2 by omega) 0 (.int .i64 te)
        refine hK _ _ ⟨g4, ⟨_, _, g0⟩, ⟨_, g1⟩, ⟨_, g2⟩⟩ (fun hSx => ?_)
        clear hK f0 f1 f2 f4 fl fD fB
        try simp only [Act.put, List.getElem_toArray, List.getElem_cons_zero, List.getElem_cons_succ, List.setIfInBounds_toArray, List.set_cons_zero, List.set_cons_succ]
        generalize X7.setCell ⟨w.heap.size + 2, 0, none⟩ (.int .i64 te) = X8 at *
        refine wpAnyR_done (by kernel_rfl) ?_ _
        gi_wp2
        have k0 := (World.putObj_heap_other (o := .loop (rc .done (some .ret))) (show w.heap.size ≠ l by omega)).trans g0
        have k1 := (World.putObj_heap_other (o := .loop (rc .done (some .ret))) (show w.heap.size + 1 ≠ l by omega)).trans g1
        have k2 := (World.putObj_heap_other (o := .loop (rc .done (some .ret))) (show w.heap.size + 2 ≠ l by omega)).trans g2
        have kD := (World.putObj_heap_other (o := .loop (rc .done (some .ret))) (show D ≠ l by omega)).trans gD
        exact RB.no ⟨ts, t, ⟨rfl, rfl⟩, p, HST.out, by rw [HL2.out, hte]; exact HE.out, gB.trans (below_put X8 (by omega) _), World.putObj_heap_same (blk_lt gl), kD, k0, k1, by rw [HL2.out, hte]; exact k2, by omega⟩
  · have hal : ∀ (i : Nat) (o : Obj), w8.heap[i]? = some o → ((w8.alloc (.deferred (some []))).alloc (.loop (rc .ready none))).heap[i]? = some o := fun i o h => alloc_at (alloc_at h _) _
    exact ⟨zeroP, rfl, OwnsP.nil (hal _ _ q3) (Nat.le_refl _), below_alloc (below_alloc hB8 _) _, alloc_new' (by simp; omega), alloc_at (alloc_new' (by omega)) _, hal _ _ q0, hal _ _ q1, hal _ _ q2, hal _ _ q4, ⟨_, hal _ _ q5⟩, hal _ _ q6, hal _ _ q7, by omega⟩
  · exact alloc_at (alloc_at q5 _) _
  · clear q0 q1 q2 q3 q4 q5 q6 q7
    rintro e Y ⟨hv, ⟨p, hst, hP, h⟩ | ⟨pre, hpre, pr, t, q, rfl, hst, hne, h⟩⟩
    · refine ⟨hv, .inl ⟨h.lp, ?_⟩⟩
      have hJ := h.put (rc .exhausted none)
      have hP1 := hP.keep (KeptP.put h.lp (fun _ _ _ h => by cases h) (.loop (rc .exhausted none)))
      have HU := hide_ (HR.out.trans (runW_all hst))
      clear hst h hP HR hRR
      generalize Y.putObj l (.loop (rc .exhausted none)) = Y1 at *
      obtain ⟨vm, vc, hb3, A, c, B, d, rfl, rfl, hCm, hCc⟩ := hP1.reads
      have z0 := blk_cell hb3 0
      have z1 := blk_cell hb3 1
      have x0 := hJ.c0
      have x1 := hJ.c1
      have x2 := hJ.c2
      have xD := hJ.d
      have xB := hJ.b
      have hD := hJ.hD
      have y0 := blk_cell x0 0
      have y1 := blk_cell x0 1
      have y2 := blk_cell x1 0
      have y3 := blk_cell x2 0
      have f0 := blk_frozen x0 0
      have f1 := blk_frozen x0 1
      have f2 := blk_frozen x1 0
      have f3 := blk_frozen x2 0
      clear hJ
      gi_wp2
      have far : ∀ (Y : World) (g j : Nat) (u : Value) (i : Nat) (o : Obj), i ≠ g → Y.heap[i]? = some o → (Y.setCell ⟨g, j, none⟩ u).heap[i]? = some o := fun Y g j u i o hi ho => (Below.heap_setCell Y ⟨g, j, none⟩ u i hi).trans ho
      have k0 := blk_put (blk_put x0 0 (.slice A p.main.length c) (cs' := #[.slice A p.main.length c, .slice none 0 0]) rfl) 1 (.slice B p.calls.length d) (cs' := #[.slice A p.main.length c, .slice B p.calls.length d]) rfl
      have k1 := blk_put (far _ w.heap.size 1 (.slice B p.calls.length d) _ _ (by omega) (far _ w.heap.size 0 (.slice A p.main.length c) _ _ (by omega) x1)) 0 (.int .i64 0) (cs' := #[.int .i64 0]) rfl
      have k2 := blk_put (far _ (w.heap.size + 1) 0 (.int .i64 0) _ _ (by omega) (far _ w.heap.size 1 (.slice B p.calls.length d) _ _ (by omega) (far _ w.heap.size 0 (.slice A p.main.length c) _ _ (by omega) x2))) 0 (.int .i64 0) (cs' := #[.int .i64 0]) rfl
      have j0 := far _ (w.heap.size + 2) 0 (.int .i64 0) _ _ (by omega) (far _ (w.heap.size + 1) 0 (.int .i64 0) _ _ (by omega) k0)
      have j1 := far _ (w.heap.size + 2) 0 (.int .i64 0) _ _ (by omega) k1
      have jD := far _ (w.heap.size + 2) 0 (.int .i64 0) _ _ (by omega) (far _ (w.heap.size + 1) 0 (.int .i64 0) _ _ (by omega) (far _ w.heap.size 1 (.slice B p.calls.length d) _ _ (by omega) (far _ w.heap.size 0 (.slice A p.main.length c) _ _ (by omega) xD)))
      have jB := below_set_cell (below_set_cell (below_set_cell (below_set_cell xB (Nat.le_refl _) 0 (.slice A p.main.length c)) (Nat.le_refl _) 1 (.slice B p.calls.length d)) (show w.heap.size ≤ w.heap.size + 1 by omega) 0 (.int .i64 0)) (show w.heap.size ≤ w.heap.size + 2 by omega) 0 (.int .i64 0)
      have j3 := far _ (w.heap.size + 2) 0 (.int .i64 0) _ _ (by omega) (far _ (w.heap.size + 1) 0 (.int .i64 0) _ _ (by omega) (far _ w.heap.size 1 (.slice B p.calls.length d) _ _ (by omega) (far _ w.heap.size 0 (.slice A p.main.length c) _ _ (by omega) hb3)))
      have jP := hP1.keep (w' := (((Y1.setCell ⟨w.heap.size, 0, none⟩ (.slice A p.main.length c)).setCell ⟨w.heap.size, 1, none⟩ (.slice B p.calls.length d)).setCell ⟨w.heap.size + 1, 0, none⟩ (.int .i64 0)).setCell ⟨w.heap.size + 2, 0, none⟩ (.int .i64 0))
        (fun k cs t _ hk hc => far _ (w.heap.size + 2) 0 (.int .i64 0) _ _ (by omega) (far _ (w.heap.size + 1) 0 (.int .i64 0) _ _ (by omega) (far _ w.heap.size 1 (.slice B p.calls.length d) _ _ (by omega) (far _ w.heap.size 0 (.slice A p.main.length c) _ _ (by omega) hc))))
      generalize (((Y1.setCell ⟨w.heap.size, 0, none⟩ (.slice A p.main.length c)).setCell ⟨w.heap.size, 1, none⟩ (.slice B p.calls.length d)).setCell ⟨w.heap.size + 1, 0, none⟩ (.int .i64 0)).setCell ⟨w.heap.size + 2, 0, none⟩ (.int .i64 0) = Y2 at *
      refine ⟨by simp, .inl ⟨_, _, rfl, run_takeDeferred jD, ?_⟩⟩
      rw [HU.out]
      have dn : ∀ i o, i ≠ D → Y2.heap[i]? = some o → (Y2.putObj D (.deferred none)).heap[i]? = some o := fun i o hi ho => (World.putObj_heap_other hi).trans ho
      obtain ⟨vm', vc', hb', hrd⟩ := (jP.keep (KeptP.put jD (fun _ _ _ h => by cases h) (.deferred none))).reads
      have hvv := hb'.symm.trans (dn _ _ (by omega) j3)
      simp at hvv
      obtain ⟨rfl, rfl⟩ := hvv
      exact ⟨_, results_script _ _ _ (dn _ _ (by omega) j0) (dn _ _ (by omega) j1) (dn _ _ (by omega) k2) rfl rfl rfl, _, _, rfl, hrd, jB.trans (below_put Y2 (by omega) _)⟩
    · refine ⟨hv, .inr ⟨h.lp, ?_⟩⟩
      have HU := hide_ (HR.out.trans (runW_err hst hne hpre))
      have hl := h.hD
      have x0 := (World.putObj_heap_other (o := .loop (rc .exhausted (some .ret))) (show w.heap.size ≠ l by omega)).trans h.c0
      have x1 := (World.putObj_heap_other (o := .loop (rc .exhausted (some .ret))) (show w.heap.size + 1 ≠ l by omega)).trans h.c1
      have x2 := (World.putObj_heap_other (o := .loop (rc .exhausted (some .ret))) (show w.heap.size + 2 ≠ l by omega)).trans h.c2
      have xD := (World.putObj_heap_other (o := .loop (rc .exhausted (some .ret))) (show D ≠ l by omega)).trans h.d
      have xB := h.b.trans (below_put Y (show w.heap.size ≤ l by omega) (.loop (rc .exhausted (some .ret))))
      clear hst h hne hpre HR hRR
      generalize Y.putObj l (.loop (rc .exhausted (some .ret))) = Y1 at *
      gi_wp2
      refine ⟨by simp, .inl ⟨_, _, rfl, run_takeDeferred xD, ?_⟩⟩
      rw [HU.out]
      have dn : ∀ i o, i ≠ D → Y1.heap[i]? = some o → (Y1.putObj D (.deferred none)).heap[i]? = some o := fun i o hi ho => (World.putObj_heap_other hi).trans ho
      exact ⟨_, results_script _ _ _ (dn _ _ (by omega) x0) (dn _ _ (by omega) x1) (dn _ _ (by omega) x2) rfl rfl rfl, _, _, rfl, readsP_nil _, xB.trans (below_put Y1 (by omega) _)⟩
theorem sparse_any (s : ByteArray) (w : World) (hO : LayO w) (hL : w.ShapedOpen Tryz.prog) (hs : s.size ≤ 10000) :
    Calls Tryz.prog 8 #[.string s] w fun e w' => ∃ vm vc, e = .returned (.tuple #[.agg #[vm, vc], .int .i64 (scriptW s).2.1, .int .i64 (scriptW s).2.2]) ∧ ReadsP w' vm vc (scriptW s).1 ∧ Below w.heap.size w w' :=
  sparse_big s w hO hL (by omega)
end Go.Proofs.YtmjedjhgomlfiaaGreatDoor
