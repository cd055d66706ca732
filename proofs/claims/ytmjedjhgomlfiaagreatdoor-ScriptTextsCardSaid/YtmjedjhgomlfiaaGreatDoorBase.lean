/- Laws of the walk on whole structs, over any program: a struct is loaded from its cells, or stored into a block that was just made, without being written out. -/
import Derived.WalkKit
import Derived.Deep.WholeRow
import Derived.Deep.QuietTactic
import Derived.BigQuiet
import Derived.Laws.CopyOwn
import Derived.Test.YtmjedjhgomlfiaaGreatDoorWWords
namespace Go.Proofs.YtmjedjhgomlfiaaGreatDoor
open Go.RowKit Go.Proofs.YtmjedjhgomlfiaaGreatDoorW.PrintWords


section
variable {P : Program}
theorem run_loadVar_list (w : World) (ad : Addr) (ty : TypeId) (cs : List Value) (d : TypeDesc) (hc : ∀ j v, cs[j]? = some v → w.cell? (ad.add j) = some v)
    (hu : P.underlying ty = some d) (hd : (match d with | .struct _ | .array _ _ => true | _ => false) = true) (hi : (P.info? ty).map (·.size) = some cs.length) :
    (loadVar ty ad).run P w = .ok (.agg cs.toArray) w := by
  have hl : (loadCells ad cs.length).run P w = .ok cs.toArray w := run_loadCells_list (P := P) w ad cs hc
  cases hq : P.info? ty with
  | none => simp [hq] at hi
  | some i =>
    have hs : i.size = cs.length := by simpa [hq] using hi
    have hagg : (isAgg ty).run P w = .ok true w := by
      unfold isAgg
      rw [Sem.run_bind, run_underlying hu w]
      cases d <;> simp_all
    simp [loadVar, Sem.run_bind, hagg, sizeOf, typeInfo, hq, hs, hl]

/-- A whole struct or array is loaded. -/
theorem wpList_load_list {ops : Array Oper} {rest : List Oper} {o : Oper} {a : Act} {w : World} {Q : Exit → Act → World → Prop} (hgd : o.guard = none) (ty : TypeId) (x : Operand) (ho : o.op = .load ty x)
    (ad : Addr) (hx : a.eval x = .pointer (some ad)) (cs : List Value) (d : TypeDesc) (hc : ∀ j v, cs[j]? = some v → w.cell? (ad.add j) = some v)
    (hu : P.underlying ty = some d) (hd : (match d with | .struct _ | .array _ _ => true | _ => false) = true) (hi : (P.info? ty).map (·.size) = some cs.length)
    (h : wpList P ops Q rest (a.put o.dst (.agg cs.toArray)) w) : wpList P ops Q (o :: rest) a w :=
  wpList_plain hgd fun _ hK => by
    unfold Oper.wp execOp
    simp only [ho, hx, Instr.loadAt, Instr.sureAddr, Sem.run_bind, Sem.run_pure, Result.andThen_ok, run_loadVar_list w ad ty cs d hc hu hd hi]
    exact hK _ _ h

/-- A whole struct or array is stored into the block that was made last. -/
theorem wpList_store_new {ops : Array Oper} {rest : List Oper} {o : Oper} {a : Act} {W : World} {Q : Exit → Act → World → Prop} (hgd : o.guard = none) (ty : TypeId) (x y : Operand) (ho : o.op = .store ty x y)
    (zs E : Array Value) (hx : a.eval x = .pointer (some ⟨W.heap.size, 0, none⟩)) (hy : a.eval y = .agg E) (hi : (P.info? ty).map (·.size) = some E.size) (hz : zs.size = E.size) (h1 : E.all (·.oneCell') = true)
    (h : ∀ w1, w1.heap[W.heap.size]? = some (.cells E ty (0, 0)) → Below W.heap.size W w1 → w1.heap.size = W.heap.size + 1 → wpList P ops Q rest (a.put o.dst undef) w1) :
    wpList P ops Q (o :: rest) a (W.alloc (.cells zs ty)) :=
  wpList_plain hgd fun K hK => by
    have hst := run_storeAt_new (P := P) W ty zs E hi hz h1
    unfold Oper.wp execOp
    simp only [ho, hx, hy, Sem.run_bind, Sem.run_pure, Result.andThen_ok, hst]
    exact hK _ _ (h _ (blk_new W _) (below_alloc (Below.refl _ _) _) (by simp))

/-- A whole struct or array is stored into a block of its own. -/
theorem wpList_store_row {ops : Array Oper} {rest : List Oper} {o : Oper} {a : Act} {W : World} {Q : Exit → Act → World → Prop} (hgd : o.guard = none) (ty : TypeId) (x y : Operand) (ho : o.op = .store ty x y)
    (g : Nat) (t : TypeId) (cur E : Array Value) (hx : a.eval x = .pointer (some ⟨g, 0, none⟩)) (hy : a.eval y = .agg E) (hg : W.heap[g]? = some (.cells cur t (0, 0))) (hi : (P.info? ty).map (·.size) = some E.size) (hz : cur.size = E.size) (h1 : E.all (·.oneCell') = true)
    (h : ∀ w1, w1.heap[g]? = some (.cells E t (0, 0)) → (∀ k, k ≠ g → w1.heap[k]? = W.heap[k]?) → Below g W w1 → w1.heap.size = W.heap.size → wpList P ops Q rest (a.put o.dst undef) w1) :
    wpList P ops Q (o :: rest) a W :=
  wpList_plain hgd fun K hK => by
    have hst := run_storeVar_row (P := P) W g t ty cur E hg hi hz h1
    unfold Oper.wp execOp
    simp only [ho, hx, hy, Instr.storeAt, Instr.sureAddr, Sem.run_bind, Sem.run_pure, Result.andThen_ok, hst]
    exact hK _ _ (h _ (setRow_heap W g cur E t (0, 0) hg) (fun k hk => setRow_other W g k E hk) (below_setRow (Below.refl _ _) (Nat.le_refl _) E) (by simp))
end
end Go.Proofs.YtmjedjhgomlfiaaGreatDoor
