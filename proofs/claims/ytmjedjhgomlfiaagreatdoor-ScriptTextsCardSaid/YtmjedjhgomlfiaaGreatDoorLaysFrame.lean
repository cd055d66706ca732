/- The tables; the frame of a row. -/
import Derived.Test.YtmjedjhgomlfiaaGreatDoorRows
import Derived.Test.YtmjedjhgomlfiaaGreatDoorNum
import Derived.Stop.LaidErr
import Derived.LaidSub
import Derived.Lib.LaidTab
import Derived.Test.YtmjedjhgomlfiaaGreatDoorOpBase
import Derived.ChangeOld
import Derived.ChangeAgain
import Derived.ShapedOpen
import Derived.Test.YtmjedjhgomlfiaaGreatDoorProg
import Derived.ChangeAt2
import Derived.ShutString
import Derived.Lay
import Derived.LaidMore
import Derived.Stop.Joined
import Derived.SizedLaws
import Derived.SevenTiedAt
namespace Go.Proofs.YtmjedjhgomlfiaaGreatDoor
open Go.RowKit

theorem gES : Tryz.prog.globalNamed "strconv.ErrSyntax" = some 7 := by kernel_rfl
theorem gER : Tryz.prog.globalNamed "strconv.ErrRange" = some 8 := by kernel_rfl
theorem gESType : (Tryz.prog.globals[7]?).map (·.type) = some 47 := by kernel_rfl
theorem gERType : (Tryz.prog.globals[8]?).map (·.type) = some 47 := by kernel_rfl
theorem gP : Tryz.prog.globalNamed "internal/strconv.uint64pow10" = some 6 := by kernel_rfl
theorem gPT : (Tryz.prog.globals[6]?).map (·.type) = some 127 := by kernel_rfl
theorem powData : (Rows.laid_internal_strconv_uint64pow10 : DataW Unit) = Lib.tabData .u64 Lib.pow10Tab := by kernel_rfl
theorem cells155 : Tryz.prog.cellsOf 140 = 1 := by kernel_rfl
theorem cells9' : Tryz.prog.cellsOf 9 = 1 := by kernel_rfl
theorem star : "*" ++ "errors.errorString" = "*errors.errorString" := by decide
theorem row153 (u : TypeId) (h : Tryz.prog.typeName? 3 u = some "*errors.errorString") : u = 138 :=
  typeName_ptr_named (nm := "errors.errorString") (by rw [star]; kernel_rfl) (by kernel_rfl) (by decide) u (by rw [star]; exact h)

theorem lay_of_laid {l : List (String × DataW Unit)} {W : World} (h : laidMet Tryz.prog l W)
    (h1 : l.filter (fun x => x.1 == "internal/strconv.uint64pow10") = [("internal/strconv.uint64pow10", Rows.laid_internal_strconv_uint64pow10)])
    (h2 : l.filter (fun x => x.1 == "strconv.ErrSyntax") = [("strconv.ErrSyntax", Rows.laid_strconv_ErrSyntax)])
    (h3 : l.filter (fun x => x.1 == "strconv.ErrRange") = [("strconv.ErrRange", Rows.laid_strconv_ErrRange)]) : Lay W := by
  have k1 := h.filter (fun x => x.1 == "internal/strconv.uint64pow10")
  have k2 := h.filter (fun x => x.1 == "strconv.ErrSyntax")
  have k3 := h.filter (fun x => x.1 == "strconv.ErrRange")
  rw [h1] at k1; rw [h2] at k2; rw [h3] at k3
  refine ⟨?_, ?_, ?_⟩
  · rw [powData] at k1
    exact Lib.tabIs_of_head gP gPT Tryz.underlying127 Tryz.underlying111 (by kernel_rfl) (by kernel_rfl) k1
  · obtain ⟨a0, s0, hv0, -⟩ := laid_sentinel k2 gES gESType Tryz.underlying47 row153 Tryz.underlying138 Tryz.underlying140 rfl rfl Tryz.underlying9 cells155 cells9'
    exact ⟨_, _, hv0⟩
  · obtain ⟨a0, s0, hv0, -⟩ := laid_sentinel k3 gER gERType Tryz.underlying47 row153 Tryz.underlying138 Tryz.underlying140 rfl rfl Tryz.underlying9 cells155 cells9'
    exact ⟨_, _, hv0⟩
end Go.Proofs.YtmjedjhgomlfiaaGreatDoor

namespace Go.Proofs.YtmjedjhgomlfiaaGreatDoor
open Go.RowKit Go.Lib

/-- An array that reads as these data holds these values. -/
theorem cells_of_row {α : Type} {H : Type} {enc : TypeId × Value → H} {P : Program} {w : World} {base : Nat} {sp : Nat → Bool} {held : Bool} {fuel : Nat} {t e : TypeId} {n : Nat} {cs : List Value} {zs : List α} {p : List MemPlace} (f : α → Value) (g : α → DataW H)
    (ht : P.underlying t = some (.array n e)) (hce : P.cellsOf e = 1) (hct : P.cellsOf t = n)
    (hel : ∀ (fuel : Nat) (cs : List Value) (x : DataW H × List MemPlace) (z : α), DataW.trod enc P w base sp held fuel e cs = some x → x.1 = g z → cs = [f z])
    (h : DataW.trod enc P w base sp held fuel t cs = some (.agg (zs.map g), p)) : cs = zs.map f := by
  cases fuel with
  | zero => simp [DataW.trod] at h
  | succ fuel =>
    simp only [DataW.trod, ht, hce, hct, Nat.mul_one] at h
    split at h
    · rename_i hl
      obtain ⟨xs, hm, hx⟩ := Option.map_eq_some_iff.1 h
      have hxs : xs.map (·.1) = zs.map g := by
        have := congrArg Prod.fst hx
        simpa using this
      have hxl : xs.length = n := by simpa using mapM_length hm
      have hzl : zs.length = n := by
        have := congrArg List.length hxs
        simp at this
        omega
      apply List.ext_getElem?
      intro i
      by_cases hi : i < n
      · obtain ⟨b, hb, hf⟩ := mapM_at hm i i (by simp [hi])
        have hz : zs[i]? = some (zs[i]'(by omega)) := List.getElem?_eq_getElem (by omega)
        have h2 : (xs.map (·.1))[i]? = some b.1 := by simp [hb]
        rw [hxs, List.getElem?_map, hz] at h2
        have hc := hel _ _ _ _ hf (Option.some.inj h2).symm
        have h1 : cs[i]? = some (f (zs[i]'(by omega))) := by
          have := congrArg (·[0]?) hc
          simpa [List.getElem?_take, List.getElem?_drop] using this
        rw [h1, List.getElem?_map, hz]; rfl
      · rw [List.getElem?_eq_none (by omega), List.getElem?_eq_none (by simp; omega)]
    · cases h
theorem var_of_head {α : Type} {P : Program} {W : World} {name : String} {zs : List α} {rest : List (String × DataW Unit)} {k : Nat} {t e : TypeId} {n : Nat} (f : α → Value) (g : α → DataW Unit)
    (hg : P.globalNamed name = some k) (hty : (P.globals[k]?).map (·.type) = some t) (ht : P.underlying t = some (.array n e)) (hce : P.cellsOf e = 1) (hct : P.cellsOf t = n)
    (hel : ∀ (enc : TypeId × Value → Unit) (w : World) (base : Nat) (sp : Nat → Bool) (held : Bool) (fuel : Nat) (cs : List Value) (x : DataW Unit × List MemPlace) (z : α), DataW.trod enc P w base sp held fuel e cs = some x → x.1 = g z → cs = [f z])
    (h : laidMet P ((name, .agg (zs.map g)) :: rest) W) : W.var? P name = some (zs.map f).toArray := by
  obtain ⟨ps, ⟨g', t', cs, fuel, p, q, hg', ht', hvar, hd, _, _⟩, _⟩ := h
  obtain rfl := Option.some.inj (hg.symm.trans hg')
  obtain rfl := Option.some.inj (hty.symm.trans ht')
  rw [hvar, ← cells_of_row f g ht hce hct (hel _ _ _ _ _) hd]

theorem tNames : (Tryz.prog.globals[0]?).map (·.type) = some 84 := by kernel_rfl
theorem tNumbers : (Tryz.prog.globals[1]?).map (·.type) = some 85 := by kernel_rfl
theorem tWorded : (Tryz.prog.globals[2]?).map (·.type) = some 86 := by kernel_rfl
theorem cells3' : Tryz.prog.cellsOf 3 = 1 := by kernel_rfl
theorem cells4' : Tryz.prog.cellsOf 4 = 1 := by kernel_rfl
theorem namesData : (Rows.laid_towncrier_op_names : DataW Unit) = .agg (opNames.map fun x => .lit (.string x.data.toList)) := by kernel_rfl
theorem numbersData : (Rows.laid_towncrier_op_numbers : DataW Unit) = .agg (opNumbers.map fun x => .lit (.int .i64 x)) := by kernel_rfl
theorem wordedData : (Rows.laid_towncrier_op_worded : DataW Unit) = .agg (opWorded.map fun x => .lit (.bool x)) := by kernel_rfl

theorem names_of_laid {l : List (String × DataW Unit)} {W : World} (h : laidMet Tryz.prog l W)
    (h1 : l.filter (fun x => x.1 == "towncrier/op.names") = [("towncrier/op.names", Rows.laid_towncrier_op_names)]) : W.var? Tryz.prog "towncrier/op.names" = some (opNames.map Value.string).toArray := by
  have k1 := h.filter (fun x => x.1 == "towncrier/op.names")
  rw [h1, namesData] at k1
  refine var_of_head Value.string _ gNames tNames Tryz.underlying84 cells9' (by kernel_rfl) ?_ k1
  intro enc w base sp held fuel cs x z hx hz
  obtain ⟨s, hs, hx2, _⟩ := DataW.trod_string Tryz.underlying9 hx
  subst hx2
  have : s.data.toList = z.data.toList := by simpa using hz
  obtain rfl : s = z := ByteArray.ext (Array.toList_inj.1 this)
  exact hs
theorem layO_of_laid {l : List (String × DataW Unit)} {W : World} (h : laidMet Tryz.prog l W)
    (h1 : l.filter (fun x => x.1 == "internal/strconv.uint64pow10") = [("internal/strconv.uint64pow10", Rows.laid_internal_strconv_uint64pow10)])
    (h2 : l.filter (fun x => x.1 == "strconv.ErrSyntax") = [("strconv.ErrSyntax", Rows.laid_strconv_ErrSyntax)])
    (h3 : l.filter (fun x => x.1 == "strconv.ErrRange") = [("strconv.ErrRange", Rows.laid_strconv_ErrRange)])
    (h4 : l.filter (fun x => x.1 == "towncrier/op.names") = [("towncrier/op.names", Rows.laid_towncrier_op_names)])
    (h5 : l.filter (fun x => x.1 == "towncrier/op.numbers") = [("towncrier/op.numbers", Rows.laid_towncrier_op_numbers)])
    (h6 : l.filter (fun x => x.1 == "towncrier/op.worded") = [("towncrier/op.worded", Rows.laid_towncrier_op_worded)]) : LayO W := by
  refine ⟨lay_of_laid h h1 h2 h3, names_of_laid h h4, ?_, ?_⟩
  · have k1 := h.filter (fun x => x.1 == "towncrier/op.numbers")
    rw [h5, numbersData] at k1
    refine var_of_head (Value.int .i64) _ gNumbers tNumbers Tryz.underlying85 cells3' (by kernel_rfl) ?_ k1
    intro enc w base sp held fuel cs x z hx hz
    obtain ⟨n, hn, hx2, _⟩ := DataW.trod_int Tryz.underlying3 hx
    subst hx2
    obtain rfl : n = z := by simpa using hz
    exact hn
  · have k1 := h.filter (fun x => x.1 == "towncrier/op.worded")
    rw [h6, wordedData] at k1
    refine var_of_head Value.bool _ gWorded tWorded Tryz.underlying86 cells4' (by kernel_rfl) ?_ k1
    intro enc w base sp held fuel cs x z hx hz
    obtain ⟨b, hb, hx2⟩ := DataW.trod_bool Tryz.underlying4 hx
    subst hx2
    obtain rfl : b = z := by simpa using hz
    exact hb
end Go.Proofs.YtmjedjhgomlfiaaGreatDoor

namespace Go.Proofs.YtmjedjhgomlfiaaGreatDoor
open Go.ChangeShapes Go.WideShapes Go.ChangeAt Go.RowKit

/-- The wrap of a row that lists variables, the world's shape handed on. -/
theorem inHanded_sa {H : Type} {enc : TypeId × Value → H} {a : Assume} {C : Checked} {os : Os} {f : FuncId} {fn : Func} {s : ChangeSpec} {conds : List PathCond} {apart fresh handsOn again : Bool} {X : World → Array Value → Prop}
    (hX : ∀ (w w' : World) (args : Array Value), w.heap = w'.heap → X w args → X w' args)
    (own : ownKnob C.prog.godebug = none) (started : os.Started) (noInit : C.prog.inits.idxOf? f = none) (hfn : C.prog.funcs[f]? = some fn)
    (witness : ∃ (w : World) (tape : Tape) (i : Input), w.os = os ∧ (w.forCall tape i).Shaped C.prog ∧ i.vars = [] ∧ Input.okWide C.prog (w.forCall tape i) .any w.heap.size f i ∧
      ((s.pre enc C.prog fn conds apart (w.forCall tape i).memory i.args ∧ X (w.forCall tape i).memory i.args) ∧ sizedMet enc C.prog fn (OpenSpec.ofChange s) apart (w.forCall tape i).memory i.args) ∧ a.holds C.prog (lone (Frame.enter C.prog f i.args .normal) [] (w.forCall tape i)))
    (contract : ∀ (W : World) (base : Nat) (args : Array Value) (ds gs : List (DataW H)) (before : List MemPlace),
      (∀ (j : Nat) t v, fn.params[j]? = some t → args[j]? = some v → Value.okWide C.prog W .any base t v) →
      DataW.Whole enc C.prog fn.params.toList s.vars apart W args.toList ds gs before →
      conds.all (PathCond.test C.prog ⟨fn.params.toList, ds, s.plain.varTypes C.prog, gs⟩) = true →
      (DataW.weightsEach C.prog (fn.params.toList ++ s.plain.varTypes C.prog) (ds ++ gs)).all (· ≤ reachBytes) = true → X W args → W.ShapedOpen C.prog →
      Calls C.prog f args W fun e W' => ∃ v, e = .returned v ∧ s.post enc C.prog fn apart fresh handsOn again W args v W') :
    ReturnsInHanded a C os f .any (fun w args => (s.pre enc C.prog fn conds apart w args ∧ X w args) ∧ sizedMet enc C.prog fn (OpenSpec.ofChange s) apart w args) (s.post enc C.prog fn apart fresh handsOn again) := by
  refine returnsInHanded_of_calls own started noInit witness ?_
  intro w tape i _ hsh _ hok hpre _
  obtain ⟨_, _, _, fn', hfn', _, _, _, _, hval⟩ := hok
  have e : fn' = fn := Option.some.inj (hfn'.symm.trans hfn)
  subst e
  obtain ⟨⟨⟨ds, gs, before, hw, hc⟩, hx⟩, hz⟩ := hpre
  have hw' := DataW.Whole.of_heap (w' := w.forCall tape i) (by rfl) hw
  refine (contract (w.forCall tape i) w.heap.size i.args ds gs before hval hw' hc (hz.weights hw) (hX _ _ _ (by rfl) hx) hsh).mono fun e W' ⟨v, he, hp⟩ => ?_
  subst he
  exact ChangeSpec.post_blind hp

theorem ownK : ownKnob Tryz.prog.godebug = none := by kernel_rfl
theorem laidOutK : laidOutB Tryz.prog = true := by kernel_rfl
end Go.Proofs.YtmjedjhgomlfiaaGreatDoor
