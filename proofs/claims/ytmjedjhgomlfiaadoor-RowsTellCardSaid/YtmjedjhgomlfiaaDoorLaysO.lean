/- What a row's listed variables give the walks of the operations. -/
import Derived.Test.YtmjedjhgomlfiaaDoorLays
import Derived.Test.YtmjedjhgomlfiaaDoorOpBase
namespace Go.Proofs.YtmjedjhgomlfiaaDoor
open Go.RowKit Go.Lib

/-- An array that reads as these data holds these values. -/
theorem cells_of_row {α : Type} {H : Type} {enc : TypeId × Value → H} {P : Program} {w : World} {base : Nat} {sp : Nat → Bool} {held : Bool} {fuel : Nat} {t e : TypeId} {n : Nat} {cs : List Value} {zs : List α} {p : List MemPlace} (f : α → Value) (g : α → DataW H)
    (ht : P.underlying t = some (.array n e)) (hce : P.cellsOf e = 1) (hct : P.cellsOf t = n)
    (hel : ∀ (fuel : Nat) (cs : List Value) (x : DataW H × List MemPlace) (z : α), DataW.trod enc P w base sp held fuel e cs = some x → x.1 = g z → cs = [f z])
    (h : DataW.trod enc P w base sp held fuel t cs = some (.agg (zs.map g), p)) : cs = zs.map f := by
  cases fuel with
  | zero => simp [DataW.trod] at h
  | succ fuel =>
    simp only [DataW.trod, ht, hce, hct, Nat.mul_one] at h
    split at h
    · rename_i hl
      obtain ⟨xs, hm, hx⟩ := Option.map_eq_some_iff.1 h
      have hxs : xs.map (·.1) = zs.map g := by
        have := congrArg Prod.fst hx
        simpa using this
      have hxl : xs.length = n := by simpa using mapM_length hm
      have hzl : zs.length = n := by
        have := congrArg List.length hxs
        simp at this
        omega
      apply List.ext_getElem?
      intro i
      by_cases hi : i < n
      · obtain ⟨b, hb, hf⟩ := mapM_at hm i i (by simp [hi])
        have hz : zs[i]? = some (zs[i]'(by omega)) := List.getElem?_eq_getElem (by omega)
        have h2 : (xs.map (·.1))[i]? = some b.1 := by simp [hb]
        rw [hxs, List.getElem?_map, hz] at h2
        have hc := hel _ _ _ _ hf (Option.some.inj h2).symm
        have h1 : cs[i]? = some (f (zs[i]'(by omega))) := by
          have := congrArg (·[0]?) hc
          simpa [List.getElem?_take, List.getElem?_drop] using this
        rw [h1, List.getElem?_map, hz]; rfl
      · rw [List.getElem?_eq_none (by omega), List.getElem?_eq_none (by simp; omega)]
    · cases h
theorem var_of_head {α : Type} {P : Program} {W : World} {name : String} {zs : List α} {rest : List (String × DataW Unit)} {k : Nat} {t e : TypeId} {n : Nat} (f : α → Value) (g : α → DataW Unit)
    (hg : P.globalNamed name = some k) (hty : (P.globals[k]?).map (·.type) = some t) (ht : P.underlying t = some (.array n e)) (hce : P.cellsOf e = 1) (hct : P.cellsOf t = n)
    (hel : ∀ (enc : TypeId × Value → Unit) (w : World) (base : Nat) (sp : Nat → Bool) (held : Bool) (fuel : Nat) (cs : List Value) (x : DataW Unit × List MemPlace) (z : α), DataW.trod enc P w base sp held fuel e cs = some x → x.1 = g z → cs = [f z])
    (h : laidMet P ((name, .agg (zs.map g)) :: rest) W) : W.var? P name = some (zs.map f).toArray := by
  obtain ⟨ps, ⟨g', t', cs, fuel, p, q, hg', ht', hvar, hd, _, _⟩, _⟩ := h
  obtain rfl := Option.some.inj (hg.symm.trans hg')
  obtain rfl := Option.some.inj (hty.symm.trans ht')
  rw [hvar, ← cells_of_row f g ht hce hct (hel _ _ _ _ _) hd]

theorem tNames : (Tryd.prog.globals[0]?).map (·.type) = some 93 := by kernel_rfl
theorem tNumbers : (Tryd.prog.globals[1]?).map (·.type) = some 94 := by kernel_rfl
theorem tWorded : (Tryd.prog.globals[2]?).map (·.type) = some 95 := by kernel_rfl
theorem cells3' : Tryd.prog.cellsOf 3 = 1 := by kernel_rfl
theorem cells4' : Tryd.prog.cellsOf 4 = 1 := by kernel_rfl
theorem namesData : (Rows.laid_towncrier_op_names : DataW Unit) = .agg (opNames.map fun x => .lit (.string x.data.toList)) := by kernel_rfl
theorem numbersData : (Rows.laid_towncrier_op_numbers : DataW Unit) = .agg (opNumbers.map fun x => .lit (.int .i64 x)) := by kernel_rfl
theorem wordedData : (Rows.laid_towncrier_op_worded : DataW Unit) = .agg (opWorded.map fun x => .lit (.bool x)) := by kernel_rfl

theorem names_of_laid {l : List (String × DataW Unit)} {W : World} (h : laidMet Tryd.prog l W)
    (h1 : l.filter (fun x => x.1 == "towncrier/op.names") = [("towncrier/op.names", Rows.laid_towncrier_op_names)]) : W.var? Tryd.prog "towncrier/op.names" = some (opNames.map Value.string).toArray := by
  have k1 := h.filter (fun x => x.1 == "towncrier/op.names")
  rw [h1, namesData] at k1
  refine var_of_head Value.string _ gNames tNames Tryd.underlying93 cells9' (by kernel_rfl) ?_ k1
  intro enc w base sp held fuel cs x z hx hz
  obtain ⟨s, hs, hx2, _⟩ := DataW.trod_string Tryd.underlying9 hx
  subst hx2
  have : s.data.toList = z.data.toList := by simpa using hz
  obtain rfl : s = z := ByteArray.ext (Array.toList_inj.1 this)
  exact hs
theorem layO_of_laid {l : List (String × DataW Unit)} {W : World} (h : laidMet Tryd.prog l W)
    (h1 : l.filter (fun x => x.1 == "internal/strconv.uint64pow10") = [("internal/strconv.uint64pow10", Rows.laid_internal_strconv_uint64pow10)])
    (h2 : l.filter (fun x => x.1 == "strconv.ErrSyntax") = [("strconv.ErrSyntax", Rows.laid_strconv_ErrSyntax)])
    (h3 : l.filter (fun x => x.1 == "strconv.ErrRange") = [("strconv.ErrRange", Rows.laid_strconv_ErrRange)])
    (h4 : l.filter (fun x => x.1 == "towncrier/op.names") = [("towncrier/op.names", Rows.laid_towncrier_op_names)])
    (h5 : l.filter (fun x => x.1 == "towncrier/op.numbers") = [("towncrier/op.numbers", Rows.laid_towncrier_op_numbers)])
    (h6 : l.filter (fun x => x.1 == "towncrier/op.worded") = [("towncrier/op.worded", Rows.laid_towncrier_op_worded)]) : LayO W := by
  refine ⟨lay_of_laid h h1 h2 h3, names_of_laid h h4, ?_, ?_⟩
  · have k1 := h.filter (fun x => x.1 == "towncrier/op.numbers")
    rw [h5, numbersData] at k1
    refine var_of_head (Value.int .i64) _ gNumbers tNumbers Tryd.underlying94 cells3' (by kernel_rfl) ?_ k1
    intro enc w base sp held fuel cs x z hx hz
    obtain ⟨n, hn, hx2, _⟩ := DataW.trod_int Tryd.underlying3 hx
    subst hx2
    obtain rfl : n = z := by simpa using hz
    exact hn
  · have k1 := h.filter (fun x => x.1 == "towncrier/op.worded")
    rw [h6, wordedData] at k1
    refine var_of_head Value.bool _ gWorded tWorded Tryd.underlying95 cells4' (by kernel_rfl) ?_ k1
    intro enc w base sp held fuel cs x z hx hz
    obtain ⟨b, hb, hx2⟩ := DataW.trod_bool Tryd.underlying4 hx
    subst hx2
    obtain rfl : b = z := by simpa using hz
    exact hb
end Go.Proofs.YtmjedjhgomlfiaaDoor
