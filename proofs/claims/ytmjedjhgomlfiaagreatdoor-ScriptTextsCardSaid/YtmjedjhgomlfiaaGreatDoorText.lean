/- word.Text: the number's own text. It writes nothing that was there. -/
import Derived.Test.YtmjedjhgomlfiaaGreatDoorShelf2
import Derived.Test.YtmjedjhgomlfiaaGreatDoorSplits
import Derived.Lib.LaidTab
namespace Go.Proofs.YtmjedjhgomlfiaaGreatDoor
open Go.RowKit Go.Proofs.YtmjedjhgomlfiaaGreatDoorW.PrintWords

theorem var_below {w w' : World} {n : String} {v : Array Value} (hb : Below w.heap.size w w') (h : w.var? Tryz.prog n = some v) : w'.var? Tryz.prog n = some v := by
  unfold World.var? at h ⊢
  obtain ⟨g, hg, h⟩ := Option.bind_eq_some_iff.1 h
  rw [hg, Option.bind_some]
  cases ho : w.heap[g]? with
  | none => rw [ho] at h; cases h
  | some o => rw [hb.block g (Array.getElem?_eq_some_iff.1 ho).1, ho]; rw [ho] at h; exact h
theorem tab_below {w w' : World} {n : String} {k : IntKind} {zs : List Int} (hb : Below w.heap.size w w') (h : Lib.TabIs Tryz.prog w n k zs) : Lib.TabIs Tryz.prog w' n k zs := var_below hb h

set_option maxRecDepth 100000 in
theorem text_any (n : Int) (h0 : -9223372036854775808 ≤ n) (h1 : n ≤ 9223372036854775807) (w : World) (ht : Lib.TabIs Tryz.prog w "internal/strconv.uint64pow10" .u64 Lib.pow10Tab) :
    Calls Tryz.prog 29 #[.int .i64 n] w fun e w' => e = .returned (.string (ofL (Lib.itoa n))) ∧ Below w.heap.size w w' := by
  have hcon : Calls Tryz.prog 49 #[.int .i64 n] w fun e w' => e = .returned (.string (ofL (Lib.itoa n))) ∧ Below w.heap.size w w' := by
    refine (Tryz.strconv_Itoa n h0 h1 w ht).mono ?_
    rintro e w' ⟨rfl, k, os, rfl⟩
    exact ⟨rfl, below_grown w k os⟩
  go_enter Tryz.func29, Tryz.ntmps29
  go_wp2_with (go_at_call 49; refine hcon.mono ?_; rintro e w' ⟨rfl, hb⟩)
  go_ret
  exact ⟨rfl, hb⟩
end Go.Proofs.YtmjedjhgomlfiaaGreatDoor
