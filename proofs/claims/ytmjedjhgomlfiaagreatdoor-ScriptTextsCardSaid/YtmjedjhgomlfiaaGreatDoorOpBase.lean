/- op: codes, names, numbers, words: what the program reads off its tables. -/
import Derived.Test.YtmjedjhgomlfiaaGreatDoorNum
import Derived.Test.YtmjedjhgomlfiaaGreatDoorRight
namespace Go.Proofs.YtmjedjhgomlfiaaGreatDoor
open Go.RowKit Go.Proofs.YtmjedjhgomlfiaaGreatDoorW.PrintWords Go.Lib

def opNameL : List (List UInt8) := [[], [109, 97, 107, 101], [119, 97, 110, 116], [110, 97, 109, 101], [97, 112, 112, 101, 110, 100], [98, 101, 102, 111, 114, 101], [114, 101, 109, 111, 118, 101], [97, 116, 116, 97, 99, 104], [115, 105, 103, 110, 97, 108], [97, 98, 111, 114, 116], [108, 105, 115, 116, 101, 110], [117, 110, 108, 105, 115, 116, 101, 110], [101, 118, 101, 110, 116], [115, 101, 110, 100], [112, 114, 101, 118, 101, 110, 116], [115, 116, 111, 112], [115, 116, 111, 112, 110, 111, 119], [99, 108, 101, 97, 114]]
def opNames : List ByteArray := opNameL.map ofL
def opNumbers : List Int := [0, 2, 1, 1, 2, 3, 2, 2, 2, 1, 4, 3, 2, 2, 1, 1, 1, 1]
def opWorded : List Bool := [false, true, true, true, false, false, false, false, false, false, true, true, true, false, false, false, false, false]
theorem opNames_length : opNames.length = 18 := rfl

theorem gNames : Tryz.prog.globalNamed "towncrier/op.names" = some 0 := by kernel_rfl
theorem gNumbers : Tryz.prog.globalNamed "towncrier/op.numbers" = some 1 := by kernel_rfl
theorem gWorded : Tryz.prog.globalNamed "towncrier/op.worded" = some 2 := by kernel_rfl

/-- What the world must hold for the operations' functions. -/
structure LayO (w : World) : Prop where
  lay : Lay w
  names : w.var? Tryz.prog "towncrier/op.names" = some (opNames.map Value.string).toArray
  numbers : w.var? Tryz.prog "towncrier/op.numbers" = some (opNumbers.map (Value.int .i64)).toArray
  worded : w.var? Tryz.prog "towncrier/op.worded" = some (opWorded.map Value.bool).toArray
theorem LayO.below {w w' : World} (h : LayO w) (hb : Below w.heap.size w w') : LayO w' :=
  ⟨h.lay.below hb, var_below hb h.names, var_below hb h.numbers, var_below hb h.worded⟩
theorem LayO.name {w : World} (h : LayO w) {j : Nat} {x : ByteArray} (hx : opNames[j]? = some x) : w.cell? ⟨0, j, none⟩ = some (.string x) := by
  have := World.var?_cell gNames h.names j
  simpa [hx] using this
theorem LayO.number {w : World} (h : LayO w) {j : Nat} {x : Int} (hx : opNumbers[j]? = some x) : w.cell? ⟨1, j, none⟩ = some (.int .i64 x) := by
  have := World.var?_cell gNumbers h.numbers j
  simpa [hx] using this
theorem LayO.word {w : World} (h : LayO w) {j : Nat} {x : Bool} (hx : opWorded[j]? = some x) : w.cell? ⟨2, j, none⟩ = some (.bool x) := by
  have := World.var?_cell gWorded h.worded j
  simpa [hx] using this

def there (c : Int) : Bool := decide (1 ≤ c) && decide (c < 18)
def nameW (c : Int) : ByteArray := if there c = true then opNames.getD c.toNat ByteArray.empty else ByteArray.empty
def numbersW (c : Int) : Int := if there c = true then opNumbers.getD c.toNat 0 else 0
def wordedW (c : Int) : Bool := there c && opWorded.getD c.toNat false

theorem there_any (c : Int) (w : World) : Calls Tryz.prog 47 #[.int .i64 c] w fun e w' => e = .returned (.bool (there c)) ∧ w' = w := by
  by_cases h1 : 1 ≤ c
  · by_cases h2 : c < 18
    · go_enter Tryz.func47, Tryz.ntmps47
      go_wp2
      go_ret
      exact ⟨by simp [there, h1, h2], rfl⟩
    · go_enter Tryz.func47, Tryz.ntmps47
      go_wp2
      go_ret
      exact ⟨by simp [there, h2], rfl⟩
  · go_enter Tryz.func47, Tryz.ntmps47
    go_wp2
    go_ret
    exact ⟨by simp only [there, decide_eq_false (show ¬ 1 ≤ c by omega), Bool.false_and]; rfl, rfl⟩
theorem there_nat {c : Int} (h : there c = true) : ∃ j : Nat, c = j ∧ 1 ≤ j ∧ j < 18 := by
  simp [there] at h
  exact ⟨c.toNat, by omega, by omega, by omega⟩

set_option maxRecDepth 100000 in
theorem name_any (c : Int) (w : World) (hO : LayO w) : Calls Tryz.prog 26 #[.int .i64 c] w fun e w' => e = .returned (.string (nameW c)) ∧ w' = w := by
  have ht := there_any c w
  have hdef : nameW c = if there c = true then opNames.getD c.toNat ByteArray.empty else ByteArray.empty := rfl
  cases hc : there c with
  | false =>
    rw [hc] at ht hdef
    have HG := hide_ hdef
    clear hc hdef
    go_enter Tryz.func26, Tryz.ntmps26
    go_wp2_with (go_at_call 47; refine ht.mono ?_; rintro e w1 ⟨rfl, rfl⟩)
    go_ret
    exact ⟨by rw [HG.out]; rfl, rfl⟩
  | true =>
    rw [hc] at ht hdef
    obtain ⟨j, rfl, h1, h2⟩ := there_nat hc
    clear hc
    obtain ⟨x, hx⟩ : ∃ x, opNames[j]? = some x := ⟨_, List.getElem?_eq_getElem (by rw [opNames_length]; exact h2)⟩
    have hcell := hO.name hx
    have hg : opNames.getD j ByteArray.empty = x := by simp [List.getD, hx]
    rw [Int.toNat_natCast, hg] at hdef
    have HG := hide_ hdef
    clear hg hx hdef
    go_enter Tryz.func26, Tryz.ntmps26
    go_wp2_with (go_at_call 47; refine ht.mono ?_; rintro e w1 ⟨rfl, rfl⟩)
    go_ret
    exact ⟨by rw [HG.out]; rfl, rfl⟩
set_option maxRecDepth 100000 in
theorem numbers_any (c : Int) (w : World) (hO : LayO w) : Calls Tryz.prog 28 #[.int .i64 c] w fun e w' => e = .returned (.int .i64 (numbersW c)) ∧ w' = w := by
  have ht := there_any c w
  have hdef : numbersW c = if there c = true then opNumbers.getD c.toNat 0 else 0 := rfl
  cases hc : there c with
  | false =>
    rw [hc] at ht hdef
    have HG := hide_ hdef
    clear hc hdef
    go_enter Tryz.func28, Tryz.ntmps28
    go_wp2_with (go_at_call 47; refine ht.mono ?_; rintro e w1 ⟨rfl, rfl⟩)
    go_ret
    exact ⟨by rw [HG.out]; rfl, rfl⟩
  | true =>
    rw [hc] at ht hdef
    obtain ⟨j, rfl, h1, h2⟩ := there_nat hc
    clear hc
    obtain ⟨x, hx⟩ : ∃ x, opNumbers[j]? = some x := ⟨_, List.getElem?_eq_getElem (by show j < 18; exact h2)⟩
    have hcell := hO.number hx
    have hg : opNumbers.getD j 0 = x := by simp [List.getD, hx]
    rw [Int.toNat_natCast, hg] at hdef
    have HG := hide_ hdef
    clear hg hx hdef
    go_enter Tryz.func28, Tryz.ntmps28
    go_wp2_with (go_at_call 47; refine ht.mono ?_; rintro e w1 ⟨rfl, rfl⟩)
    go_ret
    exact ⟨by rw [HG.out]; rfl, rfl⟩
set_option maxRecDepth 100000 in
theorem worded_any (c : Int) (w : World) (hO : LayO w) : Calls Tryz.prog 30 #[.int .i64 c] w fun e w' => e = .returned (.bool (wordedW c)) ∧ w' = w := by
  have ht := there_any c w
  have hdef : wordedW c = (there c && opWorded.getD c.toNat false) := rfl
  cases hc : there c with
  | false =>
    rw [hc] at ht hdef
    have HG := hide_ hdef
    clear hc hdef
    go_enter Tryz.func30, Tryz.ntmps30
    go_wp2_with (go_at_call 47; refine ht.mono ?_; rintro e w1 ⟨rfl, rfl⟩)
    go_ret
    exact ⟨by rw [HG.out]; rfl, rfl⟩
  | true =>
    rw [hc] at ht hdef
    obtain ⟨j, rfl, h1, h2⟩ := there_nat hc
    clear hc
    obtain ⟨x, hx⟩ : ∃ x, opWorded[j]? = some x := ⟨_, List.getElem?_eq_getElem (by show j < 18; exact h2)⟩
    have hcell := hO.word hx
    have hg : opWorded.getD j false = x := by simp [List.getD, hx]
    rw [Int.toNat_natCast, hg] at hdef
    have HG := hide_ hdef
    clear hg hx hdef
    go_enter Tryz.func30, Tryz.ntmps30
    go_wp2_with (go_at_call 47; refine ht.mono ?_; rintro e w1 ⟨rfl, rfl⟩)
    go_ret
    exact ⟨by rw [HG.out]; rfl, rfl⟩
end Go.Proofs.YtmjedjhgomlfiaaGreatDoor
