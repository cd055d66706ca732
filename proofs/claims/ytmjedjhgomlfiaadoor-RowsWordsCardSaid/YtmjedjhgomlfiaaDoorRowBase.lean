/- rows: what an entry's row is made of: the numbers' texts, the code's name. -/
import Derived.Test.YtmjedjhgomlfiaaDoorFlags
import Derived.Test.YtmjedjhgomlfiaaDoorRText
import Derived.Test.YtmjedjhgomlfiaaDoorJoins
namespace Go.Proofs.YtmjedjhgomlfiaaDoor
open Go.RowKit Go.Proofs.YtmjedjhgomlfiaaDoorW.PrintWords Go.Lib

/-- What the world must hold for the rows' functions. -/
structure LayR (w : World) : Prop where
  pow : Lib.TabIs Tryd.prog w "internal/strconv.uint64pow10" .u64 Lib.pow10Tab
  names : w.var? Tryd.prog "towncrier/op.names" = some (opNames.map Value.string).toArray
theorem LayR.below {w w' : World} (h : LayR w) (hb : Below w.heap.size w w') : LayR w' := ⟨tab_below hb h.pow, var_below hb h.names⟩
theorem LayR.name {w : World} (h : LayR w) {j : Nat} {x : ByteArray} (hx : opNames[j]? = some x) : w.cell? ⟨0, j, none⟩ = some (.string x) := by
  have := World.var?_cell gNames h.names j
  simpa [hx] using this

/-- A number's text. -/
def numS (n : Int) : ByteArray := ofL (itoa n)
/-- A number of 64 bits. -/
def In64 (n : Int) : Prop := -9223372036854775808 ≤ n ∧ n ≤ 9223372036854775807
/-- A code's name, or ?. -/
def nameQ (c : Int) : ByteArray := if (nameW c).toList.isEmpty = true then ⟨#[63]⟩ else nameW c

set_option maxRecDepth 100000 in
theorem nameR_any (c : Int) (w : World) (hO : LayR w) : Calls Tryd.prog 29 #[.int .i64 c] w fun e w' => e = .returned (.string (nameW c)) ∧ w' = w := by
  have ht := there_any c w
  have hdef : nameW c = if there c = true then opNames.getD c.toNat ByteArray.empty else ByteArray.empty := rfl
  cases hc : there c with
  | false =>
    rw [hc] at ht hdef
    have HG := hide_ hdef
    clear hc hdef
    go_enter Tryd.func29, Tryd.ntmps29
    go_wp2_with (go_at_call 65; refine ht.mono ?_; rintro e w1 ⟨rfl, rfl⟩)
    go_ret
    exact ⟨by rw [HG.out]; rfl, rfl⟩
  | true =>
    rw [hc] at ht hdef
    obtain ⟨j, rfl, h1, h2⟩ := there_nat hc
    clear hc
    obtain ⟨x, hx⟩ : ∃ x, opNames[j]? = some x := ⟨_, List.getElem?_eq_getElem (by rw [opNames_length]; exact h2)⟩
    have hcell := hO.name hx
    have hg : opNames.getD j ByteArray.empty = x := by simp [List.getD, hx]
    rw [Int.toNat_natCast, hg] at hdef
    have HG := hide_ hdef
    clear hg hx hdef
    go_enter Tryd.func29, Tryd.ntmps29
    go_wp2_with (go_at_call 65; refine ht.mono ?_; rintro e w1 ⟨rfl, rfl⟩)
    go_ret
    exact ⟨by rw [HG.out]; rfl, rfl⟩
theorem nameQ_any (c : Int) (w : World) (hO : LayR w) : Calls Tryd.prog 59 #[.int .i64 c] w fun e w' => e = .returned (.string (nameQ c)) ∧ w' = w := by
  have hn := nameR_any c w hO
  unfold nameQ
  cases he : (nameW c).toList.isEmpty with
  | true =>
    generalize nameW c = x at *
    go_enter Tryd.func59, Tryd.ntmps59
    go_wp2_with (go_at_call 29; refine hn.mono ?_; rintro e w1 ⟨rfl, rfl⟩)
    go_ret
    exact ⟨rfl, rfl⟩
  | false =>
    generalize nameW c = x at *
    go_enter Tryd.func59, Tryd.ntmps59
    go_wp2_with (go_at_call 29; refine hn.mono ?_; rintro e w1 ⟨rfl, rfl⟩)
    go_ret
    exact ⟨rfl, rfl⟩

theorem C_int {w : World} {A : Option Addr} {l : List Int} (hA : (Kd.int .i64).C w A l.length l) {j : Nat} {x : Int} (hj : l[j]? = some x) : ∃ B o, A = some ⟨B, o, none⟩ ∧ B < w.heap.size ∧ w.cell? ⟨B, o + j, none⟩ = some (.int .i64 x) := by
  have hl : 0 < l.length := Nat.lt_of_le_of_lt (Nat.zero_le _) (List.getElem?_eq_some_iff.1 hj).1
  obtain ⟨ad, e, hcell⟩ := hA.2.2 hl
  subst e
  have hx : ∀ j p, l[j]? = some p → w.cell? (ad.add j) = some (.int .i64 p) := by
    intro j p hj
    obtain ⟨cs, h1, h2, h3⟩ := hcell j p hj
    have h2' : cs = [.int .i64 p] := h2
    have := h3 0 (.int .i64 p) (by rw [h2']; rfl)
    rwa [show j * (Kd.int .i64).sz + 0 = j from Nat.mul_one j] at this
  have h0 := hx 0 _ (List.getElem?_eq_getElem hl)
  rw [show ad.add 0 = ad from rfl] at h0
  obtain ⟨B, o, spot⟩ := ad
  obtain rfl : spot = none := World.cell?_spot h0
  have h5 := hx j x hj
  rw [Lib.add_plain] at h5
  exact ⟨B, o, rfl, World.block_lt_of_cell? w _ h5, h5⟩
theorem take_snocI {α : Type} (l : List α) (i : Nat) (x : α) (h : l[i]? = some x) : l.take (i + 1) = l.take i ++ [x] := by
  rw [List.take_add_one, h]; rfl

theorem C_strR {w : World} {A : Option Addr} {l : List ByteArray} (hA : Kd.string.C w A l.length l) (hl : l ≠ []) : ∃ B o, A = some ⟨B, o, none⟩ ∧ B < w.heap.size ∧ ∀ (j : Nat) (x : ByteArray), l[j]? = some x → w.cell? ⟨B, o + j, none⟩ = some (.string x) := by
  obtain ⟨ad, e, hcell⟩ := hA.2.2 (by cases l with | nil => exact absurd rfl hl | cons x r => simp)
  subst e
  have hx : ∀ j p, l[j]? = some p → w.cell? (ad.add j) = some (.string p) := by
    intro j p hj
    obtain ⟨cs, h1, h2, h3⟩ := hcell j p hj
    have h2' : cs = [.string p] := h2
    have := h3 0 (.string p) (by rw [h2']; rfl)
    rwa [show j * Kd.string.sz + 0 = j from Nat.mul_one j] at this
  obtain ⟨x, r, rfl⟩ : ∃ x r, l = x :: r := by cases l with | nil => exact absurd rfl hl | cons x r => exact ⟨x, r, rfl⟩
  have h0 := hx 0 x rfl
  rw [show ad.add 0 = ad from rfl] at h0
  obtain ⟨B, o, spot⟩ := ad
  obtain rfl : spot = none := World.cell?_spot h0
  refine ⟨B, o, rfl, World.block_lt_of_cell? w _ h0, fun j p hj => ?_⟩
  have := hx j p hj
  rwa [Lib.add_plain] at this
theorem name_sizeR (c : Int) : (nameW c).size ≤ 30 := by
  cases hc : there c with
  | false => rw [nameW, hc, if_neg (by decide)]; decide
  | true =>
    obtain ⟨j, rfl, h1, h2⟩ := there_nat hc
    have : ∀ j : Fin 18, (nameW (j.val : Int)).size ≤ 30 := by decide +kernel
    exact this ⟨j, h2⟩

theorem R_oneR (W : World) (base : Nat) (hb : base ≤ W.heap.size) (x : ByteArray) : Kd.string.R 9 (W.alloc (.cells #[.string x] 9)) base (fun _ => True) (.slice (some ⟨W.heap.size, 0, none⟩) 1 1) [x] := by
  refine Kd.R_of_own ?_ (fun _ _ => trivial)
  have h := World.ownsRow_lit (base := base) (e := 9) (size := 1) W #[.string x] 1 hb (by decide) rfl
  simpa [encs] using h

set_option maxRecDepth 100000 in
set_option maxHeartbeats 3200000 in
theorem texts58_any (xs : List Int) (A : Option Addr) (c : Nat) (w : World) (hO : LayR w) (hA : (Kd.int .i64).C w A xs.length xs) (_hc : xs.length ≤ c) (hx : ∀ n ∈ xs, In64 n) (hl : xs.length ≤ 100000) :
    Calls Tryd.prog 58 #[.slice A xs.length c] w fun e w' => ∃ v, e = .returned v ∧ Kd.string.R 9 w' w.heap.size (fun _ => True) v (xs.map numS) ∧ Below w.heap.size w w' := by
  go_enter Tryd.func58, Tryd.ntmps58
  go_wp2
  go_loopw [8, 3] (fun iv lv wr => ∃ (i : Nat) (v0 : Value), i ≤ xs.length ∧ iv = .int .i64 i ∧ v0 = lv ∧ Kd.string.R 9 wr w.heap.size (fun _ => True) v0 ((xs.take i).map numS) ∧ Below w.heap.size w wr) (fun iv _ _ => xs.length - (intOf iv).toNat)
  case atStart => exact ⟨0, _, Nat.zero_le _, rfl, rfl, Kd.R_nil _ _ _ _ _, Below.refl _ _⟩
  case round =>
    obtain ⟨i, v, hi, rfl, rfl, hR, hB⟩ := hrel
    by_cases hlt : i < xs.length
    · obtain ⟨m, hm⟩ : ∃ m, xs[i]? = some m := ⟨_, List.getElem?_eq_getElem hlt⟩
      obtain ⟨Bk, o, rfl, hBk, hcm0⟩ := C_int hA hm
      have hcm := (hB.cell (p := ⟨Bk, o + i, none⟩) hBk).trans hcm0
      have hmb := hx m (List.mem_of_getElem? hm)
      have htx := text_any m hmb.1 hmb.2 wr (hO.below hB).pow
      have HE : Hid ((xs.take (i + 1)).map numS = (xs.take i).map numS ++ [numS m]) := ⟨by rw [take_snocI _ _ _ hm, List.map_append]; rfl⟩
      have hll : ((xs.take i).map numS).length ≤ 100000 := by rw [List.length_map, List.length_take]; omega
      generalize ((xs.take i).map numS) = ls at *
      clear hm hmb hcm0
      go_wp2_with (first
        | (go_at_call 41; refine htx.mono ?_; rintro e w5 ⟨rfl, hB5⟩; have hC5 := below_then hB hB.size hB5; have hR5 := Kd.R_below hR hB5)
        | (at_builtin; refine Kd.R_append Kd.string (w0 := w) w.heap.size rfl (.tmp 12) (.tmp 15) 22 9 (.string ⟨#[]⟩) 16 rfl Tryd.underlying22 info9 rfl (by decide) (by omega) v ls (numS m) [.string (numS m)] (fun _ => True) (fun _ => False) rfl rfl rfl (fun _ hk => hk.elim) (fun _ _ => trivial) hR5 hC5 hC5.size (by omega) ?_; intro v1 w7 hR7 hB7 hg7 hat7; clear hg7 hat7))
      go_roundw
      case rel => exact ⟨i + 1, v1, hlt, by go_num, rfl, by rw [HE.out]; exact hR7, hB7⟩
      case measure => simp [intOf]; omega
    · obtain rfl : i = xs.length := by omega
      rw [List.take_length] at hR
      go_wp2
      go_ret
      exact ⟨v, rfl, hR, hB⟩
end Go.Proofs.YtmjedjhgomlfiaaDoor
