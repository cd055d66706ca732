/- RowsTell: an entry's row, on both sides; the law's call returns true. -/
import Derived.Test.YtmjedjhgomlfiaaDoorOpBase
import Derived.Test.YtmjedjhgomlfiaaDoorBase
import Derived.Test.YtmjedjhgomlfiaaDoorJoins
import Derived.Test.YtmjedjhgomlfiaaDoorRefRows
import Derived.IntWalk
import Derived.Test.YtmjedjhgomlfiaaDoorFlags
import Derived.Test.YtmjedjhgomlfiaaDoorRText
import Derived.Test.YtmjedjhgomlfiaaDoorJoinsLaw
import Derived.Lib.ItoaLen
import Derived.Deep.MidRow
namespace Go.Proofs.YtmjedjhgomlfiaaDoor
open Go.RowKit Go.Proofs.YtmjedjhgomlfiaaDoorW.PrintWords Go.Lib

section
variable {P : Program}
/-- An array's element, of one cell, at a place within. -/
theorem run_index_cell (w : World) (t e : TypeId) (n : Nat) (cs : Array Value) (k : IntKind) (j : Nat) (v : Value) (h : P.underlying t = some (.array n e)) (hj : j < n) (hs : (P.info? e).map (·.size) = some 1)
    (hp : ∀ off, cs[off]? = some v → (part e cs off).run P w = .ok v w) (hv : cs[j]? = some v) : (Instr.index t (.agg cs) (.int k (j : Int))).run P w = .ok v w := by
  cases hq : P.info? e with
  | none => simp [hq] at hs
  | some i =>
    have hi : i.size = 1 := by simpa [hq] using hs
    have hb : (0 : Int) ≤ j ∧ (j : Int) < n := by omega
    simp [Instr.index, run_underlying h, asIntOf, hb, hj, sizeOf, typeInfo, hq, hi, Sem.run_bind, hp j hv]
theorem run_part_cell {e : TypeId} (w : World) {d : TypeDesc} (hu : P.underlying e = some d) (hd : (match d with | .struct _ | .array _ _ => true | _ => false) = false) {xs : Array Value} {off : Nat} {v : Value} (hx : xs[off]? = some v) : (part e xs off).run P w = .ok v w := by
  cases d <;> simp at hd <;> simp [part, isAgg, run_underlying hu, hx]
end

/-- The first place from j on, behind the first, where a text stands. -/
def codeAt : List ByteArray → Nat → ByteArray → Int
  | [], _, _ => 0
  | n :: r, j, x => if 0 < j ∧ n = x then (j : Int) else codeAt r (j + 1) x
def codeW (x : ByteArray) : Int := codeAt opNames 0 x

theorem names_load (w : World) (hO : LayO w) : ∀ j v, (opNames.map Value.string)[j]? = some v → w.cell? ((⟨0, 0, none⟩ : Addr).add j) = some v := by
  intro j v hv
  rw [List.getElem?_map] at hv
  obtain ⟨x, hx, rfl⟩ := Option.map_eq_some_iff.1 hv
  have := hO.name hx
  rw [Lib.add_plain]
  simpa using this

set_option maxRecDepth 100000 in
theorem code_any (s : ByteArray) (w : World) (hO : LayO w) : Calls Tryd.prog 31 #[.string s] w fun e w' => e = .returned (.int .i64 (codeW s)) ∧ w' = w := by
  have HC := hide_ (names_load w hO)
  have hlen := opNames_length
  have hC : Hid (codeAt (opNames.drop 0) 0 s = codeW s) := ⟨rfl⟩
  have HI : Hid ((Tryd.prog.info? 93).map (·.size) = some (opNames.map Value.string).length) := ⟨by kernel_rfl⟩
  generalize codeW s = res at *
  generalize opNames = ns at *
  go_enter Tryd.func31, Tryd.ntmps31
  go_wp2_with (refine gate_ (.load 93 (.global 0)) rfl ?_; refine wpList_load_list rfl 93 (.global 0) rfl ⟨0, 0, none⟩ rfl (ns.map Value.string) _ HC.out Tryd.underlying93 rfl HI.out ?_)
  go_loopw [6] (fun v wr => ∃ j : Nat, j ≤ 18 ∧ v = .int .i64 j ∧ wr = w ∧ Hid (codeAt (ns.drop j) j s = res)) (fun v _ => 18 - (intOf v).toNat)
  case atStart => exact ⟨0, by omega, rfl, rfl, hC⟩
  case round =>
    obtain ⟨j, hj, rfl, rfl, hC⟩ := hrel
    by_cases hlt : j < 18
    · obtain ⟨x, hx⟩ : ∃ x, ns[j]? = some x := ⟨_, List.getElem?_eq_getElem (by omega)⟩
      have hE : (ns.map Value.string).toArray[j]? = some (.string x) := by simp [hx]
      have hD : Hid (codeAt (ns.drop j) j s = if 0 < j ∧ x = s then (j : Int) else codeAt (ns.drop (j + 1)) (j + 1) s) := ⟨by
        have h := List.getElem?_eq_some_iff.1 hx
        rw [List.drop_eq_getElem_cons h.1, h.2, codeAt]⟩
      have hix : ∀ W, (Instr.index 93 (.agg (ns.map Value.string).toArray) (.int .i64 (j : Int))).run Tryd.prog W = .ok (.string x) W := fun W =>
        run_index_cell W 93 9 18 _ .i64 j _ Tryd.underlying93 hlt (by kernel_rfl) (fun off h => run_part_cell W Tryd.underlying9 rfl h) hE
      by_cases h0 : 0 < j
      · by_cases hxs : x = s
        · have hb : (x.toList == s.toList) = true := by rw [hxs]; exact beq_self_eq_true _
          have HR : Hid (res = (j : Int)) := ⟨by
            have h := hC.out
            rw [hD.out, if_pos ⟨h0, hxs⟩] at h
            exact h.symm⟩
          clear hxs hx hE
          go_wp2
          go_ret
          exact ⟨by first | trivial | (rw [HR.out]; rfl), rfl⟩
        · have hb : (x.toList == s.toList) = false := by
            rw [beq_eq_false_iff_ne]; intro h; exact hxs (toList_inj h)
          have HR : Hid (codeAt (ns.drop (j + 1)) (j + 1) s = res) := ⟨by
            have h := hC.out
            rw [hD.out, if_neg (fun q => hxs q.2)] at h
            exact h⟩
          clear hxs hx hE
          go_wp2
          go_roundw
          case rel => exact ⟨j + 1, by omega, by go_num, trivial, HR⟩
          case measure => simp [intOf]; omega
      · have HR : Hid (codeAt (ns.drop (j + 1)) (j + 1) s = res) := ⟨by
          have h := hC.out
          rw [hD.out, if_neg (fun q => h0 q.1)] at h
          exact h⟩
        obtain rfl : j = 0 := by omega
        have hix' : ∀ W, (Instr.index 93 (.agg (ns.map Value.string).toArray) (.int .i64 0)).run Tryd.prog W = .ok (.string x) W := hix
        clear hx hE hix
        go_wp2
        go_roundw
        case rel => exact ⟨1, by omega, rfl, trivial, HR⟩
        case measure => simp [intOf]
    · obtain rfl : j = 18 := by omega
      have HR : Hid (res = 0) := ⟨by
        have h := hC.out
        rw [List.drop_eq_nil_of_le (by omega), codeAt] at h
        exact h.symm⟩
      go_wp2
      go_ret
      exact ⟨by first | trivial | (rw [HR.out]; rfl), rfl⟩
end Go.Proofs.YtmjedjhgomlfiaaDoor

namespace Go.Proofs.YtmjedjhgomlfiaaDoor
open Go.RowKit Go.Proofs.YtmjedjhgomlfiaaDoorW.PrintWords Go.Lib Ref19

theorem rname_in : ∀ j : Fin 18, 1 ≤ j.val → towncrierref19_Name.f (j.val : Int) = some (nameW (j.val : Int)) := by decide +kernel
theorem rname_f (c : Int) : towncrierref19_Name.f c = some (nameW c) := by
  cases hc : there c with
  | true =>
    obtain ⟨j, rfl, h1, h2⟩ := there_nat hc
    exact rname_in ⟨j, h2⟩ h1
  | false =>
    rw [nameW, hc, if_neg (by decide)]
    simp only [there, Bool.and_eq_false_iff, decide_eq_false_iff_not] at hc
    rw [towncrierref19_Name.f]
    by_cases h : c < 1
    · rw [if_pos h]; rfl
    · rw [if_neg h, if_pos (by omega)]; rfl
theorem rname_any (c : Int) (w : World) : Calls Tryd.prog 30 #[.int .i64 c] w fun e w' => e = .returned (.string (nameW c)) ∧ Below w.heap.size w w' :=
  towncrierref19_Name.calls c _ w (rname_f c)

theorem rworded_in : ∀ j : Fin 18, 1 ≤ j.val → towncrierref19_Worded.f (j.val : Int) = some (wordedW (j.val : Int)) := by decide +kernel
theorem rworded_f (c : Int) : towncrierref19_Worded.f c = some (wordedW c) := by
  cases hc : there c with
  | true =>
    obtain ⟨j, rfl, h1, h2⟩ := there_nat hc
    exact rworded_in ⟨j, h2⟩ h1
  | false =>
    rw [wordedW, hc, Bool.false_and]
    simp only [there, Bool.and_eq_false_iff, decide_eq_false_iff_not] at hc
    rw [towncrierref19_Worded.f]
    by_cases h : c ≥ 1
    · rw [if_pos h, if_neg (by omega), if_pos (by omega)]; simp; omega
    · rw [if_neg h, if_neg (by omega)]
theorem rworded_any (c : Int) (w : World) : Calls Tryd.prog 36 #[.int .i64 c] w fun e w' => e = .returned (.bool (wordedW c)) ∧ Below w.heap.size w w' :=
  (towncrierref19_Worded.calls c _ w (rworded_f c)).mono fun _ _ h => ⟨h.1, h.2.below⟩

theorem rnumbers_in : ∀ j : Fin 18, 1 ≤ j.val → towncrierref19_Numbers.f 3 (j.val : Int) = some (numbersW (j.val : Int)) := by decide +kernel
theorem rnumbers_f (c : Int) : towncrierref19_Numbers.f 3 c = some (numbersW c) := by
  cases hc : there c with
  | true =>
    obtain ⟨j, rfl, h1, h2⟩ := there_nat hc
    exact rnumbers_in ⟨j, h2⟩ h1
  | false =>
    rw [numbersW, hc, if_neg (by decide)]
    simp only [there, Bool.and_eq_false_iff, decide_eq_false_iff_not] at hc
    have hn : ∀ k : Int, 1 ≤ k → k ≤ 17 → ¬ c = k := fun k h1 h2 h => by omega
    have hb : ∀ k : Int, 1 ≤ k → k ≤ 17 → (c == k) = false := fun k h1 h2 => by rw [beq_eq_false_iff_ne]; exact hn k h1 h2
    simp only [towncrierref19_Numbers.f, towncrierref19_Numbers.j0, towncrierref19_Numbers.j1, hb _ (show (1 : Int) ≤ 11 by decide) (by decide), hb _ (show (1 : Int) ≤ 13 by decide) (by decide),
      if_neg (hn 10 (by decide) (by decide)), if_neg (hn 5 (by decide) (by decide)), if_neg (hn 1 (by decide) (by decide)), if_neg (hn 4 (by decide) (by decide)), if_neg (hn 6 (by decide) (by decide)), if_neg (hn 7 (by decide) (by decide)), if_neg (hn 8 (by decide) (by decide)), if_neg (hn 12 (by decide) (by decide)),
      if_neg (hn 2 (by decide) (by decide)), if_neg (hn 3 (by decide) (by decide)), if_neg (hn 9 (by decide) (by decide)), if_neg (hn 14 (by decide) (by decide)), if_neg (hn 15 (by decide) (by decide)), if_neg (hn 16 (by decide) (by decide)), if_neg (hn 17 (by decide) (by decide))]
    simp
theorem rnumbers_any (c : Int) (w : World) : Calls Tryd.prog 34 #[.int .i64 c] w fun e w' => e = .returned (.int .i64 (numbersW c)) ∧ Below w.heap.size w w' :=
  (towncrierref19_Numbers.calls 3 c _ w (rnumbers_f c)).mono fun _ _ h => ⟨h.1, h.2.below⟩

theorem rcode_l0 (s : ByteArray) : ∀ (m j : Nat), 1 ≤ j → j + m = 18 → towncrierref19_Code.l0 (m + 1) s j = some (codeAt (opNames.drop j) j s)
  | 0, j, h1, h => by
    obtain rfl : j = 18 := by omega
    rw [towncrierref19_Code.l0, if_neg (by decide)]
    rfl
  | m + 1, j, h1, h => by
    have hj : j < opNames.length := by rw [opNames_length]; omega
    have hn : nameW (j : Int) = opNames[j] := by
      have : there (j : Int) = true := by simp [there]; omega
      rw [nameW, if_pos this, Int.toNat_natCast, List.getD, List.getElem?_eq_getElem hj]; rfl
    have hw : wrap64 ((j : Int) + 1) = ((j + 1 : Nat) : Int) := by rw [IntWalk.wrap64_in _ (by omega)]; omega
    rw [towncrierref19_Code.l0, if_pos (by omega), rname_f, Option.bind_some, hn, hw, rcode_l0 s m (j + 1) (by omega) (by omega), List.drop_eq_getElem_cons hj, codeAt]
    by_cases he : opNames[j] = s
    · rw [if_pos (by rw [he]), if_pos ⟨h1, he⟩]
    · rw [if_neg (fun h => he (toList_inj h)), if_neg (fun h => he h.2)]
theorem rcode_f (s : ByteArray) : towncrierref19_Code.f 18 s = some (codeW s) := rcode_l0 s 17 1 (by decide) (by decide)
theorem rcode_any (s : ByteArray) (w : World) : Calls Tryd.prog 32 #[.string s] w fun e w' => e = .returned (.int .i64 (codeW s)) ∧ Below w.heap.size w w' :=
  towncrierref19_Code.calls 18 s _ w (rcode_f s)
end Go.Proofs.YtmjedjhgomlfiaaDoor

namespace Go.Proofs.YtmjedjhgomlfiaaDoor
open Go.RowKit Go.Proofs.YtmjedjhgomlfiaaDoorW.PrintWords Go.Lib

/-- What the world must hold for the rows' functions. -/
structure LayR (w : World) : Prop where
  pow : Lib.TabIs Tryd.prog w "internal/strconv.uint64pow10" .u64 Lib.pow10Tab
  names : w.var? Tryd.prog "towncrier/op.names" = some (opNames.map Value.string).toArray
theorem LayR.below {w w' : World} (h : LayR w) (hb : Below w.heap.size w w') : LayR w' := ⟨tab_below hb h.pow, var_below hb h.names⟩
theorem LayR.name {w : World} (h : LayR w) {j : Nat} {x : ByteArray} (hx : opNames[j]? = some x) : w.cell? ⟨0, j, none⟩ = some (.string x) := by
  have := World.var?_cell gNames h.names j
  simpa [hx] using this

/-- A number's text. -/
def numS (n : Int) : ByteArray := ofL (itoa n)
/-- A number of 64 bits. -/
def In64 (n : Int) : Prop := -9223372036854775808 ≤ n ∧ n ≤ 9223372036854775807
/-- A code's name, or ?. -/
def nameQ (c : Int) : ByteArray := if (nameW c).toList.isEmpty = true then ⟨#[63]⟩ else nameW c

set_option maxRecDepth 100000 in
theorem nameR_any (c : Int) (w : World) (hO : LayR w) : Calls Tryd.prog 29 #[.int .i64 c] w fun e w' => e = .returned (.string (nameW c)) ∧ w' = w := by
  have ht := there_any c w
  have hdef : nameW c = if there c = true then opNames.getD c.toNat ByteArray.empty else ByteArray.empty := rfl
  cases hc : there c with
  | false =>
    rw [hc] at ht hdef
    have HG := hide_ hdef
    clear hc hdef
    go_enter Tryd.func29, Tryd.ntmps29
    go_wp2_with (go_at_call 65; refine ht.mono ?_; rintro e w1 ⟨rfl, rfl⟩)
    go_ret
    exact ⟨by rw [HG.out]; rfl, rfl⟩
  | true =>
    rw [hc] at ht hdef
    obtain ⟨j, rfl, h1, h2⟩ := there_nat hc
    clear hc
    obtain ⟨x, hx⟩ : ∃ x, opNames[j]? = some x := ⟨_, List.getElem?_eq_getElem (by rw [opNames_length]; exact h2)⟩
    have hcell := hO.name hx
    have hg : opNames.getD j ByteArray.empty = x := by simp [List.getD, hx]
    rw [Int.toNat_natCast, hg] at hdef
    have HG := hide_ hdef
    clear hg hx hdef
    go_enter Tryd.func29, Tryd.ntmps29
    go_wp2_with (go_at_call 65; refine ht.mono ?_; rintro e w1 ⟨rfl, rfl⟩)
    go_ret
    exact ⟨by rw [HG.out]; rfl, rfl⟩
theorem nameQ_any (c : Int) (w : World) (hO : LayR w) : Calls Tryd.prog 59 #[.int .i64 c] w fun e w' => e = .returned (.string (nameQ c)) ∧ w' = w := by
  have hn := nameR_any c w hO
  unfold nameQ
  cases he : (nameW c).toList.isEmpty with
  | true =>
    generalize nameW c = x at *
    go_enter Tryd.func59, Tryd.ntmps59
    go_wp2_with (go_at_call 29; refine hn.mono ?_; rintro e w1 ⟨rfl, rfl⟩)
    go_ret
    exact ⟨rfl, rfl⟩
  | false =>
    generalize nameW c = x at *
    go_enter Tryd.func59, Tryd.ntmps59
    go_wp2_with (go_at_call 29; refine hn.mono ?_; rintro e w1 ⟨rfl, rfl⟩)
    go_ret
    exact ⟨rfl, rfl⟩

theorem C_int {w : World} {A : Option Addr} {l : List Int} (hA : (Kd.int .i64).C w A l.length l) {j : Nat} {x : Int} (hj : l[j]? = some x) : ∃ B o, A = some ⟨B, o, none⟩ ∧ B < w.heap.size ∧ w.cell? ⟨B, o + j, none⟩ = some (.int .i64 x) := by
  have hl : 0 < l.length := Nat.lt_of_le_of_lt (Nat.zero_le _) (List.getElem?_eq_some_iff.1 hj).1
  obtain ⟨ad, e, hcell⟩ := hA.2.2 hl
  subst e
  have hx : ∀ j p, l[j]? = some p → w.cell? (ad.add j) = some (.int .i64 p) := by
    intro j p hj
    obtain ⟨cs, h1, h2, h3⟩ := hcell j p hj
    have h2' : cs = [.int .i64 p] := h2
    have := h3 0 (.int .i64 p) (by rw [h2']; rfl)
    rwa [show j * (Kd.int .i64).sz + 0 = j from Nat.mul_one j] at this
  have h0 := hx 0 _ (List.getElem?_eq_getElem hl)
  rw [show ad.add 0 = ad from rfl] at h0
  obtain ⟨B, o, spot⟩ := ad
  obtain rfl : spot = none := World.cell?_spot h0
  have h5 := hx j x hj
  rw [Lib.add_plain] at h5
  exact ⟨B, o, rfl, World.block_lt_of_cell? w _ h5, h5⟩
theorem take_snocI {α : Type} (l : List α) (i : Nat) (x : α) (h : l[i]? = some x) : l.take (i + 1) = l.take i ++ [x] := by
  rw [List.take_add_one, h]; rfl

theorem C_strR {w : World} {A : Option Addr} {l : List ByteArray} (hA : Kd.string.C w A l.length l) (hl : l ≠ []) : ∃ B o, A = some ⟨B, o, none⟩ ∧ B < w.heap.size ∧ ∀ (j : Nat) (x : ByteArray), l[j]? = some x → w.cell? ⟨B, o + j, none⟩ = some (.string x) := by
  obtain ⟨ad, e, hcell⟩ := hA.2.2 (by cases l with | nil => exact absurd rfl hl | cons x r => simp)
  subst e
  have hx : ∀ j p, l[j]? = some p → w.cell? (ad.add j) = some (.string p) := by
    intro j p hj
    obtain ⟨cs, h1, h2, h3⟩ := hcell j p hj
    have h2' : cs = [.string p] := h2
    have := h3 0 (.string p) (by rw [h2']; rfl)
    rwa [show j * Kd.string.sz + 0 = j from Nat.mul_one j] at this
  obtain ⟨x, r, rfl⟩ : ∃ x r, l = x :: r := by cases l with | nil => exact absurd rfl hl | cons x r => exact ⟨x, r, rfl⟩
  have h0 := hx 0 x rfl
  rw [show ad.add 0 = ad from rfl] at h0
  obtain ⟨B, o, spot⟩ := ad
  obtain rfl : spot = none := World.cell?_spot h0
  refine ⟨B, o, rfl, World.block_lt_of_cell? w _ h0, fun j p hj => ?_⟩
  have := hx j p hj
  rwa [Lib.add_plain] at this
theorem name_sizeR (c : Int) : (nameW c).size ≤ 30 := by
  cases hc : there c with
  | false => rw [nameW, hc, if_neg (by decide)]; decide
  | true =>
    obtain ⟨j, rfl, h1, h2⟩ := there_nat hc
    have : ∀ j : Fin 18, (nameW (j.val : Int)).size ≤ 30 := by decide +kernel
    exact this ⟨j, h2⟩

theorem R_oneR (W : World) (base : Nat) (hb : base ≤ W.heap.size) (x : ByteArray) : Kd.string.R 9 (W.alloc (.cells #[.string x] 9)) base (fun _ => True) (.slice (some ⟨W.heap.size, 0, none⟩) 1 1) [x] := by
  refine Kd.R_of_own ?_ (fun _ _ => trivial)
  have h := World.ownsRow_lit (base := base) (e := 9) (size := 1) W #[.string x] 1 hb (by decide) rfl
  simpa [encs] using h

set_option maxRecDepth 100000 in
set_option maxHeartbeats 3200000 in
theorem texts58_any (xs : List Int) (A : Option Addr) (c : Nat) (w : World) (hO : LayR w) (hA : (Kd.int .i64).C w A xs.length xs) (_hc : xs.length ≤ c) (hx : ∀ n ∈ xs, In64 n) (hl : xs.length ≤ 100000) :
    Calls Tryd.prog 58 #[.slice A xs.length c] w fun e w' => ∃ v, e = .returned v ∧ Kd.string.R 9 w' w.heap.size (fun _ => True) v (xs.map numS) ∧ Below w.heap.size w w' := by
  go_enter Tryd.func58, Tryd.ntmps58
  go_wp2
  go_loopw [8, 3] (fun iv lv wr => ∃ (i : Nat) (v0 : Value), i ≤ xs.length ∧ iv = .int .i64 i ∧ v0 = lv ∧ Kd.string.R 9 wr w.heap.size (fun _ => True) v0 ((xs.take i).map numS) ∧ Below w.heap.size w wr) (fun iv _ _ => xs.length - (intOf iv).toNat)
  case atStart => exact ⟨0, _, Nat.zero_le _, rfl, rfl, Kd.R_nil _ _ _ _ _, Below.refl _ _⟩
  case round =>
    obtain ⟨i, v, hi, rfl, rfl, hR, hB⟩ := hrel
    by_cases hlt : i < xs.length
    · obtain ⟨m, hm⟩ : ∃ m, xs[i]? = some m := ⟨_, List.getElem?_eq_getElem hlt⟩
      obtain ⟨Bk, o, rfl, hBk, hcm0⟩ := C_int hA hm
      have hcm := (hB.cell (p := ⟨Bk, o + i, none⟩) hBk).trans hcm0
      have hmb := hx m (List.mem_of_getElem? hm)
      have htx := text_any m hmb.1 hmb.2 wr (hO.below hB).pow
      have HE : Hid ((xs.take (i + 1)).map numS = (xs.take i).map numS ++ [numS m]) := ⟨by rw [take_snocI _ _ _ hm, List.map_append]; rfl⟩
      have hll : ((xs.take i).map numS).length ≤ 100000 := by rw [List.length_map, List.length_take]; omega
      generalize ((xs.take i).map numS) = ls at *
      clear hm hmb hcm0
      go_wp2_with (first
        | (go_at_call 41; refine htx.mono ?_; rintro e w5 ⟨rfl, hB5⟩; have hC5 := below_then hB hB.size hB5; have hR5 := Kd.R_below hR hB5)
        | (at_builtin; refine Kd.R_append Kd.string (w0 := w) w.heap.size rfl (.tmp 12) (.tmp 15) 22 9 (.string ⟨#[]⟩) 16 rfl Tryd.underlying22 info9 rfl (by decide) (by omega) v ls (numS m) [.string (numS m)] (fun _ => True) (fun _ => False) rfl rfl rfl (fun _ hk => hk.elim) (fun _ _ => trivial) hR5 hC5 hC5.size (by omega) ?_; intro v1 w7 hR7 hB7 hg7 hat7; clear hg7 hat7))
      go_roundw
      case rel => exact ⟨i + 1, v1, hlt, by go_num, rfl, by rw [HE.out]; exact hR7, hB7⟩
      case measure => simp [intOf]; omega
    · obtain rfl : i = xs.length := by omega
      rw [List.take_length] at hR
      go_wp2
      go_ret
      exact ⟨v, rfl, hR, hB⟩
end Go.Proofs.YtmjedjhgomlfiaaDoor

set_option linter.unusedSimpArgs false
namespace Go.Proofs.YtmjedjhgomlfiaaDoor
open Go.RowKit Go.Proofs.YtmjedjhgomlfiaaDoorW.PrintWords Go.Lib

/-- An entry. -/
structure EntV where
  l : Int
  cb : Int
  d : Int
  cur : Int
  ph : Int
  tgt : Int
  rel : Int
  path : List Int
  f : FlagV
  code : Int
  err : Int
  ans : Int
def EntV.val (x : EntV) (A : Option Addr) (cap : Nat) : Value := .agg #[.int .i64 x.l, .int .i64 x.cb, .int .i64 x.d, .int .i64 x.cur, .int .i64 x.ph, .int .i64 x.tgt, .int .i64 x.rel, .slice A x.path.length cap, .bool x.f.b0, .bool x.f.b1, .bool x.f.b2, .bool x.f.b3, .bool x.f.b4, .bool x.f.b5, .bool x.f.b6, .bool x.f.b7, .int .i64 x.code, .int .i64 x.err, .int .i64 x.ans]
def EntV.seven (x : EntV) : List Int := [x.l, x.cb, x.d, x.cur, x.ph, x.tgt, x.rel]
/-- All numbers are of 64 bits. -/
structure EntV.In (x : EntV) : Prop where
  seven : ∀ n ∈ x.seven, In64 n
  path : ∀ n ∈ x.path, In64 n
  err : In64 x.err
  ans : In64 x.ans
/-- The words of an entry's row. -/
def rowT (x : EntV) : List ByteArray :=
  if x.l = 0 then (if x.err = 0 then [⟨#[100, 111]⟩, numS x.d, nameQ x.code, numS x.ans] else [⟨#[101, 114, 114, 111, 114]⟩, numS x.d, nameQ x.code, numS x.err])
  else ([⟨#[114, 117, 110]⟩] ++ x.seven.map numS ++ [flagT x.f, ⟨#[112, 97, 116, 104]⟩]) ++ x.path.map numS

theorem C_ints {xs : List Int} {w : World} {B : Nat} (hl : xs.length ≤ 9223372036854775807) (h : ∀ j x, xs[j]? = some x → w.cell? ⟨B, j, none⟩ = some (.int .i64 x)) : (Kd.int .i64).C w (some ⟨B, 0, none⟩) xs.length xs :=
  ⟨rfl, hl, fun _ => ⟨_, rfl, fun j p hj => ⟨[.int .i64 p], rfl, rfl, fun i u hu => by
    rcases i with _ | i
    · simp only [List.getElem?_cons_zero, Option.some.injEq] at hu
      subst hu
      show w.cell? ((⟨B, 0, none⟩ : Addr).add (j * 1 + 0)) = _
      rw [Lib.add_plain]
      simpa using h j p hj
    · simp at hu⟩⟩⟩
theorem C_seven (x : EntV) (W : World) : (Kd.int .i64).C (W.alloc (.cells #[.int .i64 x.l, .int .i64 x.cb, .int .i64 x.d, .int .i64 x.cur, .int .i64 x.ph, .int .i64 x.tgt, .int .i64 x.rel] 3)) (some ⟨W.heap.size, 0, none⟩) 7 x.seven := by
  refine C_ints (xs := x.seven) (by show (7 : Nat) ≤ _; decide) (fun j n hj => ?_)
  rw [blk_cell (heap_alloc_new W _)]
  have e : #[.int .i64 x.l, .int .i64 x.cb, .int .i64 x.d, .int .i64 x.cur, .int .i64 x.ph, .int .i64 x.tgt, .int .i64 x.rel] = (x.seven.map (Value.int .i64)).toArray := rfl
  rw [e]; simp [hj]
theorem C_pair (w : World) (a b : ByteArray) : Kd.string.C (w.alloc (.cells #[.string a, .string b] 9)) (some ⟨w.heap.size, 0, none⟩) 2 [a, b] := by
  refine C_of_cells (xs := [a, b]) (by show (2 : Nat) ≤ _; decide) (fun j x hj => ?_)
  rw [blk_cell (heap_alloc_new w _)]
  have e : (#[.string a, .string b] : Array Value) = (([a, b] : List ByteArray).map Value.string).toArray := rfl
  rw [e, List.getElem?_toArray, List.getElem?_map, hj]; rfl
theorem numS_size (n : Int) (h : In64 n) : (numS n).size ≤ 30 := by
  have := itoa_length_le n h.1 h.2
  rw [numS, ofL_size]
  omega
theorem flagsTo_len : ∀ (cs : List UInt8) (bs : List Bool), (flagsTo cs bs).length ≤ cs.length
  | [], bs => by simp [flagsTo]
  | c :: cs, [] => by simp [flagsTo]
  | c :: cs, b :: bs => by
    rw [flagsTo, List.length_append, List.length_cons]
    have := flagsTo_len cs bs
    cases b <;> simp <;> omega
theorem flagT_size (f : FlagV) : (flagT f).size ≤ 30 := by
  rw [flagT]
  split
  · decide
  · rw [ofL_size]
    have := flagsTo_len letters.data.toList f.bits
    have e : letters.data.toList.length = 8 := rfl
    rw [flagL]
    omega
theorem nameQ_size (c : Int) : (nameQ c).size ≤ 30 := by
  rw [nameQ]
  split
  · decide
  · exact name_sizeR c
theorem rowT_size {x : EntV} (hI : x.In) : ∀ y ∈ rowT x, y.size ≤ 30 := by
  intro y hy
  have h7 := hI.seven
  rw [rowT] at hy
  split at hy
  · split at hy
    · simp only [List.mem_cons, List.not_mem_nil, or_false] at hy
      rcases hy with rfl | rfl | rfl | rfl
      · decide
      · exact numS_size _ (h7 _ (by simp [EntV.seven]))
      · exact nameQ_size _
      · exact numS_size _ hI.ans
    · simp only [List.mem_cons, List.not_mem_nil, or_false] at hy
      rcases hy with rfl | rfl | rfl | rfl
      · decide
      · exact numS_size _ (h7 _ (by simp [EntV.seven]))
      · exact nameQ_size _
      · exact numS_size _ hI.err
  · rcases List.mem_append.1 hy with hy | hy
    · rcases List.mem_append.1 hy with hy | hy
      · rcases List.mem_append.1 hy with hy | hy
        · simp at hy; subst hy; decide
        · obtain ⟨n, hn, rfl⟩ := List.mem_map.1 hy
          exact numS_size _ (h7 n hn)
      · simp only [List.mem_cons, List.not_mem_nil, or_false] at hy
        rcases hy with rfl | rfl
        · exact flagT_size _
        · decide
    · obtain ⟨n, hn, rfl⟩ := List.mem_map.1 hy
      exact numS_size _ (hI.path n hn)
theorem rowT_length (x : EntV) : (rowT x).length ≤ 10 + x.path.length := by
  rw [rowT]
  split
  · split
    · show 4 ≤ _; omega
    · show 4 ≤ _; omega
  · simp [EntV.seven]; omega
theorem rowT_join {x : EntV} (hI : x.In) (hp : x.path.length ≤ 10000) : (Lib.join ((rowT x).map (·.data.toList)) [32]).length ≤ 1000000 := by
  have h1 := join_short 30 (rowT x) (rowT_size hI)
  have h2 := rowT_length x
  have h3 : (rowT x).length * (30 + 1) ≤ (10 + x.path.length) * (30 + 1) := Nat.mul_le_mul_right _ h2
  omega

set_option maxRecDepth 100000 in
set_option maxHeartbeats 3200000 in
theorem row_run (x : EntV) (A : Option Addr) (cap : Nat) (w : World) (hO : LayR w) (hA : (Kd.int .i64).C w A x.path.length x.path) (hc : x.path.length ≤ cap) (hI : x.In) (hp : x.path.length ≤ 10000) (hl : x.l ≠ 0) :
    Calls Tryd.prog 22 #[x.val A cap] w fun e w' => e = .returned (.string (joined (rowT x))) ∧ Below w.heap.size w w' := by
  have hj := rowT_join hI hp
  have hln := rowT_length x
  have hjn := fun B c W hB hc2 => join_any (rowT x) B c W hB hc2 (by omega) (by omega)
  have HT : Hid (rowT x = ([⟨#[114, 117, 110]⟩] ++ x.seven.map numS ++ [flagT x.f, ⟨#[112, 97, 116, 104]⟩]) ++ x.path.map numS) := ⟨by rw [rowT, if_neg hl]⟩
  have hbo := fun X => (Below.refl w.heap.size w).alloc (Nat.le_refl _) X
  have hX0 := fun X => heap_alloc_new w X
  have t7 := fun (g : Nat) (W : World) (h : LayR W) (hC : (Kd.int .i64).C W (some ⟨g, 0, none⟩) 7 x.seven) => texts58_any x.seven (some ⟨g, 0, none⟩) 7 W h hC (by show (7 : Nat) ≤ 7; decide) hI.seven (by show (7 : Nat) ≤ 100000; decide)
  change ∀ (g : Nat) (W : World) (h : LayR W) (hC : (Kd.int .i64).C W (some ⟨g, 0, none⟩) 7 x.seven), Calls Tryd.prog 58 #[.slice (some ⟨g, 0, none⟩) 7 7] W _ at t7
  have hfl := fun W => rowsFlags_any x.f W
  have tp := fun W h hC => texts58_any x.path A cap W h hC hc hI.path (by omega)
  have hC7 := fun W => C_seven x W
  simp only [FlagV.val] at hfl
  simp only [EntV.val]
  have hl2 : (x.l != 0) = true := by rw [bne_iff_ne]; exact hl
  clear hj
  have hW3 : Below w.heap.size w (((w.alloc (.cells #[.int .i64 x.l, .int .i64 x.cb, .int .i64 x.d, .int .i64 x.cur, .int .i64 x.ph, .int .i64 x.tgt, .int .i64 x.rel, .slice A x.path.length cap, .bool x.f.b0, .bool x.f.b1, .bool x.f.b2, .bool x.f.b3, .bool x.f.b4, .bool x.f.b5, .bool x.f.b6, .bool x.f.b7, .int .i64 x.code, .int .i64 x.err, .int .i64 x.ans] 34)).alloc (.cells #[.string ⟨#[114, 117, 110]⟩] 9)).alloc (.cells #[.int .i64 x.l, .int .i64 x.cb, .int .i64 x.d, .int .i64 x.cur, .int .i64 x.ph, .int .i64 x.tgt, .int .i64 x.rel] 3)) := (((hbo _).alloc (by simp) _).alloc (by simp; omega) _)
  have hcon := t7 _ _ (hO.below hW3) (hC7 ((w.alloc (.cells #[.int .i64 x.l, .int .i64 x.cb, .int .i64 x.d, .int .i64 x.cur, .int .i64 x.ph, .int .i64 x.tgt, .int .i64 x.rel, .slice A x.path.length cap, .bool x.f.b0, .bool x.f.b1, .bool x.f.b2, .bool x.f.b3, .bool x.f.b4, .bool x.f.b5, .bool x.f.b6, .bool x.f.b7, .int .i64 x.code, .int .i64 x.err, .int .i64 x.ans] 34)).alloc (.cells #[.string ⟨#[114, 117, 110]⟩] 9)))
  have hR1 := Kd.R_alloc (R_oneR (w.alloc (.cells #[.int .i64 x.l, .int .i64 x.cb, .int .i64 x.d, .int .i64 x.cur, .int .i64 x.ph, .int .i64 x.tgt, .int .i64 x.rel, .slice A x.path.length cap, .bool x.f.b0, .bool x.f.b1, .bool x.f.b2, .bool x.f.b3, .bool x.f.b4, .bool x.f.b5, .bool x.f.b6, .bool x.f.b7, .int .i64 x.code, .int .i64 x.err, .int .i64 x.ans] 34)) w.heap.size (by simp) ⟨#[114, 117, 110]⟩) (.cells #[.int .i64 x.l, .int .i64 x.cb, .int .i64 x.d, .int .i64 x.cur, .int .i64 x.ph, .int .i64 x.tgt, .int .i64 x.rel] 3)
  have hX1 := (heap_alloc_old _ (.cells #[.int .i64 x.l, .int .i64 x.cb, .int .i64 x.d, .int .i64 x.cur, .int .i64 x.ph, .int .i64 x.tgt, .int .i64 x.rel] 3) (blk_lt ((heap_alloc_old (w.alloc (.cells #[.int .i64 x.l, .int .i64 x.cb, .int .i64 x.d, .int .i64 x.cur, .int .i64 x.ph, .int .i64 x.tgt, .int .i64 x.rel, .slice A x.path.length cap, .bool x.f.b0, .bool x.f.b1, .bool x.f.b2, .bool x.f.b3, .bool x.f.b4, .bool x.f.b5, .bool x.f.b6, .bool x.f.b7, .int .i64 x.code, .int .i64 x.err, .int .i64 x.ans] 34)) (.cells #[.string ⟨#[114, 117, 110]⟩] 9) (blk_lt (hX0 (.cells #[.int .i64 x.l, .int .i64 x.cb, .int .i64 x.d, .int .i64 x.cur, .int .i64 x.ph, .int .i64 x.tgt, .int .i64 x.rel, .slice A x.path.length cap, .bool x.f.b0, .bool x.f.b1, .bool x.f.b2, .bool x.f.b3, .bool x.f.b4, .bool x.f.b5, .bool x.f.b6, .bool x.f.b7, .int .i64 x.code, .int .i64 x.err, .int .i64 x.ans] 34)))).trans (hX0 _)))).trans ((heap_alloc_old (w.alloc (.cells #[.int .i64 x.l, .int .i64 x.cb, .int .i64 x.d, .int .i64 x.cur, .int .i64 x.ph, .int .i64 x.tgt, .int .i64 x.rel, .slice A x.path.length cap, .bool x.f.b0, .bool x.f.b1, .bool x.f.b2, .bool x.f.b3, .bool x.f.b4, .bool x.f.b5, .bool x.f.b6, .bool x.f.b7, .int .i64 x.code, .int .i64 x.err, .int .i64 x.ans] 34)) (.cells #[.string ⟨#[114, 117, 110]⟩] 9) (blk_lt (hX0 (.cells #[.int .i64 x.l, .int .i64 x.cb, .int .i64 x.d, .int .i64 x.cur, .int .i64 x.ph, .int .i64 x.tgt, .int .i64 x.rel, .slice A x.path.length cap, .bool x.f.b0, .bool x.f.b1, .bool x.f.b2, .bool x.f.b3, .bool x.f.b4, .bool x.f.b5, .bool x.f.b6, .bool x.f.b7, .int .i64 x.code, .int .i64 x.err, .int .i64 x.ans] 34)))).trans (hX0 _))
  rw [World.size_alloc, World.size_alloc] at hcon
  rw [World.size_alloc] at hR1
  go_enter Tryd.func22, Tryd.ntmps22
  go_wp2_with (first
    | (go_at_call 58; refine hcon.mono ?_; clear hcon; rintro e w3 ⟨v3, rfl, hR3, hB3⟩; obtain ⟨A3, c3, hv3, hc3, hC3⟩ := Kd.R_reads hR3; have hv3 : v3 = .slice A3 7 c3 := hv3; subst hv3; have hD3 : Kd.string.C w3 A3 7 (x.seven.map numS) := hC3; have hE3 := below_then hW3 hW3.size hB3; have hS3 := Kd.R_below hR1 hB3; have hX3 := (hB3.block _ (blk_lt hX1)).trans hX1)
    | (at_builtin; refine Kd.R_append_row Value.string ByteArray.empty (w0 := w) w.heap.size rfl (.tmp 8) (.tmp 24) 22 9 (.string ⟨#[]⟩) 16 rfl Tryd.underlying22 info9 rfl (by decide) (.slice (some ⟨w.heap.size + 1, 0, none⟩) 1 1) [⟨#[114, 117, 110]⟩] (x.seven.map numS) A3 7 c3 (fun _ => True) rfl rfl (fun _ _ => trivial) hS3 hD3 hE3 hE3.size (by first | (simp [EntV.seven]; done) | (simp [EntV.seven]; omega)) ?_; intro v4 w4 hR4 hB4 hg4 hat4; have hX4 := blk_grown hX3 hg4 (Kd.R_ne hS3 hX3 (by decide)); clear hg4 hat4; have f8 : w4.cell? ⟨w.heap.size, 8, none⟩ = some (.bool x.f.b0) := blk_cell hX4 8; have f9 : w4.cell? ⟨w.heap.size, 9, none⟩ = some (.bool x.f.b1) := blk_cell hX4 9; have f10 : w4.cell? ⟨w.heap.size, 10, none⟩ = some (.bool x.f.b2) := blk_cell hX4 10; have f11 : w4.cell? ⟨w.heap.size, 11, none⟩ = some (.bool x.f.b3) := blk_cell hX4 11; have f12 : w4.cell? ⟨w.heap.size, 12, none⟩ = some (.bool x.f.b4) := blk_cell hX4 12; have f13 : w4.cell? ⟨w.heap.size, 13, none⟩ = some (.bool x.f.b5) := blk_cell hX4 13; have f14 : w4.cell? ⟨w.heap.size, 14, none⟩ = some (.bool x.f.b6) := blk_cell hX4 14; have f15 : w4.cell? ⟨w.heap.size, 15, none⟩ = some (.bool x.f.b7) := blk_cell hX4 15)
    | (go_at_call 24; refine (hfl _).mono ?_; rintro e w5 ⟨rfl, hB5⟩; have hE5 := below_then hB4 hB4.size hB5; have hS5 := Kd.R_alloc (Kd.R_below hR4 hB5) (.cells #[.string (flagT x.f), .string ⟨#[112, 97, 116, 104]⟩] 9); have hX5 := (heap_alloc_old _ (.cells #[.string (flagT x.f), .string ⟨#[112, 97, 116, 104]⟩] 9) (blk_lt ((hB5.block _ (blk_lt hX4)).trans hX4))).trans ((hB5.block _ (blk_lt hX4)).trans hX4); have hE6 := hE5.alloc hE5.size (.cells #[.string (flagT x.f), .string ⟨#[112, 97, 116, 104]⟩] 9); have hD5 := C_pair w5 (flagT x.f) ⟨#[112, 97, 116, 104]⟩)
    | (at_builtin; refine Kd.R_append_row Value.string ByteArray.empty (w0 := w) w.heap.size rfl (.tmp 26) (.tmp 30) 22 9 (.string ⟨#[]⟩) 16 rfl Tryd.underlying22 info9 rfl (by decide) v4 ([⟨#[114, 117, 110]⟩] ++ x.seven.map numS) [flagT x.f, ⟨#[112, 97, 116, 104]⟩] (some ⟨w5.heap.size, 0, none⟩) 2 2 (fun _ => True) rfl rfl (fun _ _ => trivial) hS5 hD5 hE6 hE6.size (by first | (simp [EntV.seven]; done) | (simp [EntV.seven]; omega)) ?_; intro v7 w7 hR7 hB7 hg7 hat7; have hX7 := blk_grown hX5 hg7 (Kd.R_ne hS5 hX5 (by decide)); clear hg7 hat7; have f7 : w7.cell? ⟨w.heap.size, 7, none⟩ = some (.slice A x.path.length cap) := blk_cell hX7 7; have hcp := tp w7 (hO.below hB7) (Kd.C_below hA hB7))
    | (go_at_call 58; refine hcp.mono ?_; rintro e w8 ⟨v8, rfl, hR8, hB8⟩; obtain ⟨A8, c8, hv8, hc8, hC8⟩ := Kd.R_reads hR8; rw [List.length_map] at hv8 hC8; subst hv8; have hE8 := below_then hB7 hB7.size hB8; have hS8 := Kd.R_below hR7 hB8)
    | (at_builtin; refine Kd.R_append_row Value.string ByteArray.empty (w0 := w) w.heap.size rfl (.tmp 32) (.tmp 35) 22 9 (.string ⟨#[]⟩) 16 rfl Tryd.underlying22 info9 rfl (by decide) v7 ([⟨#[114, 117, 110]⟩] ++ x.seven.map numS ++ [flagT x.f, ⟨#[112, 97, 116, 104]⟩]) (x.path.map numS) A8 x.path.length c8 (fun _ => True) rfl rfl (fun _ _ => trivial) hS8 hC8 hE8 hE8.size (by first | (simp [EntV.seven]; done) | (simp [EntV.seven]; omega)) ?_; intro v9 w9 hR9 hB9 hg9 hat9; rw [← HT.out] at hR9; obtain ⟨A9, c9, rfl, hc9, hC9⟩ := Kd.R_reads hR9; have hj9 := hjn A9 c9 w9 hC9 hc9)
    | (go_at_call 17; refine hj9.mono ?_; rintro e w10 ⟨rfl, hB10⟩))
  go_ret
  exact ⟨rfl, below_then hB9 hB9.size hB10⟩
end Go.Proofs.YtmjedjhgomlfiaaDoor

set_option linter.unusedSimpArgs false
namespace Go.Proofs.YtmjedjhgomlfiaaDoor
open Go.RowKit Go.Proofs.YtmjedjhgomlfiaaDoorW.PrintWords Go.Lib

/-- What a drawn region keeps of an entry. -/
def KeepE (x : EntV) (w W : World) : Prop := Below w.heap.size w W ∧ W.cell? ⟨w.heap.size, 2, none⟩ = some (.int .i64 x.d) ∧ W.cell? ⟨w.heap.size, 16, none⟩ = some (.int .i64 x.code) ∧ W.cell? ⟨w.heap.size, 17, none⟩ = some (.int .i64 x.err) ∧ W.cell? ⟨w.heap.size, 18, none⟩ = some (.int .i64 x.ans)
theorem keepR {x : EntV} {w W W2 : World} (h : KeepE x w W) (hb : Below W.heap.size W W2) : KeepE x w W2 := by
  obtain ⟨h1, h2, h3, h4, h5⟩ := h
  have hlt : w.heap.size < W.heap.size := World.block_lt_of_cell? W _ h2
  exact ⟨below_then h1 h1.size hb, (hb.cell (p := ⟨w.heap.size, 2, none⟩) hlt).trans h2, (hb.cell (p := ⟨w.heap.size, 16, none⟩) hlt).trans h3, (hb.cell (p := ⟨w.heap.size, 17, none⟩) hlt).trans h4, (hb.cell (p := ⟨w.heap.size, 18, none⟩) hlt).trans h5⟩
theorem C_four (w : World) (a b c d : ByteArray) : Kd.string.C (w.alloc (.cells #[.string a, .string b, .string c, .string d] 9)) (some ⟨w.heap.size, 0, none⟩) 4 [a, b, c, d] := by
  refine C_of_cells (xs := [a, b, c, d]) (by show (4 : Nat) ≤ _; decide) (fun j x hj => ?_)
  rw [blk_cell (heap_alloc_new w _)]
  have e : (#[.string a, .string b, .string c, .string d] : Array Value) = (([a, b, c, d] : List ByteArray).map Value.string).toArray := rfl
  rw [e, List.getElem?_toArray, List.getElem?_map, hj]; rfl

set_option maxRecDepth 100000 in
set_option maxHeartbeats 3200000 in
theorem row_do (x : EntV) (A : Option Addr) (cap : Nat) (w : World) (hO : LayR w) (hI : x.In) (hl : x.l = 0) (he : x.err = 0) :
    Calls Tryd.prog 22 #[x.val A cap] w fun e w' => e = .returned (.string (joined (rowT x))) ∧ Below w.heap.size w w' := by
  have HT : Hid (rowT x = [⟨#[100, 111]⟩, numS x.d, nameQ x.code, numS x.ans]) := ⟨by rw [rowT, if_pos hl]; first | rw [if_pos he] | rw [if_neg he]⟩
  have hsz : ∀ y ∈ rowT x, y.size ≤ 30 := rowT_size hI
  rw [HT.out] at hsz
  have hjs := join_short 30 _ hsz
  have hjc := fun (W : World) => join_any [⟨#[100, 111]⟩, numS x.d, nameQ x.code, numS x.ans] (some ⟨W.heap.size, 0, none⟩) 4 (W.alloc (.cells #[.string ⟨#[100, 111]⟩, .string (numS x.d), .string (nameQ x.code), .string (numS x.ans)] 9)) (C_four W _ _ _ _) (by show 4 ≤ 4; decide) (by show 4 ≤ _; decide) (Nat.le_trans hjs (by show 4 * 31 ≤ _; decide))
  change ∀ W : World, Calls Tryd.prog 17 #[.slice (some ⟨W.heap.size, 0, none⟩) 4 4] _ _ at hjc
  have hdi := hI.seven x.d (by simp [EntV.seven])
  have hla := hI.ans
  have ctd := fun W h => text_any x.d hdi.1 hdi.2 W h
  have cta := fun W h => text_any x.ans hla.1 hla.2 W h
  change ∀ W h, Calls Tryd.prog 41 #[.int .i64 x.d] W fun e w' => e = .returned (.string (numS x.d)) ∧ Below W.heap.size W w' at ctd
  change ∀ W h, Calls Tryd.prog 41 #[.int .i64 x.ans] W fun e w' => e = .returned (.string (numS x.ans)) ∧ Below W.heap.size W w' at cta
  have ctn := fun W h => nameQ_any x.code W h
  have hbo := fun X => (Below.refl w.heap.size w).alloc (Nat.le_refl _) X
  have hX0 := fun X => heap_alloc_new w X
  have heq : (x.err == 0) = true := by rw [he]; rfl
  have hle : (x.l != 0) = false := by rw [hl]; rfl
  clear hl he
  simp only [EntV.val]
  generalize numS x.d = sd at *
  generalize nameQ x.code = sn at *
  generalize numS x.ans = sa at *
  go_enter Tryd.func22, Tryd.ntmps22
  go_wp2
  refine wp_region_held_drew (S := fun W => KeepE x w W) (by kernel_rfl) ⟨pw_below_drewN (hbo _) 1, blk_cell (hX0 _) 2, blk_cell (hX0 _) 16, blk_cell (hX0 _) 17, blk_cell (hX0 _) 18⟩ (fun hHeld => ?_)
  refine wpAnyH_take (i := 0) (v := ?va0) rfl (by kernel_rfl) (by kernel_rfl) (by kernel_rfl) (fun _ _ _ h => h) (Or.inl ⟨by rfl, ?hya0⟩) (by assumption) ?resta0
  case hya0 =>
    intro w' hSw
    obtain ⟨_, hs2, hs16, hs17, hs18⟩ := hSw
    dsimp only [List.getElem_toArray, List.getElem_cons_zero, List.getElem_cons_succ]
    go_simp
    try (with_reducible rfl)
  try simp only [Act.put, List.getElem_toArray, List.getElem_cons_zero, List.getElem_cons_succ, List.setIfInBounds_toArray, List.set_cons_zero, List.set_cons_succ]
  refine wpAnyH_take (i := 1) (v := ?va1) rfl (by kernel_rfl) (by kernel_rfl) (by kernel_rfl) (fun _ _ _ h => h) (Or.inl ⟨by rfl, ?hya1⟩) (by assumption) ?resta1
  case hya1 =>
    intro w' hSw
    obtain ⟨_, hs2, hs16, hs17, hs18⟩ := hSw
    dsimp only [List.getElem_toArray, List.getElem_cons_zero, List.getElem_cons_succ]
    go_simp
    try (with_reducible rfl)
  try simp only [Act.put, List.getElem_toArray, List.getElem_cons_zero, List.getElem_cons_succ, List.setIfInBounds_toArray, List.set_cons_zero, List.set_cons_succ]
  refine wpAnyH_take (i := 3) (v := ?va3) rfl (by kernel_rfl) (by kernel_rfl) (by kernel_rfl) (fun _ _ _ h => h) (Or.inl ⟨by rfl, ?hya3⟩) (by assumption) ?resta3
  case hya3 =>
    intro w' hSw
    obtain ⟨_, hs2, hs16, hs17, hs18⟩ := hSw
    dsimp only [List.getElem_toArray, List.getElem_cons_zero, List.getElem_cons_succ]
    go_simp
    try (with_reducible rfl)
  try simp only [Act.put, List.getElem_toArray, List.getElem_cons_zero, List.getElem_cons_succ, List.setIfInBounds_toArray, List.set_cons_zero, List.set_cons_succ]
  refine wpAnyH_take (i := 4) (v := ?va4) rfl (by kernel_rfl) (by kernel_rfl) (by kernel_rfl) (fun _ _ _ h => h) (Or.inl ⟨by rfl, ?hya4⟩) (by assumption) ?resta4
  case hya4 =>
    intro w' hSw
    obtain ⟨_, hs2, hs16, hs17, hs18⟩ := hSw
    dsimp only [List.getElem_toArray, List.getElem_cons_zero, List.getElem_cons_succ]
    go_simp
    try (with_reducible rfl)
  try simp only [Act.put, List.getElem_toArray, List.getElem_cons_zero, List.getElem_cons_succ, List.setIfInBounds_toArray, List.set_cons_zero, List.set_cons_succ]
  refine wpAnyH_take (i := 6) (v := ?va6) rfl (by kernel_rfl) (by kernel_rfl) (by kernel_rfl) (fun _ _ _ h => h) (Or.inl ⟨by rfl, ?hya6⟩) (by assumption) ?resta6
  case hya6 =>
    intro w' hSw
    obtain ⟨_, hs2, hs16, hs17, hs18⟩ := hSw
    dsimp only [List.getElem_toArray, List.getElem_cons_zero, List.getElem_cons_succ]
    go_simp
    try (with_reducible rfl)
  try simp only [Act.put, List.getElem_toArray, List.getElem_cons_zero, List.getElem_cons_succ, List.setIfInBounds_toArray, List.set_cons_zero, List.set_cons_succ]
  refine wpAnyH_take (i := 7) (v := ?va7) rfl (by kernel_rfl) (by kernel_rfl) (by kernel_rfl) (fun _ _ _ h => h) (Or.inl ⟨by rfl, ?hya7⟩) (by assumption) ?resta7
  case hya7 =>
    intro w' hSw
    obtain ⟨_, hs2, hs16, hs17, hs18⟩ := hSw
    dsimp only [List.getElem_toArray, List.getElem_cons_zero, List.getElem_cons_succ]
    go_simp
    try (with_reducible rfl)
  try simp only [Act.put, List.getElem_toArray, List.getElem_cons_zero, List.getElem_cons_succ, List.setIfInBounds_toArray, List.set_cons_zero, List.set_cons_succ]
  refine wpAnyH_ready (rs := [2]) (by kernel_rfl) (by simp) ?_
  refine AllReadyH.cons rfl (fun K hK => ?_) AllReadyH.nil
  dsimp only [List.getElem_toArray, List.getElem_cons_zero, List.getElem_cons_succ]
  first | go_at_call 41 | (rw [if_pos (by rfl)]; go_at_call 41) | (rw [if_pos (by rfl)]; go_simp; go_at_call 41)
  refine (ctd _ (hO.below hHeld.1).pow).mono ?_
  rintro e w3 ⟨rfl, hBw3⟩
  have hHw3 := keepR hHeld hBw3
  clear hHeld
  dsimp only
  refine hK.out _ _ hHw3 (fun hHeld => ?_)
  clear hK
  try simp only [Act.put, List.getElem_toArray, List.getElem_cons_zero, List.getElem_cons_succ, List.setIfInBounds_toArray, List.set_cons_zero, List.set_cons_succ]
  refine wpAnyH_ready (rs := [5]) (by kernel_rfl) (by simp) ?_
  refine AllReadyH.cons rfl (fun K hK => ?_) AllReadyH.nil
  dsimp only [List.getElem_toArray, List.getElem_cons_zero, List.getElem_cons_succ]
  first | go_at_call 59 | (rw [if_pos (by rfl)]; go_at_call 59) | (rw [if_pos (by rfl)]; go_simp; go_at_call 59)
  refine (ctn _ (hO.below hHeld.1)).mono ?_
  rintro e w4 ⟨rfl, rfl⟩
  have hHw4 := hHeld
  clear hHeld
  dsimp only
  refine hK.out _ _ hHw4 (fun hHeld => ?_)
  clear hK
  try simp only [Act.put, List.getElem_toArray, List.getElem_cons_zero, List.getElem_cons_succ, List.setIfInBounds_toArray, List.set_cons_zero, List.set_cons_succ]
  refine wpAnyH_ready (rs := [8]) (by kernel_rfl) (by simp) ?_
  refine AllReadyH.cons rfl (fun K hK => ?_) AllReadyH.nil
  dsimp only [List.getElem_toArray, List.getElem_cons_zero, List.getElem_cons_succ]
  first | go_at_call 41 | (rw [if_pos (by rfl)]; go_at_call 41) | (rw [if_pos (by rfl)]; go_simp; go_at_call 41)
  refine (cta _ (hO.below hHeld.1).pow).mono ?_
  rintro e w5 ⟨rfl, hBw5⟩
  have hHw5 := keepR hHeld hBw5
  clear hHeld
  dsimp only
  refine hK.out _ _ hHw5 (fun hHeld => ?_)
  clear hK
  try simp only [Act.put, List.getElem_toArray, List.getElem_cons_zero, List.getElem_cons_succ, List.setIfInBounds_toArray, List.set_cons_zero, List.set_cons_succ]
  refine wpAnyH_ready (rs := [9]) (by kernel_rfl) (by simp) ?_
  refine AllReadyH.cons rfl (fun K hK => ?_) AllReadyH.nil
  dsimp only [List.getElem_toArray, List.getElem_cons_zero, List.getElem_cons_succ]
  go_simp
  refine hK.out _ _ (keepR hHeld (below_alloc (Below.refl _ _) _)) (fun hHeld => ?_)
  clear hK
  try simp only [Act.put, List.getElem_toArray, List.getElem_cons_zero, List.getElem_cons_succ, List.setIfInBounds_toArray, List.set_cons_zero, List.set_cons_succ]
  refine wpAnyH_ready (rs := [10]) (by kernel_rfl) (by simp) ?_
  refine AllReadyH.cons rfl (fun K hK => ?_) AllReadyH.nil
  dsimp only [List.getElem_toArray, List.getElem_cons_zero, List.getElem_cons_succ]
  first | go_at_call 17 | (rw [if_pos (by rfl)]; go_at_call 17) | (rw [if_pos (by rfl)]; go_simp; go_at_call 17)
  refine (hjc w5).mono ?_
  rintro e w6 ⟨rfl, hBw6⟩
  have hHw6 := keepR hHeld hBw6
  clear hHeld
  dsimp only
  refine hK.out _ _ hHw6 (fun hHeld => ?_)
  clear hK
  try simp only [Act.put, List.getElem_toArray, List.getElem_cons_zero, List.getElem_cons_succ, List.setIfInBounds_toArray, List.set_cons_zero, List.set_cons_succ]
  refine wpAnyH_take (i := 11) (v := ?va11) rfl (by kernel_rfl) (by kernel_rfl) (by kernel_rfl) (fun _ _ _ h => h) (Or.inl ⟨by rfl, ?hya11⟩) (by assumption) ?resta11
  case hya11 =>
    intro w' hSw
    obtain ⟨_, hs2, hs16, hs17, hs18⟩ := hSw
    dsimp only [List.getElem_toArray, List.getElem_cons_zero, List.getElem_cons_succ]
    go_simp
    try (with_reducible rfl)
  try simp only [Act.put, List.getElem_toArray, List.getElem_cons_zero, List.getElem_cons_succ, List.setIfInBounds_toArray, List.set_cons_zero, List.set_cons_succ]
  refine wpAnyH_done (by kernel_rfl) ?_ _
  go_wp2
  go_ret
  exact ⟨by rw [HT.out]; rfl, hHeld.1⟩

set_option maxRecDepth 100000 in
set_option maxHeartbeats 3200000 in
theorem row_err (x : EntV) (A : Option Addr) (cap : Nat) (w : World) (hO : LayR w) (hI : x.In) (hl : x.l = 0) (he : ¬ x.err = 0) :
    Calls Tryd.prog 22 #[x.val A cap] w fun e w' => e = .returned (.string (joined (rowT x))) ∧ Below w.heap.size w w' := by
  have HT : Hid (rowT x = [⟨#[101, 114, 114, 111, 114]⟩, numS x.d, nameQ x.code, numS x.err]) := ⟨by rw [rowT, if_pos hl]; first | rw [if_pos he] | rw [if_neg he]⟩
  have hsz : ∀ y ∈ rowT x, y.size ≤ 30 := rowT_size hI
  rw [HT.out] at hsz
  have hjs := join_short 30 _ hsz
  have hjc := fun (W : World) => join_any [⟨#[101, 114, 114, 111, 114]⟩, numS x.d, nameQ x.code, numS x.err] (some ⟨W.heap.size, 0, none⟩) 4 (W.alloc (.cells #[.string ⟨#[101, 114, 114, 111, 114]⟩, .string (numS x.d), .string (nameQ x.code), .string (numS x.err)] 9)) (C_four W _ _ _ _) (by show 4 ≤ 4; decide) (by show 4 ≤ _; decide) (Nat.le_trans hjs (by show 4 * 31 ≤ _; decide))
  change ∀ W : World, Calls Tryd.prog 17 #[.slice (some ⟨W.heap.size, 0, none⟩) 4 4] _ _ at hjc
  have hdi := hI.seven x.d (by simp [EntV.seven])
  have hla := hI.err
  have ctd := fun W h => text_any x.d hdi.1 hdi.2 W h
  have cta := fun W h => text_any x.err hla.1 hla.2 W h
  change ∀ W h, Calls Tryd.prog 41 #[.int .i64 x.d] W fun e w' => e = .returned (.string (numS x.d)) ∧ Below W.heap.size W w' at ctd
  change ∀ W h, Calls Tryd.prog 41 #[.int .i64 x.err] W fun e w' => e = .returned (.string (numS x.err)) ∧ Below W.heap.size W w' at cta
  have ctn := fun W h => nameQ_any x.code W h
  have hbo := fun X => (Below.refl w.heap.size w).alloc (Nat.le_refl _) X
  have hX0 := fun X => heap_alloc_new w X
  have heq : (x.err == 0) = false := by rw [beq_eq_false_iff_ne]; exact he
  have hle : (x.l != 0) = false := by rw [hl]; rfl
  clear hl he
  simp only [EntV.val]
  generalize numS x.d = sd at *
  generalize nameQ x.code = sn at *
  generalize numS x.err = sa at *
  go_enter Tryd.func22, Tryd.ntmps22
  go_wp2
  refine wp_region_held_drew (S := fun W => KeepE x w W) (by kernel_rfl) ⟨pw_below_drewN (hbo _) 1, blk_cell (hX0 _) 2, blk_cell (hX0 _) 16, blk_cell (hX0 _) 17, blk_cell (hX0 _) 18⟩ (fun hHeld => ?_)
  refine wpAnyH_take (i := 0) (v := ?vb0) rfl (by kernel_rfl) (by kernel_rfl) (by kernel_rfl) (fun _ _ _ h => h) (Or.inl ⟨by rfl, ?hyb0⟩) (by assumption) ?restb0
  case hyb0 =>
    intro w' hSw
    obtain ⟨_, hs2, hs16, hs17, hs18⟩ := hSw
    dsimp only [List.getElem_toArray, List.getElem_cons_zero, List.getElem_cons_succ]
    go_simp
    try (with_reducible rfl)
  try simp only [Act.put, List.getElem_toArray, List.getElem_cons_zero, List.getElem_cons_succ, List.setIfInBounds_toArray, List.set_cons_zero, List.set_cons_succ]
  refine wpAnyH_take (i := 1) (v := ?vb1) rfl (by kernel_rfl) (by kernel_rfl) (by kernel_rfl) (fun _ _ _ h => h) (Or.inl ⟨by rfl, ?hyb1⟩) (by assumption) ?restb1
  case hyb1 =>
    intro w' hSw
    obtain ⟨_, hs2, hs16, hs17, hs18⟩ := hSw
    dsimp only [List.getElem_toArray, List.getElem_cons_zero, List.getElem_cons_succ]
    go_simp
    try (with_reducible rfl)
  try simp only [Act.put, List.getElem_toArray, List.getElem_cons_zero, List.getElem_cons_succ, List.setIfInBounds_toArray, List.set_cons_zero, List.set_cons_succ]
  refine wpAnyH_take (i := 3) (v := ?vb3) rfl (by kernel_rfl) (by kernel_rfl) (by kernel_rfl) (fun _ _ _ h => h) (Or.inl ⟨by rfl, ?hyb3⟩) (by assumption) ?restb3
  case hyb3 =>
    intro w' hSw
    obtain ⟨_, hs2, hs16, hs17, hs18⟩ := hSw
    dsimp only [List.getElem_toArray, List.getElem_cons_zero, List.getElem_cons_succ]
    go_simp
    try (with_reducible rfl)
  try simp only [Act.put, List.getElem_toArray, List.getElem_cons_zero, List.getElem_cons_succ, List.setIfInBounds_toArray, List.set_cons_zero, List.set_cons_succ]
  refine wpAnyH_take (i := 4) (v := ?vb4) rfl (by kernel_rfl) (by kernel_rfl) (by kernel_rfl) (fun _ _ _ h => h) (Or.inl ⟨by rfl, ?hyb4⟩) (by assumption) ?restb4
  case hyb4 =>
    intro w' hSw
    obtain ⟨_, hs2, hs16, hs17, hs18⟩ := hSw
    dsimp only [List.getElem_toArray, List.getElem_cons_zero, List.getElem_cons_succ]
    go_simp
    try (with_reducible rfl)
  try simp only [Act.put, List.getElem_toArray, List.getElem_cons_zero, List.getElem_cons_succ, List.setIfInBounds_toArray, List.set_cons_zero, List.set_cons_succ]
  refine wpAnyH_take (i := 6) (v := ?vb6) rfl (by kernel_rfl) (by kernel_rfl) (by kernel_rfl) (fun _ _ _ h => h) (Or.inl ⟨by rfl, ?hyb6⟩) (by assumption) ?restb6
  case hyb6 =>
    intro w' hSw
    obtain ⟨_, hs2, hs16, hs17, hs18⟩ := hSw
    dsimp only [List.getElem_toArray, List.getElem_cons_zero, List.getElem_cons_succ]
    go_simp
    try (with_reducible rfl)
  try simp only [Act.put, List.getElem_toArray, List.getElem_cons_zero, List.getElem_cons_succ, List.setIfInBounds_toArray, List.set_cons_zero, List.set_cons_succ]
  refine wpAnyH_take (i := 7) (v := ?vb7) rfl (by kernel_rfl) (by kernel_rfl) (by kernel_rfl) (fun _ _ _ h => h) (Or.inl ⟨by rfl, ?hyb7⟩) (by assumption) ?restb7
  case hyb7 =>
    intro w' hSw
    obtain ⟨_, hs2, hs16, hs17, hs18⟩ := hSw
    dsimp only [List.getElem_toArray, List.getElem_cons_zero, List.getElem_cons_succ]
    go_simp
    try (with_reducible rfl)
  try simp only [Act.put, List.getElem_toArray, List.getElem_cons_zero, List.getElem_cons_succ, List.setIfInBounds_toArray, List.set_cons_zero, List.set_cons_succ]
  refine wpAnyH_ready (rs := [2]) (by kernel_rfl) (by simp) ?_
  refine AllReadyH.cons rfl (fun K hK => ?_) AllReadyH.nil
  dsimp only [List.getElem_toArray, List.getElem_cons_zero, List.getElem_cons_succ]
  first | go_at_call 41 | (rw [if_pos (by rfl)]; go_at_call 41) | (rw [if_pos (by rfl)]; go_simp; go_at_call 41)
  refine (ctd _ (hO.below hHeld.1).pow).mono ?_
  rintro e w3 ⟨rfl, hBw3⟩
  have hHw3 := keepR hHeld hBw3
  clear hHeld
  dsimp only
  refine hK.out _ _ hHw3 (fun hHeld => ?_)
  clear hK
  try simp only [Act.put, List.getElem_toArray, List.getElem_cons_zero, List.getElem_cons_succ, List.setIfInBounds_toArray, List.set_cons_zero, List.set_cons_succ]
  refine wpAnyH_ready (rs := [5]) (by kernel_rfl) (by simp) ?_
  refine AllReadyH.cons rfl (fun K hK => ?_) AllReadyH.nil
  dsimp only [List.getElem_toArray, List.getElem_cons_zero, List.getElem_cons_succ]
  first | go_at_call 59 | (rw [if_pos (by rfl)]; go_at_call 59) | (rw [if_pos (by rfl)]; go_simp; go_at_call 59)
  refine (ctn _ (hO.below hHeld.1)).mono ?_
  rintro e w4 ⟨rfl, rfl⟩
  have hHw4 := hHeld
  clear hHeld
  dsimp only
  refine hK.out _ _ hHw4 (fun hHeld => ?_)
  clear hK
  try simp only [Act.put, List.getElem_toArray, List.getElem_cons_zero, List.getElem_cons_succ, List.setIfInBounds_toArray, List.set_cons_zero, List.set_cons_succ]
  refine wpAnyH_ready (rs := [8]) (by kernel_rfl) (by simp) ?_
  refine AllReadyH.cons rfl (fun K hK => ?_) AllReadyH.nil
  dsimp only [List.getElem_toArray, List.getElem_cons_zero, List.getElem_cons_succ]
  first | go_at_call 41 | (rw [if_pos (by rfl)]; go_at_call 41) | (rw [if_pos (by rfl)]; go_simp; go_at_call 41)
  refine (cta _ (hO.below hHeld.1).pow).mono ?_
  rintro e w5 ⟨rfl, hBw5⟩
  have hHw5 := keepR hHeld hBw5
  clear hHeld
  dsimp only
  refine hK.out _ _ hHw5 (fun hHeld => ?_)
  clear hK
  try simp only [Act.put, List.getElem_toArray, List.getElem_cons_zero, List.getElem_cons_succ, List.setIfInBounds_toArray, List.set_cons_zero, List.set_cons_succ]
  refine wpAnyH_ready (rs := [9]) (by kernel_rfl) (by simp) ?_
  refine AllReadyH.cons rfl (fun K hK => ?_) AllReadyH.nil
  dsimp only [List.getElem_toArray, List.getElem_cons_zero, List.getElem_cons_succ]
  go_simp
  refine hK.out _ _ (keepR hHeld (below_alloc (Below.refl _ _) _)) (fun hHeld => ?_)
  clear hK
  try simp only [Act.put, List.getElem_toArray, List.getElem_cons_zero, List.getElem_cons_succ, List.setIfInBounds_toArray, List.set_cons_zero, List.set_cons_succ]
  refine wpAnyH_ready (rs := [10]) (by kernel_rfl) (by simp) ?_
  refine AllReadyH.cons rfl (fun K hK => ?_) AllReadyH.nil
  dsimp only [List.getElem_toArray, List.getElem_cons_zero, List.getElem_cons_succ]
  first | go_at_call 17 | (rw [if_pos (by rfl)]; go_at_call 17) | (rw [if_pos (by rfl)]; go_simp; go_at_call 17)
  refine (hjc w5).mono ?_
  rintro e w6 ⟨rfl, hBw6⟩
  have hHw6 := keepR hHeld hBw6
  clear hHeld
  dsimp only
  refine hK.out _ _ hHw6 (fun hHeld => ?_)
  clear hK
  try simp only [Act.put, List.getElem_toArray, List.getElem_cons_zero, List.getElem_cons_succ, List.setIfInBounds_toArray, List.set_cons_zero, List.set_cons_succ]
  refine wpAnyH_take (i := 11) (v := ?vb11) rfl (by kernel_rfl) (by kernel_rfl) (by kernel_rfl) (fun _ _ _ h => h) (Or.inl ⟨by rfl, ?hyb11⟩) (by assumption) ?restb11
  case hyb11 =>
    intro w' hSw
    obtain ⟨_, hs2, hs16, hs17, hs18⟩ := hSw
    dsimp only [List.getElem_toArray, List.getElem_cons_zero, List.getElem_cons_succ]
    go_simp
    try (with_reducible rfl)
  try simp only [Act.put, List.getElem_toArray, List.getElem_cons_zero, List.getElem_cons_succ, List.setIfInBounds_toArray, List.set_cons_zero, List.set_cons_succ]
  refine wpAnyH_done (by kernel_rfl) ?_ _
  go_wp2
  go_ret
  exact ⟨by rw [HT.out]; rfl, hHeld.1⟩

theorem row_any (x : EntV) (A : Option Addr) (cap : Nat) (w : World) (hO : LayR w) (hA : (Kd.int .i64).C w A x.path.length x.path) (hc : x.path.length ≤ cap) (hI : x.In) (hp : x.path.length ≤ 10000) :
    Calls Tryd.prog 22 #[x.val A cap] w fun e w' => e = .returned (.string (joined (rowT x))) ∧ Below w.heap.size w w' := by
  by_cases hl : x.l = 0
  · by_cases he : x.err = 0
    · exact row_do x A cap w hO hI hl he
    · exact row_err x A cap w hO hI hl he
  · exact row_run x A cap w hO hA hc hI hp hl
end Go.Proofs.YtmjedjhgomlfiaaDoor

set_option linter.unusedSimpArgs false
namespace Go.Proofs.YtmjedjhgomlfiaaDoor
open Go.RowKit Go.Proofs.YtmjedjhgomlfiaaDoorW.PrintWords Go.Lib

theorem own_wordR {y : ByteArray} (h : ∀ b ∈ y.data.toList, b ≠ 32) (hn : y.data.toList ≠ []) : words y = [y] := by
  rw [words_W, W_free h hn, ofL_data]
theorem decDigits_freeR : ∀ (u : Nat), (∀ b ∈ decDigits u, b ≠ 32) ∧ decDigits u ≠ [] := by
  intro u
  induction u using Nat.strongRecOn with
  | ind u ih =>
    rw [decDigits]
    have hd : ∀ k : Nat, k < 10 → UInt8.ofNat (48 + k) ≠ 32 := by decide
    by_cases h : u < 10
    · rw [dif_pos h]
      refine ⟨fun b hb => ?_, by simp⟩
      rw [List.mem_singleton] at hb; subst hb; exact hd u h
    · rw [dif_neg h]
      refine ⟨fun b hb => ?_, by simp⟩
      rcases List.mem_append.1 hb with hb | hb
      · exact (ih (u / 10) (by omega)).1 b hb
      · rw [List.mem_singleton] at hb; subst hb; exact hd (u % 10) (by omega)
theorem numS_word (n : Int) : words (numS n) = [numS n] := by
  refine own_wordR ?_ ?_
  · rw [numS, data_ofL, itoa]
    split
    · intro b hb
      rcases List.mem_cons.1 hb with h | h
      · subst h; decide
      · exact (decDigits_freeR _).1 b h
    · exact (decDigits_freeR _).1
  · rw [numS, data_ofL, itoa]
    split
    · simp
    · exact (decDigits_freeR _).2
theorem nameQ_word (c : Int) : words (nameQ c) = [nameQ c] := by
  have k1 : ∀ j : Fin 18, 1 ≤ j.val → (nameW (j.val : Int)).data.toList.all (fun b => b != 32) = true ∧ (nameW (j.val : Int)).data.toList.isEmpty = false ∧ (nameW (j.val : Int)).toList.isEmpty = false := by decide +kernel
  cases hc : there c with
  | true =>
    obtain ⟨j, rfl, h1, h2⟩ := there_nat hc
    obtain ⟨a1, a2, a3⟩ := k1 ⟨j, h2⟩ h1
    have e : nameQ (j : Int) = nameW (j : Int) := by rw [nameQ]; rw [show (nameW (j : Int)).toList.isEmpty = false from a3]; rfl
    rw [e]
    refine own_wordR (fun b hb => ?_) (fun hn => ?_)
    · have := List.all_eq_true.1 a1 b hb
      simpa using this
    · rw [show ((⟨j, h2⟩ : Fin 18).val : Int) = (j : Int) from rfl, hn] at a2
      cases a2
  | false =>
    have e : nameQ c = ⟨#[63]⟩ := by
      have e0 : nameW c = ByteArray.empty := by rw [nameW, hc, if_neg (by decide)]
      rw [nameQ, e0, if_pos (by rw [ByteArray.toList_eq]; rfl)]
    rw [e]
    exact own_wordR (by simp) (by simp)
theorem flagsTo_mem : ∀ (cs : List UInt8) (bs : List Bool) (b : UInt8), b ∈ flagsTo cs bs → b ∈ cs
  | [], bs, b, h => by simp [flagsTo] at h
  | c :: cs, [], b, h => by simp [flagsTo] at h
  | c :: cs, x :: bs, b, h => by
    rw [flagsTo] at h
    rcases List.mem_append.1 h with h | h
    · cases x
      · simp at h
      · simp at h; subst h; simp
    · exact List.mem_cons_of_mem _ (flagsTo_mem cs bs b h)
theorem flagT_word (f : FlagV) : words (flagT f) = [flagT f] := by
  rw [flagT]
  by_cases h : flagL f = []
  · rw [if_pos h]
    exact own_wordR (by simp) (by simp)
  · rw [if_neg h]
    refine own_wordR (fun b hb => ?_) h
    have := flagsTo_mem _ _ b hb
    have hl : ∀ b ∈ letters.data.toList, b ≠ 32 := by decide
    exact hl b this
theorem rowT_words (x : EntV) : ∀ y ∈ rowT x, words y = [y] := by
  have hr : ∀ y : ByteArray, y = ⟨#[100, 111]⟩ ∨ y = ⟨#[101, 114, 114, 111, 114]⟩ ∨ y = ⟨#[114, 117, 110]⟩ ∨ y = ⟨#[112, 97, 116, 104]⟩ → words y = [y] := by
    intro y hy
    rcases hy with rfl | rfl | rfl | rfl <;> exact own_wordR (by simp) (by simp)
  intro y hy
  rw [rowT] at hy
  split at hy
  · split at hy
    · simp only [List.mem_cons, List.not_mem_nil, or_false] at hy
      rcases hy with h | h | h | h
      · exact hr y (Or.inl h)
      · rw [h]; exact numS_word _
      · rw [h]; exact nameQ_word _
      · rw [h]; exact numS_word _
    · simp only [List.mem_cons, List.not_mem_nil, or_false] at hy
      rcases hy with h | h | h | h
      · exact hr y (Or.inr (Or.inl h))
      · rw [h]; exact numS_word _
      · rw [h]; exact nameQ_word _
      · rw [h]; exact numS_word _
  · rcases List.mem_append.1 hy with hy | hy
    · rcases List.mem_append.1 hy with hy | hy
      · rcases List.mem_append.1 hy with hy | hy
        · rw [List.mem_singleton] at hy; exact hr y (Or.inr (Or.inr (Or.inl hy)))
        · obtain ⟨n, hn, rfl⟩ := List.mem_map.1 hy
          exact numS_word n
      · simp only [List.mem_cons, List.not_mem_nil, or_false] at hy
        rcases hy with h | h
        · rw [h]; exact flagT_word _
        · exact hr y (Or.inr (Or.inr (Or.inr h)))
    · obtain ⟨n, hn, rfl⟩ := List.mem_map.1 hy
      exact numS_word n
theorem split_row (x : EntV) : words (joined (rowT x)) = rowT x := words_joined _ (rowT_words x)
theorem row_size {x : EntV} (hI : x.In) (hp : x.path.length ≤ 10000) : (joined (rowT x)).size ≤ 1000000 := by
  have := rowT_join hI hp
  rw [joined, ofL_size]
  exact this

/-- The example's entry. -/
def exE : EntV := ⟨0, 0, 0, 0, 0, 0, 0, [], ⟨false, false, false, false, false, false, false, false⟩, 4, 0, 0⟩
theorem row_ex : joined (rowT exE) = ⟨#[100, 111, 32, 48, 32, 97, 112, 112, 101, 110, 100, 32, 48]⟩ := by
  have h0 : itoa 0 = [48] := by rw [show (0 : Int) = ((0 : Nat) : Int) from rfl, itoa_nonneg, decDigits_one (by decide)]; rfl
  have hn : numS 0 = ⟨#[48]⟩ := by rw [numS, h0]; rfl
  have hq : nameQ 4 = ⟨#[97, 112, 112, 101, 110, 100]⟩ := by decide +kernel
  have e : rowT exE = [⟨#[100, 111]⟩, ⟨#[48]⟩, ⟨#[97, 112, 112, 101, 110, 100]⟩, ⟨#[48]⟩] := by
    show [⟨#[100, 111]⟩, numS 0, nameQ 4, numS 0] = _
    rw [hn, hq]
  rw [e]
  rfl
set_option maxRecDepth 100000 in
set_option maxHeartbeats 3200000 in
theorem rowAwake_any (w : World) (hO : LayR w) : Calls Tryd.prog 21 #[] w fun e w' => e = .returned (.bool true) ∧ Below w.heap.size w w' := by
  have hin : In64 0 := ⟨by decide, by decide⟩
  have hr := row_any exE none 0 w hO ⟨rfl, by decide, fun h => absurd h (by simp [exE])⟩ (Nat.le_refl _) ⟨fun n hn => by simp [EntV.seven, exE] at hn; subst hn; exact hin, fun n hn => by simp [exE] at hn, hin, hin⟩ (by decide)
  rw [row_ex] at hr
  simp only [EntV.val, exE, List.length_nil] at hr
  go_enter Tryd.func21, Tryd.ntmps21
  go_wp2_with (go_at_call 22; refine hr.mono ?_; rintro e w1 ⟨rfl, hB1⟩)
  go_ret
  exact ⟨rfl, hB1⟩
theorem info34 : (Tryd.prog.info? 34).map (·.size) = some 19 := by kernel_rfl
theorem rowT_run_len {x : EntV} (h : x.l ≠ 0) : (rowT x).length = 10 + x.path.length := by
  rw [rowT, if_neg h]
  simp [EntV.seven]
  omega
theorem rowT_run {x : EntV} (h : x.l ≠ 0) : (rowT x)[0]? = some ⟨#[114, 117, 110]⟩ ∧ (rowT x)[9]? = some ⟨#[112, 97, 116, 104]⟩ := by
  rw [rowT, if_neg h]
  exact ⟨rfl, rfl⟩

set_option maxRecDepth 100000 in
set_option maxHeartbeats 3200000 in
theorem rowsWords_any (x : EntV) (A : Option Addr) (cap : Nat) (w : World) (hO : LayR w) (hA : (Kd.int .i64).C w A x.path.length x.path) (hc : x.path.length ≤ cap) (hI : x.In) :
    Calls Tryd.prog 5 #[x.val A cap] w fun e w' => e = .returned (.bool true) ∧ Below w.heap.size w w' := by
  have hbo := fun X => (Below.refl w.heap.size w).alloc (Nat.le_refl _) X
  have hX0 := fun X => heap_alloc_new w X
  have haw := rowAwake_any _ (hO.below (hbo (.cells #[.int .i64 x.l, .int .i64 x.cb, .int .i64 x.d, .int .i64 x.cur, .int .i64 x.ph, .int .i64 x.tgt, .int .i64 x.rel, .slice A x.path.length cap, .bool x.f.b0, .bool x.f.b1, .bool x.f.b2, .bool x.f.b3, .bool x.f.b4, .bool x.f.b5, .bool x.f.b6, .bool x.f.b7, .int .i64 x.code, .int .i64 x.err, .int .i64 x.ans] 34)))
  by_cases h200 : 200 < x.path.length
  · have q : (200 : Int) < x.path.length := by omega
    simp only [EntV.val]
    go_enter Tryd.func5, Tryd.ntmps5
    go_wp2_with (go_at_call 21; refine haw.mono ?_; rintro e w1 ⟨rfl, hB1⟩; have hX1 := (hB1.block _ (blk_lt (hX0 _))).trans (hX0 _); have f7 : w1.cell? ⟨w.heap.size, 7, none⟩ = some (.slice A x.path.length cap) := blk_cell hX1 7)
    go_ret
    exact ⟨rfl, below_then (hbo _) (hbo _).size hB1⟩
  · have q : ¬ (200 : Int) < x.path.length := by omega
    have hrow := fun W (h : Below w.heap.size w W) => row_any x A cap W (hO.below h) (Kd.C_below hA h) hc hI (by omega)
    have hsz := row_size hI (by omega)
    have hsp := fun W => refSplit_len (joined (rowT x)) W (by omega)
    rw [split_row] at hsp
    simp only [EntV.val] at hrow ⊢
    generalize joined (rowT x) = tx at *
    by_cases hl : x.l = 0
    · have hl2 : (x.l != 0) = false := by rw [hl]; rfl
      by_cases he : x.err = 0
      · have heq : (x.err == 0) = true := by rw [he]; rfl
        have r0 : (rowT x)[0]? = some ⟨#[100, 111]⟩ := by rw [rowT, if_pos hl, if_pos he]; rfl
        have hlen : (rowT x).length = 4 := by rw [rowT, if_pos hl, if_pos he]; rfl
        generalize rowT x = ls at *
        clear hl he
        have hCell : ∀ (W : World) (A : Option Addr), Kd.string.C W A ls.length ls → ∃ B o, A = some ⟨B, o, none⟩ ∧ W.cell? ⟨B, o, none⟩ = some (.string ⟨#[100, 111]⟩) := fun W A hC => by
          obtain ⟨B, o, e, _, h⟩ := C_strR hC (by intro h; rw [h] at r0; simp at r0)
          exact ⟨B, o, e, h 0 _ r0⟩
        rw [hlen] at hsp hCell
        go_enter Tryd.func5, Tryd.ntmps5
        go_wp2_with (first
          | (go_at_call 21; refine haw.mono ?_; rintro e w1 ⟨rfl, hB1⟩; have hC1 := below_then (hbo _) (hbo _).size hB1; have hX1 := (hB1.block _ (blk_lt (hX0 _))).trans (hX0 _); have f7 : w1.cell? ⟨w.heap.size, 7, none⟩ = some (.slice A x.path.length cap) := blk_cell hX1 7)
          | (refine gate_ (.load 34 (.tmp 1)) rfl ?_; refine wpList_load_row rfl 34 (.tmp 1) rfl _ rfl _ _ _ _ hX1 Tryd.underlying34 rfl info34 ?_)
          | (go_at_call 22; refine (hrow _ hC1).mono ?_; rintro e w2 ⟨rfl, hB2⟩; have hC2 := below_then hC1 hC1.size hB2; have hX2 := (hB2.block _ (blk_lt hX1)).trans hX1)
          | (go_at_call 16; refine (hsp _).mono ?_; rintro e w3 ⟨A3, c3, rfl, hc3, hD3, hB3⟩; have hC3 := below_then hC2 hC2.size hB3; have hX3 := (hB3.block _ (blk_lt hX2)).trans hX2; obtain ⟨B3, o3, rfl, g0⟩ := hCell _ _ hD3; have f0 : w3.cell? ⟨w.heap.size, 0, none⟩ = some (.int .i64 x.l) := blk_cell hX3 0; have f17 : w3.cell? ⟨w.heap.size, 17, none⟩ = some (.int .i64 x.err) := blk_cell hX3 17; clear hD3))
        all_goals (go_quiet (fail))
        all_goals (go_wp2)
        all_goals (go_ret)
        all_goals (exact ⟨by simp [bne, heq], pw_below_drewN hC3 _⟩)
      · have heq : (x.err == 0) = false := by rw [beq_eq_false_iff_ne]; exact he
        have r0 : (rowT x)[0]? = some ⟨#[101, 114, 114, 111, 114]⟩ := by rw [rowT, if_pos hl, if_neg he]; rfl
        have hlen : (rowT x).length = 4 := by rw [rowT, if_pos hl, if_neg he]; rfl
        generalize rowT x = ls at *
        clear hl he
        have hCell : ∀ (W : World) (A : Option Addr), Kd.string.C W A ls.length ls → ∃ B o, A = some ⟨B, o, none⟩ ∧ W.cell? ⟨B, o, none⟩ = some (.string ⟨#[101, 114, 114, 111, 114]⟩) := fun W A hC => by
          obtain ⟨B, o, e, _, h⟩ := C_strR hC (by intro h; rw [h] at r0; simp at r0)
          exact ⟨B, o, e, h 0 _ r0⟩
        rw [hlen] at hsp hCell
        go_enter Tryd.func5, Tryd.ntmps5
        go_wp2_with (first
          | (go_at_call 21; refine haw.mono ?_; rintro e w1 ⟨rfl, hB1⟩; have hC1 := below_then (hbo _) (hbo _).size hB1; have hX1 := (hB1.block _ (blk_lt (hX0 _))).trans (hX0 _); have f7 : w1.cell? ⟨w.heap.size, 7, none⟩ = some (.slice A x.path.length cap) := blk_cell hX1 7)
          | (refine gate_ (.load 34 (.tmp 1)) rfl ?_; refine wpList_load_row rfl 34 (.tmp 1) rfl _ rfl _ _ _ _ hX1 Tryd.underlying34 rfl info34 ?_)
          | (go_at_call 22; refine (hrow _ hC1).mono ?_; rintro e w2 ⟨rfl, hB2⟩; have hC2 := below_then hC1 hC1.size hB2; have hX2 := (hB2.block _ (blk_lt hX1)).trans hX1)
          | (go_at_call 16; refine (hsp _).mono ?_; rintro e w3 ⟨A3, c3, rfl, hc3, hD3, hB3⟩; have hC3 := below_then hC2 hC2.size hB3; have hX3 := (hB3.block _ (blk_lt hX2)).trans hX2; obtain ⟨B3, o3, rfl, g0⟩ := hCell _ _ hD3; have f0 : w3.cell? ⟨w.heap.size, 0, none⟩ = some (.int .i64 x.l) := blk_cell hX3 0; have f17 : w3.cell? ⟨w.heap.size, 17, none⟩ = some (.int .i64 x.err) := blk_cell hX3 17; clear hD3))
        all_goals (go_quiet (fail))
        all_goals (go_wp2)
        all_goals (go_ret)
        all_goals (exact ⟨by simp [bne, heq], pw_below_drewN hC3 _⟩)
    · have hl2 : (x.l != 0) = true := by rw [bne_iff_ne]; exact hl
      obtain ⟨r0, r9⟩ := rowT_run hl
      have hlen := rowT_run_len hl
      generalize rowT x = ls at *
      clear hl
      have hCell : ∀ (W : World) (A : Option Addr), Kd.string.C W A ls.length ls → ∃ B o, A = some ⟨B, o, none⟩ ∧ W.cell? ⟨B, o, none⟩ = some (.string ⟨#[114, 117, 110]⟩) ∧ W.cell? ⟨B, o + 9, none⟩ = some (.string ⟨#[112, 97, 116, 104]⟩) := fun W A hC => by
        obtain ⟨B, o, e, _, h⟩ := C_strR hC (by intro h; rw [h] at r0; simp at r0)
        exact ⟨B, o, e, h 0 _ r0, h 9 _ r9⟩
      go_enter Tryd.func5, Tryd.ntmps5
      go_wp2_with (first
        | (go_at_call 21; refine haw.mono ?_; rintro e w1 ⟨rfl, hB1⟩; have hC1 := below_then (hbo _) (hbo _).size hB1; have hX1 := (hB1.block _ (blk_lt (hX0 _))).trans (hX0 _); have f7 : w1.cell? ⟨w.heap.size, 7, none⟩ = some (.slice A x.path.length cap) := blk_cell hX1 7)
        | (refine gate_ (.load 34 (.tmp 1)) rfl ?_; refine wpList_load_row rfl 34 (.tmp 1) rfl _ rfl _ _ _ _ hX1 Tryd.underlying34 rfl info34 ?_)
        | (go_at_call 22; refine (hrow _ hC1).mono ?_; rintro e w2 ⟨rfl, hB2⟩; have hC2 := below_then hC1 hC1.size hB2; have hX2 := (hB2.block _ (blk_lt hX1)).trans hX1)
        | (go_at_call 16; refine (hsp _).mono ?_; rintro e w3 ⟨A3, c3, rfl, hc3, hD3, hB3⟩; have hC3 := below_then hC2 hC2.size hB3; have hX3 := (hB3.block _ (blk_lt hX2)).trans hX2; obtain ⟨B3, o3, rfl, g0, g9⟩ := hCell _ _ hD3; have f0 : w3.cell? ⟨w.heap.size, 0, none⟩ = some (.int .i64 x.l) := blk_cell hX3 0; have f7b : w3.cell? ⟨w.heap.size, 7, none⟩ = some (.slice A x.path.length cap) := blk_cell hX3 7; clear hD3))
      all_goals (go_ret)
      all_goals (exact ⟨by simp, hC3⟩)
end Go.Proofs.YtmjedjhgomlfiaaDoor

set_option linter.unusedSimpArgs false
namespace Go.Proofs.YtmjedjhgomlfiaaDoor
open Go.RowKit Go.Proofs.YtmjedjhgomlfiaaDoorW.PrintWords Go.Lib Ref24

theorem joined_snocR (ls : List ByteArray) (y : ByteArray) (h : ls ≠ []) : joined (ls ++ [y]) = joined ls ++ (⟨#[32]⟩ : ByteArray) ++ y := by
  have hk : 0 < ls.length := List.length_pos_iff.2 h
  have hy : ((ls ++ [y]).map (·.data.toList))[ls.length]? = some y.data.toList := by simp
  have hj := join_take _ _ _ hy hk
  have e1 : ((ls ++ [y]).map (·.data.toList)).take (ls.length + 1) = (ls ++ [y]).map (·.data.toList) := List.take_of_length_le (by simp)
  have e2 : ((ls ++ [y]).map (·.data.toList)).take ls.length = ls.map (·.data.toList) := by simp
  rw [e1, e2] at hj
  apply toList_inj
  rw [ByteArray.toList_eq, ByteArray.toList_eq, ByteArray.data_append, ByteArray.data_append, Array.toList_append, Array.toList_append, joined, joined, data_ofL, data_ofL, hj]
  simp
theorem joined_oneR (y : ByteArray) : joined [y] = y := by
  apply toList_inj
  rw [ByteArray.toList_eq, ByteArray.toList_eq, joined, data_ofL]
  simp [Lib.join_one]
theorem rnameQ_f (c : Int) : towncrierref24_name.f c = some (nameQ c) := by
  rw [towncrierref24_name.f, rname_f, Option.bind_some, nameQ]
  by_cases h : (nameW c).toList = []
  · rw [if_pos h, if_pos (by rw [h]; rfl)]
  · rw [if_neg h, if_neg (fun q => h (List.isEmpty_iff.1 q))]
theorem rnameQ_any (c : Int) (w : World) : Calls Tryd.prog 60 #[.int .i64 c] w fun e w' => e = .returned (.string (nameQ c)) ∧ Below w.heap.size w w' :=
  towncrierref24_name.calls c _ w (rnameQ_f c)
theorem rflags_f : ∀ b0 b1 b2 b3 b4 b5 b6 b7 : Bool, towncrierref24_Flags.f 9 b0 b1 b2 b3 b4 b5 b6 b7 = some (flagT ⟨b0, b1, b2, b3, b4, b5, b6, b7⟩) := by decide +kernel
theorem rflags_any (f : FlagV) (w : World) : Calls Tryd.prog 25 #[f.val] w fun e w' => e = .returned (.string (flagT f)) ∧ Below w.heap.size w w' :=
  towncrierref24_Flags.calls 9 _ _ _ _ _ _ _ _ _ w (rflags_f f.b0 f.b1 f.b2 f.b3 f.b4 f.b5 f.b6 f.b7)
theorem cat_ext {a b : ByteArray} (h : a.data.toList = b.data.toList) : a = b := toList_inj (by rw [ByteArray.toList_eq, ByteArray.toList_eq, h])
theorem data_cat (a b : ByteArray) : (a ++ b).data.toList = a.data.toList ++ b.data.toList := by rw [ByteArray.data_append, Array.toList_append]
theorem joined_cons (a b : ByteArray) (r : List ByteArray) : (joined (a :: b :: r)).data.toList = a.data.toList ++ 32 :: (joined (b :: r)).data.toList := by
  rw [joined, joined, data_ofL, data_ofL, List.map_cons, List.map_cons, Lib.join_cons, Lib.join_cons]
  simp [Lib.joinTail]
theorem joined_four (a b c d : ByteArray) : (joined [a, b, c, d]).data.toList = a.data.toList ++ 32 :: (b.data.toList ++ 32 :: (c.data.toList ++ 32 :: d.data.toList)) := by
  rw [joined_cons, joined_cons, joined_cons, joined_oneR]

set_option maxRecDepth 100000 in
set_option maxHeartbeats 3200000 in
theorem rrow_do (x : EntV) (A : Option Addr) (cap : Nat) (w : World) (hI : x.In) (hl : x.l = 0) (he : x.err = 0) :
    Calls Tryd.prog 23 #[x.val A cap] w fun e w' => e = .returned (.string (joined (rowT x))) ∧ Below w.heap.size w w' := by
  have hdi := hI.seven x.d (by simp [EntV.seven])
  have hla := hI.ans
  have HT : Hid (joined (rowT x) = ((((⟨#[100, 111, 32]⟩ : ByteArray) ++ numS x.d) ++ (⟨#[32]⟩ : ByteArray) ++ nameQ x.code) ++ (⟨#[32]⟩ : ByteArray)) ++ numS x.ans) := ⟨by
    rw [rowT, if_pos hl]
    first | rw [if_pos he] | rw [if_neg he]
    apply cat_ext
    rw [joined_four]
    simp only [data_cat, List.append_assoc]
    rfl⟩
  have s1 := numS_size x.d hdi
  have s2 := nameQ_size x.code
  have s3 := numS_size x.ans hla
  have ctd := fun W => rtext_any x.d hdi.1 hdi.2 W
  have cta := fun W => rtext_any x.ans hla.1 hla.2 W
  change ∀ W : World, Calls Tryd.prog 43 #[.int .i64 x.d] W fun e w' => e = .returned (.string (numS x.d)) ∧ Below W.heap.size W w' at ctd
  change ∀ W : World, Calls Tryd.prog 43 #[.int .i64 x.ans] W fun e w' => e = .returned (.string (numS x.ans)) ∧ Below W.heap.size W w' at cta
  have ctn := fun W => rnameQ_any x.code W
  have hbo := fun X => (Below.refl w.heap.size w).alloc (Nat.le_refl _) X
  have hX0 := fun X => heap_alloc_new w X
  have heq : (x.err == 0) = true := by rw [he]; rfl
  have hle : (x.l != 0) = false := by rw [hl]; rfl
  clear hl he
  simp only [EntV.val]
  generalize numS x.d = sd at *
  generalize nameQ x.code = sn at *
  generalize numS x.ans = sa at *
  go_enter Tryd.func23, Tryd.ntmps23
  go_wp2
  refine wp_region_held_drew (S := fun W => KeepE x w W) (by kernel_rfl) ⟨pw_below_drewN (hbo _) 1, blk_cell (hX0 _) 2, blk_cell (hX0 _) 16, blk_cell (hX0 _) 17, blk_cell (hX0 _) 18⟩ (fun hHeld => ?_)
  refine wpAnyH_take (i := 0) (v := ?va0) rfl (by kernel_rfl) (by kernel_rfl) (by kernel_rfl) (fun _ _ _ h => h) (Or.inl ⟨by rfl, ?hya0⟩) (by assumption) ?resta0
  case hya0 =>
    intro w' hSw
    obtain ⟨_, hs2, hs16, hs17, hs18⟩ := hSw
    dsimp only [List.getElem_toArray, List.getElem_cons_zero, List.getElem_cons_succ]
    go_simp
    try (first | (with_reducible rfl) | (rw [if_neg (by omega)]))
  try simp only [Act.put, List.getElem_toArray, List.getElem_cons_zero, List.getElem_cons_succ, List.setIfInBounds_toArray, List.set_cons_zero, List.set_cons_succ]
  refine wpAnyH_take (i := 1) (v := ?va1) rfl (by kernel_rfl) (by kernel_rfl) (by kernel_rfl) (fun _ _ _ h => h) (Or.inl ⟨by rfl, ?hya1⟩) (by assumption) ?resta1
  case hya1 =>
    intro w' hSw
    obtain ⟨_, hs2, hs16, hs17, hs18⟩ := hSw
    dsimp only [List.getElem_toArray, List.getElem_cons_zero, List.getElem_cons_succ]
    go_simp
    try (first | (with_reducible rfl) | (rw [if_neg (by omega)]))
  try simp only [Act.put, List.getElem_toArray, List.getElem_cons_zero, List.getElem_cons_succ, List.setIfInBounds_toArray, List.set_cons_zero, List.set_cons_succ]
  refine wpAnyH_take (i := 5) (v := ?va5) rfl (by kernel_rfl) (by kernel_rfl) (by kernel_rfl) (fun _ _ _ h => h) (Or.inl ⟨by rfl, ?hya5⟩) (by assumption) ?resta5
  case hya5 =>
    intro w' hSw
    obtain ⟨_, hs2, hs16, hs17, hs18⟩ := hSw
    dsimp only [List.getElem_toArray, List.getElem_cons_zero, List.getElem_cons_succ]
    go_simp
    try (first | (with_reducible rfl) | (rw [if_neg (by omega)]))
  try simp only [Act.put, List.getElem_toArray, List.getElem_cons_zero, List.getElem_cons_succ, List.setIfInBounds_toArray, List.set_cons_zero, List.set_cons_succ]
  refine wpAnyH_take (i := 6) (v := ?va6) rfl (by kernel_rfl) (by kernel_rfl) (by kernel_rfl) (fun _ _ _ h => h) (Or.inl ⟨by rfl, ?hya6⟩) (by assumption) ?resta6
  case hya6 =>
    intro w' hSw
    obtain ⟨_, hs2, hs16, hs17, hs18⟩ := hSw
    dsimp only [List.getElem_toArray, List.getElem_cons_zero, List.getElem_cons_succ]
    go_simp
    try (first | (with_reducible rfl) | (rw [if_neg (by omega)]))
  try simp only [Act.put, List.getElem_toArray, List.getElem_cons_zero, List.getElem_cons_succ, List.setIfInBounds_toArray, List.set_cons_zero, List.set_cons_succ]
  refine wpAnyH_take (i := 10) (v := ?va10) rfl (by kernel_rfl) (by kernel_rfl) (by kernel_rfl) (fun _ _ _ h => h) (Or.inl ⟨by rfl, ?hya10⟩) (by assumption) ?resta10
  case hya10 =>
    intro w' hSw
    obtain ⟨_, hs2, hs16, hs17, hs18⟩ := hSw
    dsimp only [List.getElem_toArray, List.getElem_cons_zero, List.getElem_cons_succ]
    go_simp
    try (first | (with_reducible rfl) | (rw [if_neg (by omega)]))
  try simp only [Act.put, List.getElem_toArray, List.getElem_cons_zero, List.getElem_cons_succ, List.setIfInBounds_toArray, List.set_cons_zero, List.set_cons_succ]
  refine wpAnyH_take (i := 11) (v := ?va11) rfl (by kernel_rfl) (by kernel_rfl) (by kernel_rfl) (fun _ _ _ h => h) (Or.inl ⟨by rfl, ?hya11⟩) (by assumption) ?resta11
  case hya11 =>
    intro w' hSw
    obtain ⟨_, hs2, hs16, hs17, hs18⟩ := hSw
    dsimp only [List.getElem_toArray, List.getElem_cons_zero, List.getElem_cons_succ]
    go_simp
    try (first | (with_reducible rfl) | (rw [if_neg (by omega)]))
  try simp only [Act.put, List.getElem_toArray, List.getElem_cons_zero, List.getElem_cons_succ, List.setIfInBounds_toArray, List.set_cons_zero, List.set_cons_succ]
  refine wpAnyH_ready (rs := [2]) (by kernel_rfl) (by simp) ?_
  refine AllReadyH.cons rfl (fun K hK => ?_) AllReadyH.nil
  dsimp only [List.getElem_toArray, List.getElem_cons_zero, List.getElem_cons_succ]
  first | go_at_call 43 | (rw [if_pos (by rfl)]; go_at_call 43) | (rw [if_pos (by rfl)]; go_simp; go_at_call 43)
  refine (ctd _).mono ?_
  rintro e w3 ⟨rfl, hBw3⟩
  have hHw3 := keepR hHeld hBw3
  clear hHeld
  dsimp only
  refine hK.out _ _ hHw3 (fun hHeld => ?_)
  clear hK
  try simp only [Act.put, List.getElem_toArray, List.getElem_cons_zero, List.getElem_cons_succ, List.setIfInBounds_toArray, List.set_cons_zero, List.set_cons_succ]
  refine wpAnyH_take (i := 3) (v := ?va3) rfl (by kernel_rfl) (by kernel_rfl) (by kernel_rfl) (fun _ _ _ h => h) (Or.inl ⟨by rfl, ?hya3⟩) (by assumption) ?resta3
  case hya3 =>
    intro w' hSw
    obtain ⟨_, hs2, hs16, hs17, hs18⟩ := hSw
    dsimp only [List.getElem_toArray, List.getElem_cons_zero, List.getElem_cons_succ]
    go_simp
    try (first | (with_reducible rfl) | (rw [if_neg (by omega)]))
  try simp only [Act.put, List.getElem_toArray, List.getElem_cons_zero, List.getElem_cons_succ, List.setIfInBounds_toArray, List.set_cons_zero, List.set_cons_succ]
  refine wpAnyH_take (i := 4) (v := ?va4) rfl (by kernel_rfl) (by kernel_rfl) (by kernel_rfl) (fun _ _ _ h => h) (Or.inl ⟨by rfl, ?hya4⟩) (by assumption) ?resta4
  case hya4 =>
    intro w' hSw
    obtain ⟨_, hs2, hs16, hs17, hs18⟩ := hSw
    dsimp only [List.getElem_toArray, List.getElem_cons_zero, List.getElem_cons_succ]
    go_simp
    try (first | (with_reducible rfl) | (rw [if_neg (by omega)]))
  try simp only [Act.put, List.getElem_toArray, List.getElem_cons_zero, List.getElem_cons_succ, List.setIfInBounds_toArray, List.set_cons_zero, List.set_cons_succ]
  refine wpAnyH_ready (rs := [7]) (by kernel_rfl) (by simp) ?_
  refine AllReadyH.cons rfl (fun K hK => ?_) AllReadyH.nil
  dsimp only [List.getElem_toArray, List.getElem_cons_zero, List.getElem_cons_succ]
  first | go_at_call 60 | (rw [if_pos (by rfl)]; go_at_call 60) | (rw [if_pos (by rfl)]; go_simp; go_at_call 60)
  refine (ctn _).mono ?_
  rintro e w4 ⟨rfl, hBw4⟩
  have hHw4 := keepR hHeld hBw4
  clear hHeld
  dsimp only
  refine hK.out _ _ hHw4 (fun hHeld => ?_)
  clear hK
  try simp only [Act.put, List.getElem_toArray, List.getElem_cons_zero, List.getElem_cons_succ, List.setIfInBounds_toArray, List.set_cons_zero, List.set_cons_succ]
  refine wpAnyH_take (i := 8) (v := ?va8) rfl (by kernel_rfl) (by kernel_rfl) (by kernel_rfl) (fun _ _ _ h => h) (Or.inl ⟨by rfl, ?hya8⟩) (by assumption) ?resta8
  case hya8 =>
    intro w' hSw
    obtain ⟨_, hs2, hs16, hs17, hs18⟩ := hSw
    dsimp only [List.getElem_toArray, List.getElem_cons_zero, List.getElem_cons_succ]
    go_simp
    try (first | (with_reducible rfl) | (rw [if_neg (by omega)]))
  try simp only [Act.put, List.getElem_toArray, List.getElem_cons_zero, List.getElem_cons_succ, List.setIfInBounds_toArray, List.set_cons_zero, List.set_cons_succ]
  refine wpAnyH_take (i := 9) (v := ?va9) rfl (by kernel_rfl) (by kernel_rfl) (by kernel_rfl) (fun _ _ _ h => h) (Or.inl ⟨by rfl, ?hya9⟩) (by assumption) ?resta9
  case hya9 =>
    intro w' hSw
    obtain ⟨_, hs2, hs16, hs17, hs18⟩ := hSw
    dsimp only [List.getElem_toArray, List.getElem_cons_zero, List.getElem_cons_succ]
    go_simp
    try (first | (with_reducible rfl) | (rw [if_neg (by omega)]))
  try simp only [Act.put, List.getElem_toArray, List.getElem_cons_zero, List.getElem_cons_succ, List.setIfInBounds_toArray, List.set_cons_zero, List.set_cons_succ]
  refine wpAnyH_ready (rs := [12]) (by kernel_rfl) (by simp) ?_
  refine AllReadyH.cons rfl (fun K hK => ?_) AllReadyH.nil
  dsimp only [List.getElem_toArray, List.getElem_cons_zero, List.getElem_cons_succ]
  first | go_at_call 43 | (rw [if_pos (by rfl)]; go_at_call 43) | (rw [if_pos (by rfl)]; go_simp; go_at_call 43)
  refine (cta _).mono ?_
  rintro e w5 ⟨rfl, hBw5⟩
  have hHw5 := keepR hHeld hBw5
  clear hHeld
  dsimp only
  refine hK.out _ _ hHw5 (fun hHeld => ?_)
  clear hK
  try simp only [Act.put, List.getElem_toArray, List.getElem_cons_zero, List.getElem_cons_succ, List.setIfInBounds_toArray, List.set_cons_zero, List.set_cons_succ]
  refine wpAnyH_take (i := 13) (v := ?va13) rfl (by kernel_rfl) (by kernel_rfl) (by kernel_rfl) (fun _ _ _ h => h) (Or.inl ⟨by rfl, ?hya13⟩) (by assumption) ?resta13
  case hya13 =>
    intro w' hSw
    obtain ⟨_, hs2, hs16, hs17, hs18⟩ := hSw
    dsimp only [List.getElem_toArray, List.getElem_cons_zero, List.getElem_cons_succ]
    go_simp
    try (first | (with_reducible rfl) | (rw [if_neg (by omega)]))
  try simp only [Act.put, List.getElem_toArray, List.getElem_cons_zero, List.getElem_cons_succ, List.setIfInBounds_toArray, List.set_cons_zero, List.set_cons_succ]
  refine wpAnyH_take (i := 14) (v := ?va14) rfl (by kernel_rfl) (by kernel_rfl) (by kernel_rfl) (fun _ _ _ h => h) (Or.inl ⟨by rfl, ?hya14⟩) (by assumption) ?resta14
  case hya14 =>
    intro w' hSw
    obtain ⟨_, hs2, hs16, hs17, hs18⟩ := hSw
    dsimp only [List.getElem_toArray, List.getElem_cons_zero, List.getElem_cons_succ]
    go_simp
    try (first | (with_reducible rfl) | (rw [if_neg (by omega)]))
  try simp only [Act.put, List.getElem_toArray, List.getElem_cons_zero, List.getElem_cons_succ, List.setIfInBounds_toArray, List.set_cons_zero, List.set_cons_succ]
  refine wpAnyH_done (by kernel_rfl) ?_ _
  go_wp2
  go_ret
  exact ⟨by rw [HT.out]; rfl, hHeld.1⟩

set_option maxRecDepth 100000 in
set_option maxHeartbeats 3200000 in
theorem rrow_err (x : EntV) (A : Option Addr) (cap : Nat) (w : World) (hI : x.In) (hl : x.l = 0) (he : ¬ x.err = 0) :
    Calls Tryd.prog 23 #[x.val A cap] w fun e w' => e = .returned (.string (joined (rowT x))) ∧ Below w.heap.size w w' := by
  have hdi := hI.seven x.d (by simp [EntV.seven])
  have hla := hI.err
  have HT : Hid (joined (rowT x) = ((((⟨#[101, 114, 114, 111, 114, 32]⟩ : ByteArray) ++ numS x.d) ++ (⟨#[32]⟩ : ByteArray) ++ nameQ x.code) ++ (⟨#[32]⟩ : ByteArray)) ++ numS x.err) := ⟨by
    rw [rowT, if_pos hl]
    first | rw [if_pos he] | rw [if_neg he]
    apply cat_ext
    rw [joined_four]
    simp only [data_cat, List.append_assoc]
    rfl⟩
  have s1 := numS_size x.d hdi
  have s2 := nameQ_size x.code
  have s3 := numS_size x.err hla
  have ctd := fun W => rtext_any x.d hdi.1 hdi.2 W
  have cta := fun W => rtext_any x.err hla.1 hla.2 W
  change ∀ W : World, Calls Tryd.prog 43 #[.int .i64 x.d] W fun e w' => e = .returned (.string (numS x.d)) ∧ Below W.heap.size W w' at ctd
  change ∀ W : World, Calls Tryd.prog 43 #[.int .i64 x.err] W fun e w' => e = .returned (.string (numS x.err)) ∧ Below W.heap.size W w' at cta
  have ctn := fun W => rnameQ_any x.code W
  have hbo := fun X => (Below.refl w.heap.size w).alloc (Nat.le_refl _) X
  have hX0 := fun X => heap_alloc_new w X
  have heq : (x.err == 0) = false := by rw [beq_eq_false_iff_ne]; exact he
  have hle : (x.l != 0) = false := by rw [hl]; rfl
  clear hl he
  simp only [EntV.val]
  generalize numS x.d = sd at *
  generalize nameQ x.code = sn at *
  generalize numS x.err = sa at *
  go_enter Tryd.func23, Tryd.ntmps23
  go_wp2
  refine wp_region_held_drew (S := fun W => KeepE x w W) (by kernel_rfl) ⟨pw_below_drewN (hbo _) 1, blk_cell (hX0 _) 2, blk_cell (hX0 _) 16, blk_cell (hX0 _) 17, blk_cell (hX0 _) 18⟩ (fun hHeld => ?_)
  refine wpAnyH_take (i := 0) (v := ?vb0) rfl (by kernel_rfl) (by kernel_rfl) (by kernel_rfl) (fun _ _ _ h => h) (Or.inl ⟨by rfl, ?hyb0⟩) (by assumption) ?restb0
  case hyb0 =>
    intro w' hSw
    obtain ⟨_, hs2, hs16, hs17, hs18⟩ := hSw
    dsimp only [List.getElem_toArray, List.getElem_cons_zero, List.getElem_cons_succ]
    go_simp
    try (first | (with_reducible rfl) | (rw [if_neg (by omega)]))
  try simp only [Act.put, List.getElem_toArray, List.getElem_cons_zero, List.getElem_cons_succ, List.setIfInBounds_toArray, List.set_cons_zero, List.set_cons_succ]
  refine wpAnyH_take (i := 1) (v := ?vb1) rfl (by kernel_rfl) (by kernel_rfl) (by kernel_rfl) (fun _ _ _ h => h) (Or.inl ⟨by rfl, ?hyb1⟩) (by assumption) ?restb1
  case hyb1 =>
    intro w' hSw
    obtain ⟨_, hs2, hs16, hs17, hs18⟩ := hSw
    dsimp only [List.getElem_toArray, List.getElem_cons_zero, List.getElem_cons_succ]
    go_simp
    try (first | (with_reducible rfl) | (rw [if_neg (by omega)]))
  try simp only [Act.put, List.getElem_toArray, List.getElem_cons_zero, List.getElem_cons_succ, List.setIfInBounds_toArray, List.set_cons_zero, List.set_cons_succ]
  refine wpAnyH_take (i := 5) (v := ?vb5) rfl (by kernel_rfl) (by kernel_rfl) (by kernel_rfl) (fun _ _ _ h => h) (Or.inl ⟨by rfl, ?hyb5⟩) (by assumption) ?restb5
  case hyb5 =>
    intro w' hSw
    obtain ⟨_, hs2, hs16, hs17, hs18⟩ := hSw
    dsimp only [List.getElem_toArray, List.getElem_cons_zero, List.getElem_cons_succ]
    go_simp
    try (first | (with_reducible rfl) | (rw [if_neg (by omega)]))
  try simp only [Act.put, List.getElem_toArray, List.getElem_cons_zero, List.getElem_cons_succ, List.setIfInBounds_toArray, List.set_cons_zero, List.set_cons_succ]
  refine wpAnyH_take (i := 6) (v := ?vb6) rfl (by kernel_rfl) (by kernel_rfl) (by kernel_rfl) (fun _ _ _ h => h) (Or.inl ⟨by rfl, ?hyb6⟩) (by assumption) ?restb6
  case hyb6 =>
    intro w' hSw
    obtain ⟨_, hs2, hs16, hs17, hs18⟩ := hSw
    dsimp only [List.getElem_toArray, List.getElem_cons_zero, List.getElem_cons_succ]
    go_simp
    try (first | (with_reducible rfl) | (rw [if_neg (by omega)]))
  try simp only [Act.put, List.getElem_toArray, List.getElem_cons_zero, List.getElem_cons_succ, List.setIfInBounds_toArray, List.set_cons_zero, List.set_cons_succ]
  refine wpAnyH_take (i := 10) (v := ?vb10) rfl (by kernel_rfl) (by kernel_rfl) (by kernel_rfl) (fun _ _ _ h => h) (Or.inl ⟨by rfl, ?hyb10⟩) (by assumption) ?restb10
  case hyb10 =>
    intro w' hSw
    obtain ⟨_, hs2, hs16, hs17, hs18⟩ := hSw
    dsimp only [List.getElem_toArray, List.getElem_cons_zero, List.getElem_cons_succ]
    go_simp
    try (first | (with_reducible rfl) | (rw [if_neg (by omega)]))
  try simp only [Act.put, List.getElem_toArray, List.getElem_cons_zero, List.getElem_cons_succ, List.setIfInBounds_toArray, List.set_cons_zero, List.set_cons_succ]
  refine wpAnyH_take (i := 11) (v := ?vb11) rfl (by kernel_rfl) (by kernel_rfl) (by kernel_rfl) (fun _ _ _ h => h) (Or.inl ⟨by rfl, ?hyb11⟩) (by assumption) ?restb11
  case hyb11 =>
    intro w' hSw
    obtain ⟨_, hs2, hs16, hs17, hs18⟩ := hSw
    dsimp only [List.getElem_toArray, List.getElem_cons_zero, List.getElem_cons_succ]
    go_simp
    try (first | (with_reducible rfl) | (rw [if_neg (by omega)]))
  try simp only [Act.put, List.getElem_toArray, List.getElem_cons_zero, List.getElem_cons_succ, List.setIfInBounds_toArray, List.set_cons_zero, List.set_cons_succ]
  refine wpAnyH_ready (rs := [2]) (by kernel_rfl) (by simp) ?_
  refine AllReadyH.cons rfl (fun K hK => ?_) AllReadyH.nil
  dsimp only [List.getElem_toArray, List.getElem_cons_zero, List.getElem_cons_succ]
  first | go_at_call 43 | (rw [if_pos (by rfl)]; go_at_call 43) | (rw [if_pos (by rfl)]; go_simp; go_at_call 43)
  refine (ctd _).mono ?_
  rintro e w3 ⟨rfl, hBw3⟩
  have hHw3 := keepR hHeld hBw3
  clear hHeld
  dsimp only
  refine hK.out _ _ hHw3 (fun hHeld => ?_)
  clear hK
  try simp only [Act.put, List.getElem_toArray, List.getElem_cons_zero, List.getElem_cons_succ, List.setIfInBounds_toArray, List.set_cons_zero, List.set_cons_succ]
  refine wpAnyH_take (i := 3) (v := ?vb3) rfl (by kernel_rfl) (by kernel_rfl) (by kernel_rfl) (fun _ _ _ h => h) (Or.inl ⟨by rfl, ?hyb3⟩) (by assumption) ?restb3
  case hyb3 =>
    intro w' hSw
    obtain ⟨_, hs2, hs16, hs17, hs18⟩ := hSw
    dsimp only [List.getElem_toArray, List.getElem_cons_zero, List.getElem_cons_succ]
    go_simp
    try (first | (with_reducible rfl) | (rw [if_neg (by omega)]))
  try simp only [Act.put, List.getElem_toArray, List.getElem_cons_zero, List.getElem_cons_succ, List.setIfInBounds_toArray, List.set_cons_zero, List.set_cons_succ]
  refine wpAnyH_take (i := 4) (v := ?vb4) rfl (by kernel_rfl) (by kernel_rfl) (by kernel_rfl) (fun _ _ _ h => h) (Or.inl ⟨by rfl, ?hyb4⟩) (by assumption) ?restb4
  case hyb4 =>
    intro w' hSw
    obtain ⟨_, hs2, hs16, hs17, hs18⟩ := hSw
    dsimp only [List.getElem_toArray, List.getElem_cons_zero, List.getElem_cons_succ]
    go_simp
    try (first | (with_reducible rfl) | (rw [if_neg (by omega)]))
  try simp only [Act.put, List.getElem_toArray, List.getElem_cons_zero, List.getElem_cons_succ, List.setIfInBounds_toArray, List.set_cons_zero, List.set_cons_succ]
  refine wpAnyH_ready (rs := [7]) (by kernel_rfl) (by simp) ?_
  refine AllReadyH.cons rfl (fun K hK => ?_) AllReadyH.nil
  dsimp only [List.getElem_toArray, List.getElem_cons_zero, List.getElem_cons_succ]
  first | go_at_call 60 | (rw [if_pos (by rfl)]; go_at_call 60) | (rw [if_pos (by rfl)]; go_simp; go_at_call 60)
  refine (ctn _).mono ?_
  rintro e w4 ⟨rfl, hBw4⟩
  have hHw4 := keepR hHeld hBw4
  clear hHeld
  dsimp only
  refine hK.out _ _ hHw4 (fun hHeld => ?_)
  clear hK
  try simp only [Act.put, List.getElem_toArray, List.getElem_cons_zero, List.getElem_cons_succ, List.setIfInBounds_toArray, List.set_cons_zero, List.set_cons_succ]
  refine wpAnyH_take (i := 8) (v := ?vb8) rfl (by kernel_rfl) (by kernel_rfl) (by kernel_rfl) (fun _ _ _ h => h) (Or.inl ⟨by rfl, ?hyb8⟩) (by assumption) ?restb8
  case hyb8 =>
    intro w' hSw
    obtain ⟨_, hs2, hs16, hs17, hs18⟩ := hSw
    dsimp only [List.getElem_toArray, List.getElem_cons_zero, List.getElem_cons_succ]
    go_simp
    try (first | (with_reducible rfl) | (rw [if_neg (by omega)]))
  try simp only [Act.put, List.getElem_toArray, List.getElem_cons_zero, List.getElem_cons_succ, List.setIfInBounds_toArray, List.set_cons_zero, List.set_cons_succ]
  refine wpAnyH_take (i := 9) (v := ?vb9) rfl (by kernel_rfl) (by kernel_rfl) (by kernel_rfl) (fun _ _ _ h => h) (Or.inl ⟨by rfl, ?hyb9⟩) (by assumption) ?restb9
  case hyb9 =>
    intro w' hSw
    obtain ⟨_, hs2, hs16, hs17, hs18⟩ := hSw
    dsimp only [List.getElem_toArray, List.getElem_cons_zero, List.getElem_cons_succ]
    go_simp
    try (first | (with_reducible rfl) | (rw [if_neg (by omega)]))
  try simp only [Act.put, List.getElem_toArray, List.getElem_cons_zero, List.getElem_cons_succ, List.setIfInBounds_toArray, List.set_cons_zero, List.set_cons_succ]
  refine wpAnyH_ready (rs := [12]) (by kernel_rfl) (by simp) ?_
  refine AllReadyH.cons rfl (fun K hK => ?_) AllReadyH.nil
  dsimp only [List.getElem_toArray, List.getElem_cons_zero, List.getElem_cons_succ]
  first | go_at_call 43 | (rw [if_pos (by rfl)]; go_at_call 43) | (rw [if_pos (by rfl)]; go_simp; go_at_call 43)
  refine (cta _).mono ?_
  rintro e w5 ⟨rfl, hBw5⟩
  have hHw5 := keepR hHeld hBw5
  clear hHeld
  dsimp only
  refine hK.out _ _ hHw5 (fun hHeld => ?_)
  clear hK
  try simp only [Act.put, List.getElem_toArray, List.getElem_cons_zero, List.getElem_cons_succ, List.setIfInBounds_toArray, List.set_cons_zero, List.set_cons_succ]
  refine wpAnyH_take (i := 13) (v := ?vb13) rfl (by kernel_rfl) (by kernel_rfl) (by kernel_rfl) (fun _ _ _ h => h) (Or.inl ⟨by rfl, ?hyb13⟩) (by assumption) ?restb13
  case hyb13 =>
    intro w' hSw
    obtain ⟨_, hs2, hs16, hs17, hs18⟩ := hSw
    dsimp only [List.getElem_toArray, List.getElem_cons_zero, List.getElem_cons_succ]
    go_simp
    try (first | (with_reducible rfl) | (rw [if_neg (by omega)]))
  try simp only [Act.put, List.getElem_toArray, List.getElem_cons_zero, List.getElem_cons_succ, List.setIfInBounds_toArray, List.set_cons_zero, List.set_cons_succ]
  refine wpAnyH_take (i := 14) (v := ?vb14) rfl (by kernel_rfl) (by kernel_rfl) (by kernel_rfl) (fun _ _ _ h => h) (Or.inl ⟨by rfl, ?hyb14⟩) (by assumption) ?restb14
  case hyb14 =>
    intro w' hSw
    obtain ⟨_, hs2, hs16, hs17, hs18⟩ := hSw
    dsimp only [List.getElem_toArray, List.getElem_cons_zero, List.getElem_cons_succ]
    go_simp
    try (first | (with_reducible rfl) | (rw [if_neg (by omega)]))
  try simp only [Act.put, List.getElem_toArray, List.getElem_cons_zero, List.getElem_cons_succ, List.setIfInBounds_toArray, List.set_cons_zero, List.set_cons_succ]
  refine wpAnyH_done (by kernel_rfl) ?_ _
  go_wp2
  go_ret
  exact ⟨by rw [HT.out]; rfl, hHeld.1⟩

/-- The first words of a run's row. -/
def headT (x : EntV) : List ByteArray := [⟨#[114, 117, 110]⟩] ++ x.seven.map numS ++ [flagT x.f, ⟨#[112, 97, 116, 104]⟩]
set_option maxRecDepth 100000 in
set_option maxHeartbeats 3200000 in
theorem rrow_run (x : EntV) (A : Option Addr) (cap : Nat) (w : World) (hA0 : (Kd.int .i64).C w A x.path.length x.path) (_hc : x.path.length ≤ cap) (hI : x.In) (hp : x.path.length ≤ 10000) (hl : x.l ≠ 0) :
    Calls Tryd.prog 23 #[x.val A cap] w fun e w' => e = .returned (.string (joined (rowT x))) ∧ Below w.heap.size w w' := by
  have HT : Hid (rowT x = headT x ++ x.path.map numS) := ⟨by rw [rowT, if_neg hl]; rfl⟩
  have hbo := fun X => (Below.refl w.heap.size w).alloc (Nat.le_refl _) X
  have hX0 := fun X => heap_alloc_new w X
  have hfl := fun W => rflags_any x.f W
  have hfs := flagT_size x.f
  simp only [FlagV.val] at hfl
  simp only [EntV.val]
  have hl2 : (x.l != 0) = true := by rw [bne_iff_ne]; exact hl
  clear hl
  have hX1 := fun X => (heap_alloc_old (w.alloc (.cells #[.int .i64 x.l, .int .i64 x.cb, .int .i64 x.d, .int .i64 x.cur, .int .i64 x.ph, .int .i64 x.tgt, .int .i64 x.rel, .slice A x.path.length cap, .bool x.f.b0, .bool x.f.b1, .bool x.f.b2, .bool x.f.b3, .bool x.f.b4, .bool x.f.b5, .bool x.f.b6, .bool x.f.b7, .int .i64 x.code, .int .i64 x.err, .int .i64 x.ans] 34)) X (blk_lt (hX0 _))).trans (hX0 _)
  have hW2 := ((hbo (.cells #[.int .i64 x.l, .int .i64 x.cb, .int .i64 x.d, .int .i64 x.cur, .int .i64 x.ph, .int .i64 x.tgt, .int .i64 x.rel, .slice A x.path.length cap, .bool x.f.b0, .bool x.f.b1, .bool x.f.b2, .bool x.f.b3, .bool x.f.b4, .bool x.f.b5, .bool x.f.b6, .bool x.f.b7, .int .i64 x.code, .int .i64 x.err, .int .i64 x.ans] 34)).alloc (by simp) (.cells #[.int .i64 x.l, .int .i64 x.cb, .int .i64 x.d, .int .i64 x.cur, .int .i64 x.ph, .int .i64 x.tgt, .int .i64 x.rel] 3))
  have hA1 := heap_alloc_new (w.alloc (.cells #[.int .i64 x.l, .int .i64 x.cb, .int .i64 x.d, .int .i64 x.cur, .int .i64 x.ph, .int .i64 x.tgt, .int .i64 x.rel, .slice A x.path.length cap, .bool x.f.b0, .bool x.f.b1, .bool x.f.b2, .bool x.f.b3, .bool x.f.b4, .bool x.f.b5, .bool x.f.b6, .bool x.f.b7, .int .i64 x.code, .int .i64 x.err, .int .i64 x.ans] 34)) (.cells #[.int .i64 x.l, .int .i64 x.cb, .int .i64 x.d, .int .i64 x.cur, .int .i64 x.ph, .int .i64 x.tgt, .int .i64 x.rel] 3)
  rw [World.size_alloc] at hA1
  have hX1 := hX1 (.cells #[.int .i64 x.l, .int .i64 x.cb, .int .i64 x.d, .int .i64 x.cur, .int .i64 x.ph, .int .i64 x.tgt, .int .i64 x.rel] 3)
  have hsz32 : (⟨#[32]⟩ : ByteArray).size = 1 := rfl
  have hl7 : x.seven.length = 7 := rfl
  go_enter Tryd.func23, Tryd.ntmps23
  go_wp2
  go_loopw [5, 3] (fun iv lv wr => ∃ (i : Nat) (cur : ByteArray), i ≤ 7 ∧ iv = .int .i64 i ∧ lv = .string cur ∧ wr.heap[w.heap.size]? = some (.cells #[.int .i64 x.l, .int .i64 x.cb, .int .i64 x.d, .int .i64 x.cur, .int .i64 x.ph, .int .i64 x.tgt, .int .i64 x.rel, .slice A x.path.length cap, .bool x.f.b0, .bool x.f.b1, .bool x.f.b2, .bool x.f.b3, .bool x.f.b4, .bool x.f.b5, .bool x.f.b6, .bool x.f.b7, .int .i64 x.code, .int .i64 x.err, .int .i64 x.ans] 34 (0, 0)) ∧ wr.heap[w.heap.size + 1]? = some (.cells #[.int .i64 x.l, .int .i64 x.cb, .int .i64 x.d, .int .i64 x.cur, .int .i64 x.ph, .int .i64 x.tgt, .int .i64 x.rel] 3 (0, 0))
    ∧ Hid (cur = joined ([⟨#[114, 117, 110]⟩] ++ (x.seven.take i).map numS)) ∧ cur.size ≤ 31 * (i + 1) ∧ Below w.heap.size w wr) (fun iv _ _ => 7 - (intOf iv).toNat)
  case atStart => exact ⟨0, _, Nat.zero_le _, rfl, rfl, hX1, hA1, ⟨(joined_oneR _).symm⟩, by show 3 ≤ _; omega, hW2⟩
  case round =>
    obtain ⟨i, cur, hi, rfl, rfl, hX, hA, HJ, hcs, hB⟩ := hrel
    by_cases hlt : i < 7
    · obtain ⟨m, hm⟩ : ∃ m, x.seven[i]? = some m := ⟨_, List.getElem?_eq_getElem (by omega)⟩
      have hcm : wr.cell? ⟨w.heap.size + 1, i, none⟩ = some (.int .i64 m) := by
        rw [blk_cell hA]
        have e : #[.int .i64 x.l, .int .i64 x.cb, .int .i64 x.d, .int .i64 x.cur, .int .i64 x.ph, .int .i64 x.tgt, .int .i64 x.rel] = (x.seven.map (Value.int .i64)).toArray := rfl
        rw [e, List.getElem?_toArray, List.getElem?_map, hm]; rfl
      have hmb := hI.seven m (List.mem_of_getElem? hm)
      have hts := numS_size m hmb
      have htx := fun W => rtext_any m hmb.1 hmb.2 W
      have HE : Hid (joined ([⟨#[114, 117, 110]⟩] ++ (x.seven.take (i + 1)).map numS) = cur ++ (⟨#[32]⟩ : ByteArray) ++ numS m) := ⟨by
        rw [take_snocI _ _ _ hm, List.map_append, HJ.out, ← List.append_assoc]
        exact joined_snocR _ (numS m) (by simp)⟩
      have hsum : (cur ++ (⟨#[32]⟩ : ByteArray) ++ numS m).size = cur.size + 1 + (numS m).size := by rw [ByteArray.size_append, ByteArray.size_append, hsz32]
      change ∀ W : World, Calls Tryd.prog 43 #[.int .i64 m] W fun e w' => e = .returned (.string (numS m)) ∧ Below W.heap.size W w' at htx
      generalize numS m = tm at *
      clear hm hmb
      go_wp2_with (go_at_call 43; refine (htx _).mono ?_; rintro e w5 ⟨rfl, hB5⟩; have hC5 := below_then hB hB.size hB5; have hX5 := (hB5.block _ (blk_lt hX)).trans hX; have hA5 := (hB5.block _ (blk_lt hA)).trans hA)
      go_roundw
      case rel => exact ⟨i + 1, _, hlt, by go_num, rfl, hX5, hA5, ⟨HE.out.symm⟩, by omega, hC5⟩
      case measure => simp [intOf]; omega
    · obtain rfl : i = 7 := by omega
      have hcs7 : cur.size ≤ 248 := by omega
      have f8 : wr.cell? ⟨w.heap.size, 8, none⟩ = some (.bool x.f.b0) := blk_cell hX 8
      have f9 : wr.cell? ⟨w.heap.size, 9, none⟩ = some (.bool x.f.b1) := blk_cell hX 9
      have f10 : wr.cell? ⟨w.heap.size, 10, none⟩ = some (.bool x.f.b2) := blk_cell hX 10
      have f11 : wr.cell? ⟨w.heap.size, 11, none⟩ = some (.bool x.f.b3) := blk_cell hX 11
      have f12 : wr.cell? ⟨w.heap.size, 12, none⟩ = some (.bool x.f.b4) := blk_cell hX 12
      have f13 : wr.cell? ⟨w.heap.size, 13, none⟩ = some (.bool x.f.b5) := blk_cell hX 13
      have f14 : wr.cell? ⟨w.heap.size, 14, none⟩ = some (.bool x.f.b6) := blk_cell hX 14
      have f15 : wr.cell? ⟨w.heap.size, 15, none⟩ = some (.bool x.f.b7) := blk_cell hX 15
      have HF : Hid (joined (headT x) = ((cur ++ (⟨#[32]⟩ : ByteArray)) ++ flagT x.f) ++ (⟨#[32, 112, 97, 116, 104]⟩ : ByteArray)) := ⟨by
        have h1 := joined_snocR ([⟨#[114, 117, 110]⟩] ++ x.seven.map numS) (flagT x.f) (by simp)
        have h2 := joined_snocR ([⟨#[114, 117, 110]⟩] ++ x.seven.map numS ++ [flagT x.f]) ⟨#[112, 97, 116, 104]⟩ (by simp)
        have e1 : headT x = [⟨#[114, 117, 110]⟩] ++ x.seven.map numS ++ [flagT x.f] ++ [⟨#[112, 97, 116, 104]⟩] := by simp [headT]
        have e2 : cur = joined ([⟨#[114, 117, 110]⟩] ++ x.seven.map numS) := HJ.out
        rw [e1, h2, h1, ← e2]
        apply cat_ext
        simp only [data_cat, List.append_assoc]
        rfl⟩
      have hsumF : (((cur ++ (⟨#[32]⟩ : ByteArray)) ++ flagT x.f) ++ (⟨#[32, 112, 97, 116, 104]⟩ : ByteArray)).size = cur.size + 1 + (flagT x.f).size + 5 := by
        rw [ByteArray.size_append, ByteArray.size_append, ByteArray.size_append, hsz32]; rfl
      generalize flagT x.f = tf at *
      go_wp2_with (go_at_call 25; refine (hfl _).mono ?_; rintro e w6 ⟨rfl, hB6⟩; have hC6 := below_then hB hB.size hB6; have hX6 := (hB6.block _ (blk_lt hX)).trans hX)
      go_loopw [6, 3] (fun iv lv wr => ∃ (i : Nat) (cur : ByteArray), i ≤ x.path.length ∧ iv = .int .i64 i ∧ lv = .string cur ∧ wr.heap[w.heap.size]? = some (.cells #[.int .i64 x.l, .int .i64 x.cb, .int .i64 x.d, .int .i64 x.cur, .int .i64 x.ph, .int .i64 x.tgt, .int .i64 x.rel, .slice A x.path.length cap, .bool x.f.b0, .bool x.f.b1, .bool x.f.b2, .bool x.f.b3, .bool x.f.b4, .bool x.f.b5, .bool x.f.b6, .bool x.f.b7, .int .i64 x.code, .int .i64 x.err, .int .i64 x.ans] 34 (0, 0))
        ∧ Hid (cur = joined (headT x ++ (x.path.take i).map numS)) ∧ cur.size ≤ 400 + 31 * i ∧ Below w.heap.size w wr) (fun iv _ _ => x.path.length - (intOf iv).toNat)
      case atStart => exact ⟨0, _, Nat.zero_le _, rfl, rfl, hX6, ⟨by rw [List.take_zero, List.map_nil, List.append_nil]; exact HF.out.symm⟩, by rw [hsumF]; omega, hC6⟩
      case round =>
        clear hB6 hC6 hX6 hX hA HJ hB HF hsumF hcs hcs7
        obtain ⟨i, cur, hi, rfl, rfl, hX, HJ, hcs, hB⟩ := hrel
        have f7 : wr.cell? ⟨w.heap.size, 7, none⟩ = some (.slice A x.path.length cap) := blk_cell hX 7
        by_cases hlt : i < x.path.length
        · obtain ⟨m, hm⟩ : ∃ m, x.path[i]? = some m := ⟨_, List.getElem?_eq_getElem hlt⟩
          obtain ⟨Bk, o, rfl, hBk, hcm0⟩ := C_int hA0 hm
          have hcm := (hB.cell (p := ⟨Bk, o + i, none⟩) hBk).trans hcm0
          have hmb := hI.path m (List.mem_of_getElem? hm)
          have hts := numS_size m hmb
          have htx := fun W => rtext_any m hmb.1 hmb.2 W
          have HE : Hid (joined (headT x ++ (x.path.take (i + 1)).map numS) = cur ++ (⟨#[32]⟩ : ByteArray) ++ numS m) := ⟨by
            rw [take_snocI _ _ _ hm, List.map_append, HJ.out, ← List.append_assoc]
            exact joined_snocR _ (numS m) (by simp [headT])⟩
          have hsum : (cur ++ (⟨#[32]⟩ : ByteArray) ++ numS m).size = cur.size + 1 + (numS m).size := by rw [ByteArray.size_append, ByteArray.size_append, hsz32]
          change ∀ W : World, Calls Tryd.prog 43 #[.int .i64 m] W fun e w' => e = .returned (.string (numS m)) ∧ Below W.heap.size W w' at htx
          generalize numS m = tm at *
          clear hm hmb hcm0
          go_wp2_with (go_at_call 43; refine (htx _).mono ?_; rintro e w5 ⟨rfl, hB5⟩; have hC5 := below_then hB hB.size hB5; have hX5 := (hB5.block _ (blk_lt hX)).trans hX)
          go_roundw
          case rel => exact ⟨i + 1, _, hlt, by go_num, rfl, hX5, ⟨HE.out.symm⟩, by omega, hC5⟩
          case measure => simp [intOf]; omega
        · obtain rfl : i = x.path.length := by omega
          have HZ : Hid (joined (rowT x) = cur) := ⟨by rw [HT.out, HJ.out, List.take_length]⟩
          go_wp2
          go_ret
          exact ⟨by rw [HZ.out]; rfl, hB⟩
theorem rrow_any (x : EntV) (A : Option Addr) (cap : Nat) (w : World) (hA : (Kd.int .i64).C w A x.path.length x.path) (hc : x.path.length ≤ cap) (hI : x.In) (hp : x.path.length ≤ 10000) :
    Calls Tryd.prog 23 #[x.val A cap] w fun e w' => e = .returned (.string (joined (rowT x))) ∧ Below w.heap.size w w' := by
  by_cases hl : x.l = 0
  · by_cases he : x.err = 0
    · exact rrow_do x A cap w hI hl he
    · exact rrow_err x A cap w hI hl he
  · exact rrow_run x A cap w hA hc hI hp hl
end Go.Proofs.YtmjedjhgomlfiaaDoor

set_option linter.unusedSimpArgs false
namespace Go.Proofs.YtmjedjhgomlfiaaDoor
open Go.RowKit Go.Proofs.YtmjedjhgomlfiaaDoorW.PrintWords Go.Lib

theorem range_blkR {w : World} {g : Nat} {t : TypeId} {cs : List Value} (h : w.heap[g]? = some (.cells cs.toArray t (0, 0))) : w.rangeAt g 0 cs := by
  intro j v hv
  have := blk_list h hv
  simpa using this
theorem range_eight {w : World} {g : Nat} {x : EntV} {A : Option Addr} {cap : Nat} (h : w.heap[g]? = some (.cells #[.int .i64 x.l, .int .i64 x.cb, .int .i64 x.d, .int .i64 x.cur, .int .i64 x.ph, .int .i64 x.tgt, .int .i64 x.rel, .slice A x.path.length cap, .bool x.f.b0, .bool x.f.b1, .bool x.f.b2, .bool x.f.b3, .bool x.f.b4, .bool x.f.b5, .bool x.f.b6, .bool x.f.b7, .int .i64 x.code, .int .i64 x.err, .int .i64 x.ans] 34 (0, 0))) : w.rangeAt g 8 [.bool x.f.b0, .bool x.f.b1, .bool x.f.b2, .bool x.f.b3, .bool x.f.b4, .bool x.f.b5, .bool x.f.b6, .bool x.f.b7] := by
  intro j v hv
  have hj : j < 8 := (List.getElem?_eq_some_iff.1 hv).1
  rw [blk_cell h]
  have : j = 0 ∨ j = 1 ∨ j = 2 ∨ j = 3 ∨ j = 4 ∨ j = 5 ∨ j = 6 ∨ j = 7 := by omega
  rcases this with rfl | rfl | rfl | rfl | rfl | rfl | rfl | rfl <;> exact hv
theorem info31 : (Tryd.prog.info? 31).map (·.size) = some 8 := by kernel_rfl
theorem keepXR {w W W2 : World} {g : Nat} {o : Obj} (h : Below w.heap.size w W ∧ W.heap[g]? = some o) (hb : Below W.heap.size W W2) : Below w.heap.size w W2 ∧ W2.heap[g]? = some o :=
  ⟨below_then h.1 h.1.size hb, (hb.block _ (blk_lt h.2)).trans h.2⟩

set_option maxRecDepth 100000 in
set_option maxHeartbeats 3200000 in
theorem rowsTell_any (x : EntV) (A : Option Addr) (cap : Nat) (w : World) (hO : LayR w) (hA : (Kd.int .i64).C w A x.path.length x.path) (hc : x.path.length ≤ cap) (hI : x.In) :
    Calls Tryd.prog 4 #[x.val A cap] w fun e w' => e = .returned (.bool true) ∧ Below w.heap.size w w' := by
  have hbo := fun X => (Below.refl w.heap.size w).alloc (Nat.le_refl _) X
  have hX0 := fun X => heap_alloc_new w X
  have haw := rowAwake_any _ (hO.below (hbo (.cells #[.int .i64 x.l, .int .i64 x.cb, .int .i64 x.d, .int .i64 x.cur, .int .i64 x.ph, .int .i64 x.tgt, .int .i64 x.rel, .slice A x.path.length cap, .bool x.f.b0, .bool x.f.b1, .bool x.f.b2, .bool x.f.b3, .bool x.f.b4, .bool x.f.b5, .bool x.f.b6, .bool x.f.b7, .int .i64 x.code, .int .i64 x.err, .int .i64 x.ans] 34)))
  by_cases h200 : 200 < x.path.length
  · have q : (200 : Int) < x.path.length := by omega
    simp only [EntV.val]
    go_enter Tryd.func4, Tryd.ntmps4
    go_wp2_with (go_at_call 21; refine haw.mono ?_; rintro e w1 ⟨rfl, hB1⟩; have hX1 := (hB1.block _ (blk_lt (hX0 _))).trans (hX0 _); have f7 : w1.cell? ⟨w.heap.size, 7, none⟩ = some (.slice A x.path.length cap) := blk_cell hX1 7)
    go_ret
    exact ⟨rfl, below_then (hbo _) (hbo _).size hB1⟩
  · have q : ¬ (200 : Int) < x.path.length := by omega
    have hrow := fun W (h : Below w.heap.size w W) => row_any x A cap W (hO.below h) (Kd.C_below hA h) hc hI (by omega)
    have hrr := fun W (h : Below w.heap.size w W) => rrow_any x A cap W (Kd.C_below hA h) hc hI (by omega)
    have hfl := fun W => rowsFlags_any x.f W
    have hrf := fun W => rflags_any x.f W
    simp only [EntV.val, FlagV.val] at hrow hrr hfl hrf ⊢
    generalize joined (rowT x) = tx at *
    generalize flagT x.f = tf at *
    go_enter Tryd.func4, Tryd.ntmps4
    go_wp2_with (go_at_call 21; refine haw.mono ?_; rintro e w1 ⟨rfl, hB1⟩; have hC1 := below_then (hbo _) (hbo _).size hB1; have hX1 := (hB1.block _ (blk_lt (hX0 _))).trans (hX0 _); have f7 : w1.cell? ⟨w.heap.size, 7, none⟩ = some (.slice A x.path.length cap) := blk_cell hX1 7)
    refine wp_region_held_drew (S := fun W => Below w.heap.size w W ∧ W.heap[w.heap.size]? = some (.cells #[.int .i64 x.l, .int .i64 x.cb, .int .i64 x.d, .int .i64 x.cur, .int .i64 x.ph, .int .i64 x.tgt, .int .i64 x.rel, .slice A x.path.length cap, .bool x.f.b0, .bool x.f.b1, .bool x.f.b2, .bool x.f.b3, .bool x.f.b4, .bool x.f.b5, .bool x.f.b6, .bool x.f.b7, .int .i64 x.code, .int .i64 x.err, .int .i64 x.ans] 34 (0, 0))) (by kernel_rfl) ⟨pw_below_drewN hC1 1, hX1⟩ (fun hHeld => ?_)
    refine wpAnyH_take (i := 0) (v := .agg #[.int .i64 x.l, .int .i64 x.cb, .int .i64 x.d, .int .i64 x.cur, .int .i64 x.ph, .int .i64 x.tgt, .int .i64 x.rel, .slice A x.path.length cap, .bool x.f.b0, .bool x.f.b1, .bool x.f.b2, .bool x.f.b3, .bool x.f.b4, .bool x.f.b5, .bool x.f.b6, .bool x.f.b7, .int .i64 x.code, .int .i64 x.err, .int .i64 x.ans]) rfl (by kernel_rfl) (by kernel_rfl) (by kernel_rfl) (fun _ _ _ h => h) (yieldsIf_load_mid (by rfl) 34 (.tmp 1) rfl w.heap.size 0 rfl [.int .i64 x.l, .int .i64 x.cb, .int .i64 x.d, .int .i64 x.cur, .int .i64 x.ph, .int .i64 x.tgt, .int .i64 x.rel, .slice A x.path.length cap, .bool x.f.b0, .bool x.f.b1, .bool x.f.b2, .bool x.f.b3, .bool x.f.b4, .bool x.f.b5, .bool x.f.b6, .bool x.f.b7, .int .i64 x.code, .int .i64 x.err, .int .i64 x.ans] _ (fun W h => range_blkR h.2) Tryd.underlying34 rfl info34) (by assumption) ?_
    try simp only [Act.put, List.getElem_toArray, List.getElem_cons_zero, List.getElem_cons_succ, List.setIfInBounds_toArray, List.set_cons_zero, List.set_cons_succ]
    refine wpAnyH_take (i := 2) (v := .agg #[.int .i64 x.l, .int .i64 x.cb, .int .i64 x.d, .int .i64 x.cur, .int .i64 x.ph, .int .i64 x.tgt, .int .i64 x.rel, .slice A x.path.length cap, .bool x.f.b0, .bool x.f.b1, .bool x.f.b2, .bool x.f.b3, .bool x.f.b4, .bool x.f.b5, .bool x.f.b6, .bool x.f.b7, .int .i64 x.code, .int .i64 x.err, .int .i64 x.ans]) rfl (by kernel_rfl) (by kernel_rfl) (by kernel_rfl) (fun _ _ _ h => h) (yieldsIf_load_mid (by rfl) 34 (.tmp 1) rfl w.heap.size 0 rfl [.int .i64 x.l, .int .i64 x.cb, .int .i64 x.d, .int .i64 x.cur, .int .i64 x.ph, .int .i64 x.tgt, .int .i64 x.rel, .slice A x.path.length cap, .bool x.f.b0, .bool x.f.b1, .bool x.f.b2, .bool x.f.b3, .bool x.f.b4, .bool x.f.b5, .bool x.f.b6, .bool x.f.b7, .int .i64 x.code, .int .i64 x.err, .int .i64 x.ans] _ (fun W h => range_blkR h.2) Tryd.underlying34 rfl info34) (by assumption) ?_
    try simp only [Act.put, List.getElem_toArray, List.getElem_cons_zero, List.getElem_cons_succ, List.setIfInBounds_toArray, List.set_cons_zero, List.set_cons_succ]
    refine wpAnyH_ready (rs := [1]) (by kernel_rfl) (by simp) ?_
    refine AllReadyH.cons rfl (fun K hK => ?_) AllReadyH.nil
    dsimp only [List.getElem_toArray, List.getElem_cons_zero, List.getElem_cons_succ]
    first | go_at_call 22 | (rw [if_pos (by rfl)]; go_at_call 22) | (rw [if_pos (by rfl)]; go_simp; go_at_call 22)
    refine (hrow _ hHeld.1).mono ?_
    rintro e w3 ⟨rfl, hBw3⟩
    have hHw3 := keepXR hHeld hBw3
    clear hHeld
    dsimp only
    refine hK.out _ _ hHw3 (fun hHeld => ?_)
    clear hK
    try simp only [Act.put, List.getElem_toArray, List.getElem_cons_zero, List.getElem_cons_succ, List.setIfInBounds_toArray, List.set_cons_zero, List.set_cons_succ]
    refine wpAnyH_ready (rs := [3]) (by kernel_rfl) (by simp) ?_
    refine AllReadyH.cons rfl (fun K hK => ?_) AllReadyH.nil
    dsimp only [List.getElem_toArray, List.getElem_cons_zero, List.getElem_cons_succ]
    first | go_at_call 23 | (rw [if_pos (by rfl)]; go_at_call 23) | (rw [if_pos (by rfl)]; go_simp; go_at_call 23)
    refine (hrr _ hHeld.1).mono ?_
    rintro e w4 ⟨rfl, hBw4⟩
    have hHw4 := keepXR hHeld hBw4
    clear hHeld
    dsimp only
    refine hK.out _ _ hHw4 (fun hHeld => ?_)
    clear hK
    try simp only [Act.put, List.getElem_toArray, List.getElem_cons_zero, List.getElem_cons_succ, List.setIfInBounds_toArray, List.set_cons_zero, List.set_cons_succ]
    refine wpAnyH_take (i := 4) (v := ?v4) rfl (by kernel_rfl) (by kernel_rfl) (by kernel_rfl) (fun _ _ _ h => h) (Or.inl ⟨by rfl, ?hy4⟩) (by assumption) ?rest4
    case hy4 =>
      intro w' hSw
      dsimp only [List.getElem_toArray, List.getElem_cons_zero, List.getElem_cons_succ] at hSw ⊢
      go_simp
      try (with_reducible rfl)
    try simp only [Act.put, List.getElem_toArray, List.getElem_cons_zero, List.getElem_cons_succ, List.setIfInBounds_toArray, List.set_cons_zero, List.set_cons_succ]
    refine wpAnyH_take (i := 5) (v := ?v5) rfl (by kernel_rfl) (by kernel_rfl) (by kernel_rfl) (fun _ _ _ h => h) (Or.inl ⟨by rfl, ?hy5⟩) (by assumption) ?rest5
    case hy5 =>
      intro w' hSw
      dsimp only [List.getElem_toArray, List.getElem_cons_zero, List.getElem_cons_succ] at hSw ⊢
      go_simp
      try (with_reducible rfl)
    try simp only [Act.put, List.getElem_toArray, List.getElem_cons_zero, List.getElem_cons_succ, List.setIfInBounds_toArray, List.set_cons_zero, List.set_cons_succ]
    refine wpAnyH_take (i := 6) (v := ?v6) rfl (by kernel_rfl) (by kernel_rfl) (by kernel_rfl) (fun _ _ _ h => h) (Or.inl ⟨by rfl, ?hy6⟩) (by assumption) ?rest6
    case hy6 =>
      intro w' hSw
      dsimp only [List.getElem_toArray, List.getElem_cons_zero, List.getElem_cons_succ] at hSw ⊢
      go_simp
      try (with_reducible rfl)
    try simp only [Act.put, List.getElem_toArray, List.getElem_cons_zero, List.getElem_cons_succ, List.setIfInBounds_toArray, List.set_cons_zero, List.set_cons_succ]
    refine wpAnyH_take (i := 7) (v := .agg #[.bool x.f.b0, .bool x.f.b1, .bool x.f.b2, .bool x.f.b3, .bool x.f.b4, .bool x.f.b5, .bool x.f.b6, .bool x.f.b7]) rfl (by kernel_rfl) (by kernel_rfl) (by kernel_rfl) (fun _ _ _ h => h) (yieldsIf_load_mid (by rfl) 31 (.tmp 15) rfl w.heap.size 8 rfl [.bool x.f.b0, .bool x.f.b1, .bool x.f.b2, .bool x.f.b3, .bool x.f.b4, .bool x.f.b5, .bool x.f.b6, .bool x.f.b7] _ (fun W h => range_eight h.2) Tryd.underlying31 rfl info31) (by assumption) ?_
    try simp only [Act.put, List.getElem_toArray, List.getElem_cons_zero, List.getElem_cons_succ, List.setIfInBounds_toArray, List.set_cons_zero, List.set_cons_succ]
    refine wpAnyH_take (i := 9) (v := ?v9) rfl (by kernel_rfl) (by kernel_rfl) (by kernel_rfl) (fun _ _ _ h => h) (Or.inl ⟨by rfl, ?hy9⟩) (by assumption) ?rest9
    case hy9 =>
      intro w' hSw
      dsimp only [List.getElem_toArray, List.getElem_cons_zero, List.getElem_cons_succ] at hSw ⊢
      go_simp
      try (with_reducible rfl)
    try simp only [Act.put, List.getElem_toArray, List.getElem_cons_zero, List.getElem_cons_succ, List.setIfInBounds_toArray, List.set_cons_zero, List.set_cons_succ]
    refine wpAnyH_take (i := 10) (v := .agg #[.bool x.f.b0, .bool x.f.b1, .bool x.f.b2, .bool x.f.b3, .bool x.f.b4, .bool x.f.b5, .bool x.f.b6, .bool x.f.b7]) rfl (by kernel_rfl) (by kernel_rfl) (by kernel_rfl) (fun _ _ _ h => h) (yieldsIf_load_mid (by rfl) 31 (.tmp 18) rfl w.heap.size 8 rfl [.bool x.f.b0, .bool x.f.b1, .bool x.f.b2, .bool x.f.b3, .bool x.f.b4, .bool x.f.b5, .bool x.f.b6, .bool x.f.b7] _ (fun W h => range_eight h.2) Tryd.underlying31 rfl info31) (by assumption) ?_
    try simp only [Act.put, List.getElem_toArray, List.getElem_cons_zero, List.getElem_cons_succ, List.setIfInBounds_toArray, List.set_cons_zero, List.set_cons_succ]
    refine wpAnyH_ready (rs := [8]) (by kernel_rfl) (by simp) ?_
    refine AllReadyH.cons rfl (fun K hK => ?_) AllReadyH.nil
    dsimp only [List.getElem_toArray, List.getElem_cons_zero, List.getElem_cons_succ]
    first | go_at_call 24 | (rw [if_pos (by rfl)]; go_at_call 24) | (rw [if_pos (by rfl)]; go_simp; go_at_call 24)
    refine (hfl _).mono ?_
    rintro e w5 ⟨rfl, hBw5⟩
    have hHw5 := keepXR hHeld hBw5
    clear hHeld
    dsimp only
    refine hK.out _ _ hHw5 (fun hHeld => ?_)
    clear hK
    try simp only [Act.put, List.getElem_toArray, List.getElem_cons_zero, List.getElem_cons_succ, List.setIfInBounds_toArray, List.set_cons_zero, List.set_cons_succ]
    refine wpAnyH_ready (rs := [11]) (by kernel_rfl) (by simp) ?_
    refine AllReadyH.cons rfl (fun K hK => ?_) AllReadyH.nil
    dsimp only [List.getElem_toArray, List.getElem_cons_zero, List.getElem_cons_succ]
    first | go_at_call 25 | (rw [if_pos (by rfl)]; go_at_call 25) | (rw [if_pos (by rfl)]; go_simp; go_at_call 25)
    refine (hrf _).mono ?_
    rintro e w6 ⟨rfl, hBw6⟩
    have hHw6 := keepXR hHeld hBw6
    clear hHeld
    dsimp only
    refine hK.out _ _ hHw6 (fun hHeld => ?_)
    clear hK
    try simp only [Act.put, List.getElem_toArray, List.getElem_cons_zero, List.getElem_cons_succ, List.setIfInBounds_toArray, List.set_cons_zero, List.set_cons_succ]
    refine wpAnyH_take (i := 12) (v := ?v12) rfl (by kernel_rfl) (by kernel_rfl) (by kernel_rfl) (fun _ _ _ h => h) (Or.inl ⟨by rfl, ?hy12⟩) (by assumption) ?rest12
    case hy12 =>
      intro w' hSw
      dsimp only [List.getElem_toArray, List.getElem_cons_zero, List.getElem_cons_succ] at hSw ⊢
      go_simp
      try (with_reducible rfl)
    try simp only [Act.put, List.getElem_toArray, List.getElem_cons_zero, List.getElem_cons_succ, List.setIfInBounds_toArray, List.set_cons_zero, List.set_cons_succ]
    refine wpAnyH_take (i := 13) (v := ?v13) rfl (by kernel_rfl) (by kernel_rfl) (by kernel_rfl) (fun _ _ _ h => h) (Or.inl ⟨by rfl, ?hy13⟩) (by assumption) ?rest13
    case hy13 =>
      intro w' hSw
      dsimp only [List.getElem_toArray, List.getElem_cons_zero, List.getElem_cons_succ] at hSw ⊢
      go_simp
      try (with_reducible rfl)
    try simp only [Act.put, List.getElem_toArray, List.getElem_cons_zero, List.getElem_cons_succ, List.setIfInBounds_toArray, List.set_cons_zero, List.set_cons_succ]
    refine wpAnyH_take (i := 14) (v := ?v14) rfl (by kernel_rfl) (by kernel_rfl) (by kernel_rfl) (fun _ _ _ h => h) (Or.inl ⟨by rfl, ?hy14⟩) (by assumption) ?rest14
    case hy14 =>
      intro w' hSw
      dsimp only [List.getElem_toArray, List.getElem_cons_zero, List.getElem_cons_succ] at hSw ⊢
      go_simp
      try (with_reducible rfl)
    try simp only [Act.put, List.getElem_toArray, List.getElem_cons_zero, List.getElem_cons_succ, List.setIfInBounds_toArray, List.set_cons_zero, List.set_cons_succ]
    refine wpAnyH_done (by kernel_rfl) ?_ _
    go_wp2
    go_ret
    exact ⟨rfl, hHeld.1⟩
end Go.Proofs.YtmjedjhgomlfiaaDoor
