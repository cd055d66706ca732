/- op.Parse: the operation of words. -/
import Derived.Test.YtmjedjhgomlfiaaGreatDoorROp
import Derived.Test.YtmjedjhgomlfiaaGreatDoorJoinsLaw
import Derived.Test.YtmjedjhgomlfiaaGreatDoorBase
namespace Go.Proofs.YtmjedjhgomlfiaaGreatDoor
open Go.RowKit Go.Proofs.YtmjedjhgomlfiaaGreatDoorW.PrintWords Go.Lib

/-- An operation. -/
structure OpV where
  code : Int
  a : Int
  b : Int
  c : Int
  d : Int
  s : ByteArray
def OpV.val (x : OpV) : Value := .agg #[.int .i64 x.code, .int .i64 x.a, .int .i64 x.b, .int .i64 x.c, .int .i64 x.d, .string x.s]
def zeroV : OpV := ⟨0, 0, 0, 0, 0, ⟨#[]⟩⟩

/-- The numbers of words. -/
def numsW : List ByteArray → Option (List Int)
  | [] => some []
  | x :: r => if (wordNum x.data.toList).2 = true then (numsW r).map ((wordNum x.data.toList).1 :: ·) else none
/-- How many words an operation has. -/
def allW (c : Int) : Nat := (numbersW c).toNat + 1 + (if wordedW c = true then 1 else 0)
/-- What an operation of right numbers is. -/
def tailW (c : Int) (vs : List Int) (s : ByteArray) : OpV × Int :=
  if wordedW c = true ∧ s ≠ ⟨#[45]⟩ then (if rightW s.data.toList = true then (⟨c, vs.getD 0 0, vs.getD 1 0, vs.getD 2 0, vs.getD 3 0, s⟩, 0) else (zeroV, 7)) else (⟨c, vs.getD 0 0, vs.getD 1 0, vs.getD 2 0, vs.getD 3 0, ⟨#[]⟩⟩, 0)
/-- The operation of words, and an error's number. -/
def parseW (l : List ByteArray) : OpV × Int :=
  match l with
  | [] => (zeroV, 7)
  | h :: r =>
    if codeW h = 0 then (zeroV, 8) else
    if l.length ≠ allW (codeW h) then (zeroV, 7) else
    match numsW (r.take (numbersW (codeW h)).toNat) with
    | none => (zeroV, 7)
    | some vs => tailW (codeW h) vs (l.getD (allW (codeW h) - 1) ByteArray.empty)

theorem codeAt_range (x : ByteArray) : ∀ (l : List ByteArray) (j : Nat), codeAt l j x = 0 ∨ (1 ≤ codeAt l j x ∧ codeAt l j x < ((j + l.length : Nat) : Int))
  | [], j => Or.inl rfl
  | n :: r, j => by
    rw [codeAt]
    by_cases h : 0 < j ∧ n = x
    · rw [if_pos h, List.length_cons]; right; omega
    · rw [if_neg h, List.length_cons]
      have := codeAt_range x r (j + 1)
      omega
theorem codeW_there (x : ByteArray) (h : codeW x ≠ 0) : there (codeW x) = true := by
  have := codeAt_range x opNames 0
  rw [opNames_length] at this
  unfold codeW at h ⊢
  simp [there]
  omega
theorem numbersW_in : ∀ j : Fin 18, 1 ≤ j.val → 1 ≤ numbersW (j.val : Int) ∧ numbersW (j.val : Int) ≤ 4 := by decide +kernel
theorem numbersW_range {c : Int} (h : there c = true) : 1 ≤ numbersW c ∧ numbersW c ≤ 4 := by
  obtain ⟨j, rfl, h1, h2⟩ := there_nat h
  exact numbersW_in ⟨j, h2⟩ h1

theorem C_str {w : World} {A : Option Addr} {l : List ByteArray} (hA : Kd.string.C w A l.length l) (hl : l ≠ []) : ∃ B o, A = some ⟨B, o, none⟩ ∧ B < w.heap.size ∧ ∀ (j : Nat) (x : ByteArray), l[j]? = some x → w.cell? ⟨B, o + j, none⟩ = some (.string x) := by
  obtain ⟨ad, e, hcell⟩ := hA.2.2 (by cases l with | nil => exact absurd rfl hl | cons x r => simp)
  subst e
  have hx : ∀ j p, l[j]? = some p → w.cell? (ad.add j) = some (.string p) := by
    intro j p hj
    obtain ⟨cs, h1, h2, h3⟩ := hcell j p hj
    have h2' : cs = [.string p] := h2
    have := h3 0 (.string p) (by rw [h2']; rfl)
    rwa [show j * Kd.string.sz + 0 = j from Nat.mul_one j] at this
  obtain ⟨x, r, rfl⟩ : ∃ x r, l = x :: r := by cases l with | nil => exact absurd rfl hl | cons x r => exact ⟨x, r, rfl⟩
  have h0 := hx 0 x rfl
  rw [show ad.add 0 = ad from rfl] at h0
  obtain ⟨B, o, spot⟩ := ad
  obtain rfl : spot = none := World.cell?_spot h0
  refine ⟨B, o, rfl, World.block_lt_of_cell? w _ h0, fun j p hj => ?_⟩
  have := hx j p hj
  rwa [Lib.add_plain] at this

theorem results_cell_two {P : Program} {fn : Func} {p u : Tmp} {ty : TypeId} (h : fn.results = #[.cell p ty, .tmp u]) (tmps : Array Value) (w : World) (g : Nat) (t : TypeId) (cs : Array Value) (fr : Nat × Nat) (d : TypeDesc)
    (hp : tmps.getD p undef = .pointer (some ⟨g, 0, none⟩)) (hg : w.heap[g]? = some (.cells cs t fr))
    (hu : P.underlying ty = some d) (hd : (match d with | .struct _ | .array _ _ => true | _ => false) = true) (hi : (P.info? ty).map (·.size) = some cs.size) :
    (results fn tmps).run P w = .ok (.tuple #[.agg cs, tmps.getD u undef]) w := by
  rw [results_cell_tmp h, hp]
  simp [asAddr, run_loadVar_row w g t ty cs fr d hg hu hd hi]
theorem info38 : (Tryz.prog.info? 38).map (·.size) = some 6 := by kernel_rfl

theorem numsW_snoc (x : ByteArray) : ∀ xs : List ByteArray, numsW (xs ++ [x]) = (numsW xs).bind fun vs => if (wordNum x.data.toList).2 = true then some (vs ++ [(wordNum x.data.toList).1]) else none
  | [] => by simp [numsW]
  | y :: xs => by
    rw [List.cons_append, numsW, numsW, numsW_snoc x xs]
    by_cases hy : (wordNum y.data.toList).2 = true
    · rw [if_pos hy, if_pos hy]
      cases numsW xs with
      | none => rfl
      | some vs => by_cases hx : (wordNum x.data.toList).2 = true <;> simp [hx]
    · rw [if_neg hy, if_neg hy]; rfl
theorem numsW_bad (x : ByteArray) (hx : (wordNum x.data.toList).2 = false) : ∀ xs : List ByteArray, x ∈ xs → numsW xs = none
  | [], h => absurd h (by simp)
  | y :: xs, h => by
    rw [numsW]
    rcases List.mem_cons.1 h with h | h
    · rw [← h, hx]; rfl
    · rw [numsW_bad x hx xs h]; split <;> rfl
theorem take_snoc {α : Type} (l : List α) (i : Nat) (x : α) (h : l[i]? = some x) : l.take (i + 1) = l.take i ++ [x] := by
  rw [List.take_add_one, h]; rfl
theorem mem_take {α : Type} {l : List α} {i n : Nat} {x : α} (h : l[i]? = some x) (hi : i < n) : x ∈ l.take n := by
  apply List.mem_of_getElem? (i := i)
  rw [List.getElem?_take, if_pos hi, h]
/-- The numbers beyond the first n are 0. -/
theorem take4 {v0 v1 v2 v3 : Int} {n : Nat} (h1 : 1 ≤ n) (h4 : n ≤ 4) (hz : [v0, v1, v2, v3].drop n = List.replicate (4 - n) 0) :
    ([v0, v1, v2, v3].take n).getD 0 0 = v0 ∧ ([v0, v1, v2, v3].take n).getD 1 0 = v1 ∧ ([v0, v1, v2, v3].take n).getD 2 0 = v2 ∧ ([v0, v1, v2, v3].take n).getD 3 0 = v3 := by
  have : n = 1 ∨ n = 2 ∨ n = 3 ∨ n = 4 := by omega
  rcases this with rfl | rfl | rfl | rfl
  · simp [List.replicate] at hz ⊢; omega
  · simp [List.replicate] at hz ⊢; omega
  · simp at hz ⊢; omega
  · simp
def zeroC : Array Value := #[.int .i64 0, .int .i64 0, .int .i64 0, .int .i64 0, .int .i64 0, .string ⟨#[]⟩]
theorem zeroC_all : zeroC.all (·.oneCell') = true := by simp [zeroC, Value.oneCell']

set_option maxRecDepth 100000 in
set_option maxHeartbeats 1600000 in
theorem parse_any (l : List ByteArray) (A : Option Addr) (cap : Nat) (w : World) (hO : LayO w) (hA : Kd.string.C w A l.length l) (hc : l.length ≤ cap) (hll : l.length ≤ 4294967296) (hs : ∀ x ∈ l, x.size ≤ 281474976710656) :
    Calls Tryz.prog 44 #[.slice A l.length cap] w fun e w' => e = .returned (.tuple #[(parseW l).1.val, .int .i64 (parseW l).2]) ∧ Below w.heap.size w w' := by
  cases hl : l with
  | nil =>
    subst hl
    go_enter Tryz.func44, Tryz.ntmps44
    go_wp2
    refine bodyPost_ret (results_cell_two rfl _ _ _ _ _ _ _ rfl (heap_alloc_new _ _) Tryz.underlying38 rfl info38) rfl ?_
    exact ⟨rfl, below_alloc (Below.refl _ _) _⟩
  | cons h r =>
    rw [← hl]
    obtain ⟨B, o, rfl, hBw, hcell⟩ := C_str hA (by rw [hl]; simp)
    have hcell0 : w.cell? ⟨B, o, none⟩ = some (.string h) := hcell 0 h (by rw [hl]; rfl)
    have hP : Hid (parseW l = if codeW h = 0 then (zeroV, 8) else if l.length ≠ allW (codeW h) then (zeroV, 7) else match numsW (r.take (numbersW (codeW h)).toNat) with
      | none => (zeroV, 7)
      | some vs => tailW (codeW h) vs (l.getD (allW (codeW h) - 1) ByteArray.empty)) := ⟨by rw [hl]; rfl⟩
    have hcode := fun W (hw : LayO W) => code_any h W hw
    have hnum := fun W (hw : LayO W) => numbers_any (codeW h) W hw
    have hwor := fun W (hw : LayO W) => worded_any (codeW h) W hw
    have hth := codeW_there h
    generalize hcd : codeW h = c at *
    have hOR : ∀ W, Below w.heap.size w W → LayO W := fun W hb => hO.below hb
    have b1 := fun R => (Below.refl w.heap.size w).alloc (Nat.le_refl _) R
    have b2 := fun R X => ((Below.refl w.heap.size w).alloc (Nat.le_refl _) R).alloc (by simp) X
    have hlpos : 0 < l.length := by rw [hl]; simp
    have HL := hide_ hl
    clear hl
    by_cases hc0 : c = 0
    · subst hc0
      rw [if_pos rfl] at hP
      go_enter Tryz.func44, Tryz.ntmps44
      go_wp2_with (first
        | (go_at_call 60; refine (hcode _ (hOR _ (b1 _))).mono ?_; rintro e w1 ⟨rfl, rfl⟩))
      refine bodyPost_ret (results_cell_two rfl _ _ _ _ _ _ _ rfl (heap_alloc2_old _ _ _) Tryz.underlying38 rfl info38) rfl ?_
      exact ⟨by rw [hP.out]; rfl, b2 _ _⟩
    · have hth := hth hc0
      obtain ⟨n1, n4⟩ := numbersW_range hth
      obtain ⟨n, hn⟩ : ∃ n : Nat, numbersW c = n := ⟨(numbersW c).toNat, by omega⟩
      rw [hn] at hnum n1 n4
      have hP1 : Hid (parseW l = if l.length ≠ n + 1 + (if wordedW c = true then 1 else 0) then (zeroV, 7) else match numsW (r.take n) with
        | none => (zeroV, 7)
        | some vs => tailW c vs (l.getD (n + (if wordedW c = true then 1 else 0)) ByteArray.empty)) := ⟨by
          rw [hP.out, if_neg hc0, allW, hn, Int.toNat_natCast]
          have e : n + 1 + (if wordedW c = true then 1 else 0) - 1 = n + (if wordedW c = true then 1 else 0) := by omega
          rw [e]⟩
      clear hP
      have hq0 : (c == 0) = false := by rw [beq_eq_false_iff_ne]; exact hc0
      cases hb : wordedW c with
      | false =>
        rw [hb] at hwor hP1
        by_cases hlen : l.length = n + 1
        · have hne : ((l.length : Int) != (n : Int) + 1) = false := by rw [bne_eq_false_iff_eq]; omega
          have HR : Hid (parseW l = match numsW (r.take n) with | none => (zeroV, 7) | some vs => tailW c vs (l.getD n ByteArray.empty)) := ⟨by rw [hP1.out, if_neg (by simpa using hlen)]; rfl⟩
          have hcn : n + 1 ≤ cap := by omega
          have HB := hide_ hb
          clear hc0 hn hth hb
          go_enter Tryz.func44, Tryz.ntmps44
          go_wp2_with (first
            | (go_at_call 60; refine (hcode _ (hOR _ (b1 _))).mono ?_; rintro e w1 ⟨rfl, rfl⟩)
            | (go_at_call 28; refine (hnum _ (hOR _ (b2 _ _))).mono ?_; rintro e w1 ⟨rfl, rfl⟩)
            | (go_at_call 30; refine (hwor _ (hOR _ (b2 _ _))).mono ?_; rintro e w1 ⟨rfl, rfl⟩))
          rw [show 1 + n - 1 = n by omega]
          go_loopw [51] (fun v wr => ∃ (i : Nat) (v0 v1 v2 v3 : Int), i ≤ n ∧ v = .int .i64 i ∧ wr.heap[w.heap.size]? = some (.cells zeroC 38 (0, 0)) ∧ wr.heap[w.heap.size + 1]? = some (.cells #[.int .i64 c, .int .i64 v0, .int .i64 v1, .int .i64 v2, .int .i64 v3, .string ⟨#[]⟩] 38 (0, 0))
            ∧ wr.heap[w.heap.size + 1 + 1]? = some (.cells #[.pointer (some ⟨w.heap.size + 1, 1, none⟩), .pointer (some ⟨w.heap.size + 1, 2, none⟩), .pointer (some ⟨w.heap.size + 1, 3, none⟩), .pointer (some ⟨w.heap.size + 1, 4, none⟩)] 97 (0, 0))
            ∧ Hid (numsW (r.take i) = some ([v0, v1, v2, v3].take i)) ∧ Hid ([v0, v1, v2, v3].drop i = List.replicate (4 - i) 0) ∧ Below w.heap.size w wr) (fun v _ => n - (intOf v).toNat)
          case atStart =>
            refine ⟨0, 0, 0, 0, 0, Nat.zero_le _, rfl, ?_, ?_, ?_, ⟨rfl⟩, ⟨rfl⟩, ?_⟩
            · exact (heap_alloc_old _ _ (by simp; omega)).trans (heap_alloc2_old _ _ _)
            · exact (heap_alloc_old _ _ (by simp)).trans (heap_alloc2_new _ _ _)
            · have h := heap_alloc_new ((w.alloc (.cells #[.int .i64 0, .int .i64 0, .int .i64 0, .int .i64 0, .int .i64 0, .string ⟨#[]⟩] 38)).alloc (.cells #[.int .i64 c, .int .i64 0, .int .i64 0, .int .i64 0, .int .i64 0, .string ⟨#[]⟩] 38)) (.cells #[.pointer (some ⟨w.heap.size + 1, 1, none⟩), .pointer (some ⟨w.heap.size + 1, 2, none⟩), .pointer (some ⟨w.heap.size + 1, 3, none⟩), .pointer (some ⟨w.heap.size + 1, 4, none⟩)] 97)
              rw [World.size_alloc, World.size_alloc] at h
              exact h
            · exact (b2 _ _).alloc (by simp; omega) _
          case round =>
            obtain ⟨i, v0, v1, v2, v3, hi, rfl, hR, hX, hT, HN, HZ, hBr⟩ := hrel
            by_cases hlt : i < n
            · obtain ⟨x, hx⟩ : ∃ x, l[1 + i]? = some x := ⟨_, List.getElem?_eq_getElem (by omega)⟩
              have hxr : r[i]? = some x := by
                have := hx; rw [HL.out, Nat.add_comm, List.getElem?_cons_succ] at this; exact this
              have hci : wr.cell? ⟨B, o + 1 + i, none⟩ = some (.string x) := by
                rw [Nat.add_assoc]; exact (hBr.cell (p := ⟨B, o + (1 + i), none⟩) hBw).trans (hcell (1 + i) x hx)
              have hxs := hs x (List.mem_of_getElem? hx)
              have hnum42 := num_any x hxs wr (hOR _ hBr).lay
              cases hok : (wordNum x.data.toList).2 with
              | false =>
                rw [hok] at hnum42
                have HF : Hid (parseW l = (zeroV, 7)) := ⟨by
                  rw [HR.out, numsW_bad x hok _ (mem_take hxr hlt)]⟩
                clear hx hxr hok hxs
                go_wp2_with (first
                  | (go_at_call 61; refine hnum42.mono ?_; rintro e w1 ⟨rfl, hB1⟩; have hR1 := (hB1.block _ (blk_lt hR)).trans hR)
                  | (refine gate_ (.store 38 (.tmp 2) (.tmp 63)) rfl ?_; refine wpList_store_row rfl 38 (.tmp 2) (.tmp 63) rfl w.heap.size 38 zeroC zeroC rfl rfl hR1 info38 rfl zeroC_all ?_; intro w2 hR2 _ hB2 _))
                refine bodyPost_ret (results_cell_two rfl _ _ _ _ _ _ _ rfl hR2 Tryz.underlying38 rfl info38) rfl ?_
                exact ⟨by rw [HF.out]; rfl, (below_then hBr hBr.size hB1).trans hB2⟩
              | true =>
                rw [hok] at hnum42
                have HF : Hid (numsW (r.take (i + 1)) = some ([v0, v1, v2, v3].take i ++ [(wordNum x.data.toList).1])) := ⟨by
                  rw [take_snoc _ _ _ hxr, numsW_snoc, HN.out, Option.bind_some, if_pos hok]⟩
                clear hx hxr hok hxs
                generalize (wordNum x.data.toList).1 = u at *
                have hcase : i = 0 ∨ i = 1 ∨ i = 2 ∨ i = 3 := by omega
                rcases hcase with rfl | rfl | rfl | rfl
                · go_wp2_with (go_at_call 61; refine hnum42.mono ?_; rintro e w1 ⟨rfl, hB1⟩; have hR1 := (hB1.block _ (blk_lt hR)).trans hR; have hX1 := (hB1.block _ (blk_lt hX)).trans hX; have hT1 := (hB1.block _ (blk_lt hT)).trans hT; have hp : w1.cell? ⟨w.heap.size + 1 + 1, 0, none⟩ = some (.pointer (some ⟨w.heap.size + 1, 1, none⟩)) := blk_cell hT1 0; have hq : w1.cell? ⟨w.heap.size + 1, 1, none⟩ = some (.int .i64 v0) := blk_cell hX1 1; have hqf := blk_frozen hX1 1)
                  go_roundw
                  case rel =>
                    refine ⟨1, u, v1, v2, v3, by omega, by go_num, blk_far hR1 (by show _ ≠ w.heap.size + 1; omega) _, blk_set hX1 1 _, blk_far hT1 (by show _ ≠ w.heap.size + 1; omega) _, HF, ?_, (below_then hBr hBr.size hB1).setCell (p := ⟨w.heap.size + 1, 1, none⟩) (by show w.heap.size ≤ w.heap.size + 1; omega) _⟩
                    have hz := HZ.out
                    exact ⟨by simp [List.replicate] at hz ⊢; try omega⟩
                  case measure => simp [intOf]; omega
                · go_wp2_with (go_at_call 61; refine hnum42.mono ?_; rintro e w1 ⟨rfl, hB1⟩; have hR1 := (hB1.block _ (blk_lt hR)).trans hR; have hX1 := (hB1.block _ (blk_lt hX)).trans hX; have hT1 := (hB1.block _ (blk_lt hT)).trans hT; have hp : w1.cell? ⟨w.heap.size + 1 + 1, 1, none⟩ = some (.pointer (some ⟨w.heap.size + 1, 2, none⟩)) := blk_cell hT1 1; have hq : w1.cell? ⟨w.heap.size + 1, 2, none⟩ = some (.int .i64 v1) := blk_cell hX1 2; have hqf := blk_frozen hX1 2)
                  go_roundw
                  case rel =>
                    refine ⟨2, v0, u, v2, v3, by omega, by go_num, blk_far hR1 (by show _ ≠ w.heap.size + 1; omega) _, blk_set hX1 2 _, blk_far hT1 (by show _ ≠ w.heap.size + 1; omega) _, HF, ?_, (below_then hBr hBr.size hB1).setCell (p := ⟨w.heap.size + 1, 2, none⟩) (by show w.heap.size ≤ w.heap.size + 1; omega) _⟩
                    have hz := HZ.out
                    exact ⟨by simp [List.replicate] at hz ⊢; try omega⟩
                  case measure => simp [intOf]; omega
                · go_wp2_with (go_at_call 61; refine hnum42.mono ?_; rintro e w1 ⟨rfl, hB1⟩; have hR1 := (hB1.block _ (blk_lt hR)).trans hR; have hX1 := (hB1.block _ (blk_lt hX)).trans hX; have hT1 := (hB1.block _ (blk_lt hT)).trans hT; have hp : w1.cell? ⟨w.heap.size + 1 + 1, 2, none⟩ = some (.pointer (some ⟨w.heap.size + 1, 3, none⟩)) := blk_cell hT1 2; have hq : w1.cell? ⟨w.heap.size + 1, 3, none⟩ = some (.int .i64 v2) := blk_cell hX1 3; have hqf := blk_frozen hX1 3)
                  go_roundw
                  case rel =>
                    refine ⟨3, v0, v1, u, v3, by omega, by go_num, blk_far hR1 (by show _ ≠ w.heap.size + 1; omega) _, blk_set hX1 3 _, blk_far hT1 (by show _ ≠ w.heap.size + 1; omega) _, HF, ?_, (below_then hBr hBr.size hB1).setCell (p := ⟨w.heap.size + 1, 3, none⟩) (by show w.heap.size ≤ w.heap.size + 1; omega) _⟩
                    have hz := HZ.out
                    exact ⟨by simp [List.replicate] at hz ⊢; try omega⟩
                  case measure => simp [intOf]; omega
                · go_wp2_with (go_at_call 61; refine hnum42.mono ?_; rintro e w1 ⟨rfl, hB1⟩; have hR1 := (hB1.block _ (blk_lt hR)).trans hR; have hX1 := (hB1.block _ (blk_lt hX)).trans hX; have hT1 := (hB1.block _ (blk_lt hT)).trans hT; have hp : w1.cell? ⟨w.heap.size + 1 + 1, 3, none⟩ = some (.pointer (some ⟨w.heap.size + 1, 4, none⟩)) := blk_cell hT1 3; have hq : w1.cell? ⟨w.heap.size + 1, 4, none⟩ = some (.int .i64 v3) := blk_cell hX1 4; have hqf := blk_frozen hX1 4)
                  go_roundw
                  case rel =>
                    refine ⟨4, v0, v1, v2, u, by omega, by go_num, blk_far hR1 (by show _ ≠ w.heap.size + 1; omega) _, blk_set hX1 4 _, blk_far hT1 (by show _ ≠ w.heap.size + 1; omega) _, HF, ?_, (below_then hBr hBr.size hB1).setCell (p := ⟨w.heap.size + 1, 4, none⟩) (by show w.heap.size ≤ w.heap.size + 1; omega) _⟩
                    exact ⟨by simp⟩
                  case measure => simp [intOf]; omega
            · obtain rfl : i = n := by omega
              have HT : Hid (parseW l = (⟨c, v0, v1, v2, v3, ⟨#[]⟩⟩, 0)) := ⟨by
                obtain ⟨t0, t1, t2, t3⟩ := take4 (by omega) (by omega) HZ.out
                rw [HR.out, HN.out]
                show tailW c _ _ = _
                rw [tailW, if_neg (by rw [HB.out]; simp), t0, t1, t2, t3]⟩
              obtain ⟨y, hy⟩ : ∃ y, l[i]? = some y := ⟨_, List.getElem?_eq_getElem (by omega)⟩
              have hcy : wr.cell? ⟨B, o + i, none⟩ = some (.string y) := (hBr.cell (p := ⟨B, o + i, none⟩) hBw).trans (hcell i y hy)
              have hx0 : wr.cell? ⟨w.heap.size + 1, 0, none⟩ = some (.int .i64 c) := blk_cell hX 0
              have hwr := hwor _ (hOR _ hBr)
              clear hy
              go_wp2_with (first
                | (go_at_call 30; refine hwr.mono ?_; rintro e w1 ⟨rfl, rfl⟩)
                | (refine gate_ (.load 38 (.tmp 4)) rfl ?_; refine wpList_load_row rfl 38 (.tmp 4) rfl _ rfl _ _ _ _ hX Tryz.underlying38 rfl info38 ?_)
                | (refine gate_ (.store 38 (.tmp 2) (.tmp 88)) rfl ?_; refine wpList_store_row rfl 38 (.tmp 2) (.tmp 88) rfl w.heap.size 38 zeroC _ rfl rfl hR info38 rfl (by simp [Value.oneCell']) ?_; intro w2 hR2 _ hB2 _))
              refine bodyPost_ret (results_cell_two rfl _ _ _ _ _ _ _ rfl hR2 Tryz.underlying38 rfl info38) rfl ?_
              exact ⟨by rw [HT.out]; rfl, hBr.trans hB2⟩
        · have hne : ((l.length : Int) != (n : Int) + 1) = true := by rw [bne_iff_ne]; omega
          have HR : Hid (parseW l = (zeroV, 7)) := ⟨by rw [hP1.out, if_pos (by simpa using hlen)]⟩
          clear hc0 hn hth hlen hb
          go_enter Tryz.func44, Tryz.ntmps44
          go_wp2_with (first
            | (go_at_call 60; refine (hcode _ (hOR _ (b1 _))).mono ?_; rintro e w1 ⟨rfl, rfl⟩)
            | (go_at_call 28; refine (hnum _ (hOR _ (b2 _ _))).mono ?_; rintro e w1 ⟨rfl, rfl⟩)
            | (go_at_call 30; refine (hwor _ (hOR _ (b2 _ _))).mono ?_; rintro e w1 ⟨rfl, rfl⟩))
          refine bodyPost_ret (results_cell_two rfl _ _ _ _ _ _ _ rfl (heap_alloc2_old _ _ _) Tryz.underlying38 rfl info38) rfl ?_
          exact ⟨by rw [HR.out]; rfl, b2 _ _⟩
      | true =>
        rw [hb] at hwor hP1
        by_cases hlen : l.length = n + 1 + 1
        · have hne : ((l.length : Int) != (n : Int) + 1 + 1) = false := by rw [bne_eq_false_iff_eq]; omega
          have HR : Hid (parseW l = match numsW (r.take n) with | none => (zeroV, 7) | some vs => tailW c vs (l.getD (n + 1) ByteArray.empty)) := ⟨by rw [hP1.out, if_neg (by simpa using hlen)]; rfl⟩
          have hcn : n + 1 + 1 ≤ cap := by omega
          have HB := hide_ hb
          clear hc0 hn hth hb
          go_enter Tryz.func44, Tryz.ntmps44
          go_wp2_with (first
            | (go_at_call 60; refine (hcode _ (hOR _ (b1 _))).mono ?_; rintro e w1 ⟨rfl, rfl⟩)
            | (go_at_call 28; refine (hnum _ (hOR _ (b2 _ _))).mono ?_; rintro e w1 ⟨rfl, rfl⟩)
            | (go_at_call 30; refine (hwor _ (hOR _ (b2 _ _))).mono ?_; rintro e w1 ⟨rfl, rfl⟩))
          rw [show 1 + n - 1 = n by omega]
          go_loopw [51] (fun v wr => ∃ (i : Nat) (v0 v1 v2 v3 : Int), i ≤ n ∧ v = .int .i64 i ∧ wr.heap[w.heap.size]? = some (.cells zeroC 38 (0, 0)) ∧ wr.heap[w.heap.size + 1]? = some (.cells #[.int .i64 c, .int .i64 v0, .int .i64 v1, .int .i64 v2, .int .i64 v3, .string ⟨#[]⟩] 38 (0, 0))
            ∧ wr.heap[w.heap.size + 1 + 1]? = some (.cells #[.pointer (some ⟨w.heap.size + 1, 1, none⟩), .pointer (some ⟨w.heap.size + 1, 2, none⟩), .pointer (some ⟨w.heap.size + 1, 3, none⟩), .pointer (some ⟨w.heap.size + 1, 4, none⟩)] 97 (0, 0))
            ∧ Hid (numsW (r.take i) = some ([v0, v1, v2, v3].take i)) ∧ Hid ([v0, v1, v2, v3].drop i = List.replicate (4 - i) 0) ∧ Below w.heap.size w wr) (fun v _ => n - (intOf v).toNat)
          case atStart =>
            refine ⟨0, 0, 0, 0, 0, Nat.zero_le _, rfl, ?_, ?_, ?_, ⟨rfl⟩, ⟨rfl⟩, ?_⟩
            · exact (heap_alloc_old _ _ (by simp; omega)).trans (heap_alloc2_old _ _ _)
            · exact (heap_alloc_old _ _ (by simp)).trans (heap_alloc2_new _ _ _)
            · have h := heap_alloc_new ((w.alloc (.cells #[.int .i64 0, .int .i64 0, .int .i64 0, .int .i64 0, .int .i64 0, .string ⟨#[]⟩] 38)).alloc (.cells #[.int .i64 c, .int .i64 0, .int .i64 0, .int .i64 0, .int .i64 0, .string ⟨#[]⟩] 38)) (.cells #[.pointer (some ⟨w.heap.size + 1, 1, none⟩), .pointer (some ⟨w.heap.size + 1, 2, none⟩), .pointer (some ⟨w.heap.size + 1, 3, none⟩), .pointer (some ⟨w.heap.size + 1, 4, none⟩)] 97)
              rw [World.size_alloc, World.size_alloc] at h
              exact h
            · exact (b2 _ _).alloc (by simp; omega) _
          case round =>
            obtain ⟨i, v0, v1, v2, v3, hi, rfl, hR, hX, hT, HN, HZ, hBr⟩ := hrel
            by_cases hlt : i < n
            · obtain ⟨x, hx⟩ : ∃ x, l[1 + i]? = some x := ⟨_, List.getElem?_eq_getElem (by omega)⟩
              have hxr : r[i]? = some x := by
                have := hx; rw [HL.out, Nat.add_comm, List.getElem?_cons_succ] at this; exact this
              have hci : wr.cell? ⟨B, o + 1 + i, none⟩ = some (.string x) := by
                rw [Nat.add_assoc]; exact (hBr.cell (p := ⟨B, o + (1 + i), none⟩) hBw).trans (hcell (1 + i) x hx)
              have hxs := hs x (List.mem_of_getElem? hx)
              have hnum42 := num_any x hxs wr (hOR _ hBr).lay
              cases hok : (wordNum x.data.toList).2 with
              | false =>
                rw [hok] at hnum42
                have HF : Hid (parseW l = (zeroV, 7)) := ⟨by
                  rw [HR.out, numsW_bad x hok _ (mem_take hxr hlt)]⟩
                clear hx hxr hok hxs
                go_wp2_with (first
                  | (go_at_call 61; refine hnum42.mono ?_; rintro e w1 ⟨rfl, hB1⟩; have hR1 := (hB1.block _ (blk_lt hR)).trans hR)
                  | (refine gate_ (.store 38 (.tmp 2) (.tmp 63)) rfl ?_; refine wpList_store_row rfl 38 (.tmp 2) (.tmp 63) rfl w.heap.size 38 zeroC zeroC rfl rfl hR1 info38 rfl zeroC_all ?_; intro w2 hR2 _ hB2 _))
                refine bodyPost_ret (results_cell_two rfl _ _ _ _ _ _ _ rfl hR2 Tryz.underlying38 rfl info38) rfl ?_
                exact ⟨by rw [HF.out]; rfl, (below_then hBr hBr.size hB1).trans hB2⟩
              | true =>
                rw [hok] at hnum42
                have HF : Hid (numsW (r.take (i + 1)) = some ([v0, v1, v2, v3].take i ++ [(wordNum x.data.toList).1])) := ⟨by
                  rw [take_snoc _ _ _ hxr, numsW_snoc, HN.out, Option.bind_some, if_pos hok]⟩
                clear hx hxr hok hxs
                generalize (wordNum x.data.toList).1 = u at *
                have hcase : i = 0 ∨ i = 1 ∨ i = 2 ∨ i = 3 := by omega
                rcases hcase with rfl | rfl | rfl | rfl
                · go_wp2_with (go_at_call 61; refine hnum42.mono ?_; rintro e w1 ⟨rfl, hB1⟩; have hR1 := (hB1.block _ (blk_lt hR)).trans hR; have hX1 := (hB1.block _ (blk_lt hX)).trans hX; have hT1 := (hB1.block _ (blk_lt hT)).trans hT; have hp : w1.cell? ⟨w.heap.size + 1 + 1, 0, none⟩ = some (.pointer (some ⟨w.heap.size + 1, 1, none⟩)) := blk_cell hT1 0; have hq : w1.cell? ⟨w.heap.size + 1, 1, none⟩ = some (.int .i64 v0) := blk_cell hX1 1; have hqf := blk_frozen hX1 1)
                  go_roundw
                  case rel =>
                    refine ⟨1, u, v1, v2, v3, by omega, by go_num, blk_far hR1 (by show _ ≠ w.heap.size + 1; omega) _, blk_set hX1 1 _, blk_far hT1 (by show _ ≠ w.heap.size + 1; omega) _, HF, ?_, (below_then hBr hBr.size hB1).setCell (p := ⟨w.heap.size + 1, 1, none⟩) (by show w.heap.size ≤ w.heap.size + 1; omega) _⟩
                    have hz := HZ.out
                    exact ⟨by simp [List.replicate] at hz ⊢; try omega⟩
                  case measure => simp [intOf]; omega
                · go_wp2_with (go_at_call 61; refine hnum42.mono ?_; rintro e w1 ⟨rfl, hB1⟩; have hR1 := (hB1.block _ (blk_lt hR)).trans hR; have hX1 := (hB1.block _ (blk_lt hX)).trans hX; have hT1 := (hB1.block _ (blk_lt hT)).trans hT; have hp : w1.cell? ⟨w.heap.size + 1 + 1, 1, none⟩ = some (.pointer (some ⟨w.heap.size + 1, 2, none⟩)) := blk_cell hT1 1; have hq : w1.cell? ⟨w.heap.size + 1, 2, none⟩ = some (.int .i64 v1) := blk_cell hX1 2; have hqf := blk_frozen hX1 2)
                  go_roundw
                  case rel =>
                    refine ⟨2, v0, u, v2, v3, by omega, by go_num, blk_far hR1 (by show _ ≠ w.heap.size + 1; omega) _, blk_set hX1 2 _, blk_far hT1 (by show _ ≠ w.heap.size + 1; omega) _, HF, ?_, (below_then hBr hBr.size hB1).setCell (p := ⟨w.heap.size + 1, 2, none⟩) (by show w.heap.size ≤ w.heap.size + 1; omega) _⟩
                    have hz := HZ.out
                    exact ⟨by simp [List.replicate] at hz ⊢; try omega⟩
                  case measure => simp [intOf]; omega
                · go_wp2_with (go_at_call 61; refine hnum42.mono ?_; rintro e w1 ⟨rfl, hB1⟩; have hR1 := (hB1.block _ (blk_lt hR)).trans hR; have hX1 := (hB1.block _ (blk_lt hX)).trans hX; have hT1 := (hB1.block _ (blk_lt hT)).trans hT; have hp : w1.cell? ⟨w.heap.size + 1 + 1, 2, none⟩ = some (.pointer (some ⟨w.heap.size + 1, 3, none⟩)) := blk_cell hT1 2; have hq : w1.cell? ⟨w.heap.size + 1, 3, none⟩ = some (.int .i64 v2) := blk_cell hX1 3; have hqf := blk_frozen hX1 3)
                  go_roundw
                  case rel =>
                    refine ⟨3, v0, v1, u, v3, by omega, by go_num, blk_far hR1 (by show _ ≠ w.heap.size + 1; omega) _, blk_set hX1 3 _, blk_far hT1 (by show _ ≠ w.heap.size + 1; omega) _, HF, ?_, (below_then hBr hBr.size hB1).setCell (p := ⟨w.heap.size + 1, 3, none⟩) (by show w.heap.size ≤ w.heap.size + 1; omega) _⟩
                    have hz := HZ.out
                    exact ⟨by simp [List.replicate] at hz ⊢; try omega⟩
                  case measure => simp [intOf]; omega
                · go_wp2_with (go_at_call 61; refine hnum42.mono ?_; rintro e w1 ⟨rfl, hB1⟩; have hR1 := (hB1.block _ (blk_lt hR)).trans hR; have hX1 := (hB1.block _ (blk_lt hX)).trans hX; have hT1 := (hB1.block _ (blk_lt hT)).trans hT; have hp : w1.cell? ⟨w.heap.size + 1 + 1, 3, none⟩ = some (.pointer (some ⟨w.heap.size + 1, 4, none⟩)) := blk_cell hT1 3; have hq : w1.cell? ⟨w.heap.size + 1, 4, none⟩ = some (.int .i64 v3) := blk_cell hX1 4; have hqf := blk_frozen hX1 4)
                  go_roundw
                  case rel =>
                    refine ⟨4, v0, v1, v2, u, by omega, by go_num, blk_far hR1 (by show _ ≠ w.heap.size + 1; omega) _, blk_set hX1 4 _, blk_far hT1 (by show _ ≠ w.heap.size + 1; omega) _, HF, ?_, (below_then hBr hBr.size hB1).setCell (p := ⟨w.heap.size + 1, 4, none⟩) (by show w.heap.size ≤ w.heap.size + 1; omega) _⟩
                    exact ⟨by simp⟩
                  case measure => simp [intOf]; omega
            · obtain rfl : i = n := by omega
              obtain ⟨y, hy⟩ : ∃ y, l[i + 1]? = some y := ⟨_, List.getElem?_eq_getElem (by omega)⟩
              have HT : Hid (parseW l = if y ≠ ⟨#[45]⟩ then (if rightW y.data.toList = true then (⟨c, v0, v1, v2, v3, y⟩, 0) else (zeroV, 7)) else (⟨c, v0, v1, v2, v3, ⟨#[]⟩⟩, 0)) := ⟨by
                obtain ⟨t0, t1, t2, t3⟩ := take4 (by omega) (by omega) HZ.out
                have hgy : l.getD (i + 1) ByteArray.empty = y := by simp [List.getD, hy]
                rw [HR.out, HN.out]
                show tailW c _ _ = _
                rw [tailW, t0, t1, t2, t3, hgy, HB.out]
                simp only [true_and]⟩
              have hcy : wr.cell? ⟨B, o + (i + 1), none⟩ = some (.string y) := (hBr.cell (p := ⟨B, o + (i + 1), none⟩) hBw).trans (hcell (i + 1) y hy)
              have hx0 : wr.cell? ⟨w.heap.size + 1, 0, none⟩ = some (.int .i64 c) := blk_cell hX 0
              have hwr := hwor _ (hOR _ hBr)
              have hri := right_any y wr
              clear hy
              by_cases hmin : y = ⟨#[45]⟩
              · rw [if_neg (by simpa using hmin)] at HT
                have hm : (y.toList == [45]) = true := by rw [hmin, beq_iff_eq]; exact ByteArray.toList_eq _
                clear hmin
                go_wp2_with (first
                  | (go_at_call 30; refine hwr.mono ?_; rintro e w1 ⟨rfl, rfl⟩)
                  | (refine gate_ (.load 38 (.tmp 4)) rfl ?_; refine wpList_load_row rfl 38 (.tmp 4) rfl _ rfl _ _ _ _ hX Tryz.underlying38 rfl info38 ?_)
                  | (refine gate_ (.store 38 (.tmp 2) (.tmp 88)) rfl ?_; refine wpList_store_row rfl 38 (.tmp 2) (.tmp 88) rfl w.heap.size 38 zeroC _ rfl rfl hR info38 rfl (by simp [Value.oneCell']) ?_; intro w2 hR2 _ hB2 _))
                refine bodyPost_ret (results_cell_two rfl _ _ _ _ _ _ _ rfl hR2 Tryz.underlying38 rfl info38) rfl ?_
                exact ⟨by rw [HT.out]; rfl, hBr.trans hB2⟩
              · rw [if_pos hmin] at HT
                have hm : (y.toList == [45]) = false := by
                  rw [beq_eq_false_iff_ne]; intro h; exact hmin (toList_inj (h.trans (ByteArray.toList_eq ⟨#[45]⟩).symm))
                clear hmin
                cases hrw : rightW y.data.toList with
                | false =>
                  rw [hrw] at HT hri
                  clear hrw
                  go_wp2_with (first
                    | (go_at_call 30; refine hwr.mono ?_; rintro e w1 ⟨rfl, rfl⟩)
                    | (go_at_call 48; refine hri.mono ?_; rintro e w1 ⟨rfl, hB1⟩; have hR1 := (hB1.block _ (blk_lt hR)).trans hR)
                    | (refine gate_ (.store 38 (.tmp 2) (.tmp 85)) rfl ?_; refine wpList_store_row rfl 38 (.tmp 2) (.tmp 85) rfl w.heap.size 38 zeroC zeroC rfl rfl hR1 info38 rfl zeroC_all ?_; intro w2 hR2 _ hB2 _))
                  refine bodyPost_ret (results_cell_two rfl _ _ _ _ _ _ _ rfl hR2 Tryz.underlying38 rfl info38) rfl ?_
                  exact ⟨by rw [HT.out]; rfl, (below_then hBr hBr.size hB1).trans hB2⟩
                | true =>
                  rw [hrw] at HT hri
                  clear hrw
                  go_wp2_with (first
                    | (go_at_call 30; refine hwr.mono ?_; rintro e w1 ⟨rfl, rfl⟩)
                    | (go_at_call 48; refine hri.mono ?_; rintro e w1 ⟨rfl, hB1⟩; have hR1 := (hB1.block _ (blk_lt hR)).trans hR; have hX1 := (hB1.block _ (blk_lt hX)).trans hX; have hq : w1.cell? ⟨w.heap.size + 1, 5, none⟩ = some (.string ⟨#[]⟩) := blk_cell hX1 5; have hqf := blk_frozen hX1 5; have hX2 : (w1.setCell ⟨w.heap.size + 1, 5, none⟩ (.string y)).heap[w.heap.size + 1]? = some (.cells #[.int .i64 c, .int .i64 v0, .int .i64 v1, .int .i64 v2, .int .i64 v3, .string y] 38 (0, 0)) := blk_set hX1 5 (.string y); have hR2 := blk_far (p := ⟨w.heap.size + 1, 5, none⟩) hR1 (by show _ ≠ w.heap.size + 1; omega) (.string y))
                    | (refine gate_ (.load 38 (.tmp 4)) rfl ?_; refine wpList_load_row rfl 38 (.tmp 4) rfl _ rfl _ _ _ _ hX2 Tryz.underlying38 rfl info38 ?_)
                    | (refine gate_ (.store 38 (.tmp 2) (.tmp 88)) rfl ?_; refine wpList_store_row rfl 38 (.tmp 2) (.tmp 88) rfl w.heap.size 38 zeroC _ rfl rfl hR2 info38 rfl (by simp [Value.oneCell']) ?_; intro w2 hR3 _ hB2 _))
                  refine bodyPost_ret (results_cell_two rfl _ _ _ _ _ _ _ rfl hR3 Tryz.underlying38 rfl info38) rfl ?_
                  exact ⟨by rw [HT.out]; rfl, ((below_then hBr hBr.size hB1).setCell (p := ⟨w.heap.size + 1, 5, none⟩) (by show w.heap.size ≤ w.heap.size + 1; omega) _).trans hB2⟩
        · have hne : ((l.length : Int) != (n : Int) + 1 + 1) = true := by rw [bne_iff_ne]; omega
          have HR : Hid (parseW l = (zeroV, 7)) := ⟨by rw [hP1.out, if_pos (by simpa using hlen)]⟩
          clear hc0 hn hth hlen hb
          go_enter Tryz.func44, Tryz.ntmps44
          go_wp2_with (first
            | (go_at_call 60; refine (hcode _ (hOR _ (b1 _))).mono ?_; rintro e w1 ⟨rfl, rfl⟩)
            | (go_at_call 28; refine (hnum _ (hOR _ (b2 _ _))).mono ?_; rintro e w1 ⟨rfl, rfl⟩)
            | (go_at_call 30; refine (hwor _ (hOR _ (b2 _ _))).mono ?_; rintro e w1 ⟨rfl, rfl⟩))
          refine bodyPost_ret (results_cell_two rfl _ _ _ _ _ _ _ rfl (heap_alloc2_old _ _ _) Tryz.underlying38 rfl info38) rfl ?_
          exact ⟨by rw [HR.out]; rfl, b2 _ _⟩
end Go.Proofs.YtmjedjhgomlfiaaGreatDoor
