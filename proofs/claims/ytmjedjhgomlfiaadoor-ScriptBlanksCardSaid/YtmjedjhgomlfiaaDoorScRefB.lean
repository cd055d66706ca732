/- Scripts: the document's side, the example, and the laws ScriptParses and ScriptBlanks. -/
import Derived.Test.YtmjedjhgomlfiaaDoorRef21
import Derived.Test.YtmjedjhgomlfiaaDoorScAll
import Derived.Test.YtmjedjhgomlfiaaDoorROpParse
set_option linter.unusedSimpArgs false
namespace Go.Proofs.YtmjedjhgomlfiaaDoor
open Go.RowKit Go.Proofs.YtmjedjhgomlfiaaDoorW.PrintWords Go.Lib Ref21

/-- The lines of the document: none behind the last end. -/
def rl (l : List UInt8) : List (List UInt8) := if l = [] then [] else spn (Lib.trimSuffix l [10])
theorem trim_snoc (a : List UInt8) : Lib.trimSuffix (a ++ [10]) [10] = a := by
  unfold Lib.trimSuffix Lib.hasSuffix
  rw [if_pos (by rw [List.isSuffixOf_iff_suffix]; exact List.suffix_append _ _)]
  simp
theorem trim_keep {l : List UInt8} (h : ¬ [10] <:+ l) : Lib.trimSuffix l [10] = l := by
  unfold Lib.trimSuffix Lib.hasSuffix
  rw [if_neg (by rw [List.isSuffixOf_iff_suffix]; exact h)]
theorem suffix_tail {a b : List UInt8} (hb : b ≠ []) (c : UInt8) : [c] <:+ (a ++ b) ↔ [c] <:+ b := by
  constructor
  · rintro ⟨t, ht⟩
    obtain ⟨i, x, rfl⟩ : ∃ i x, b = i ++ [x] := ⟨b.dropLast, b.getLast hb, (List.dropLast_concat_getLast hb).symm⟩
    rw [← List.append_assoc] at ht
    obtain ⟨_, h2⟩ := List.append_inj' ht rfl
    rw [h2]
    exact List.suffix_append _ _
  · exact fun h => h.trans (List.suffix_append _ _)
theorem trim_cut (a b : List UInt8) (hb : b ≠ []) : Lib.trimSuffix (a ++ 10 :: b) [10] = a ++ 10 :: Lib.trimSuffix b [10] := by
  by_cases h : [10] <:+ b
  · obtain ⟨t, rfl⟩ := h
    rw [show a ++ 10 :: (t ++ [10]) = (a ++ 10 :: t) ++ [10] by simp, trim_snoc, trim_snoc]
  · rw [trim_keep h, trim_keep]
    intro h2
    rw [show a ++ 10 :: b = (a ++ [10]) ++ b by simp, suffix_tail hb] at h2
    exact h h2
theorem rl_nil : rl [] = [] := rfl
theorem rl_free {a : List UInt8} (ha : ∀ b ∈ a, b ≠ 10) (hn : a ≠ []) : rl a = [a] := by
  rw [rl, if_neg hn, trim_keep, spn_free a ha]
  rintro ⟨t, rfl⟩
  exact ha 10 (by simp) rfl
theorem rl_cut (a b : List UInt8) (ha : ∀ c ∈ a, c ≠ 10) : rl (a ++ 10 :: b) = a :: rl b := by
  rw [rl, if_neg (by simp)]
  by_cases hb : b = []
  · subst hb
    rw [trim_snoc, spn_free a ha, rl_nil]
  · rw [trim_cut a b hb, spn_cut _ _ ha, rl, if_neg hb]
/-- A text's lines, on the document's side. -/
def linesR (s : ByteArray) : List ByteArray := (rl s.data.toList).map ofL
theorem ext_at (s : ByteArray) (i j : Nat) : s.extract i j = ofL ((s.data.toList.drop i).take (j - i)) := by
  apply ByteArray.ext
  apply Array.toList_inj.1
  simp [ofL, List.extract_eq_take_drop]

theorem lines_l0 (s : ByteArray) (hs : s.size ≤ 4294967296) : ∀ (m f i : Nat) (out : List ByteArray), f ≤ i → i + m = s.size → out.length ≤ i → (∀ b ∈ (s.data.toList.drop f).take (i - f), b ≠ 10) →
    towncrierref21_Lines.l0 (m + 1) s out f i = some (out ++ (rl (s.data.toList.drop f)).map ofL)
  | 0, f, i, out, hf, hm, hol, hfree => by
    have hsz : s.size = s.data.toList.length := rfl
    rw [towncrierref21_Lines.l0, if_neg (by omega)]
    by_cases h : f < s.size
    · rw [if_pos (by omega), if_pos (by omega), if_pos (by omega), if_pos (by omega)]
      have hfr : ∀ b ∈ s.data.toList.drop f, b ≠ 10 := by
        rwa [List.take_of_length_le (by rw [List.length_drop]; omega)] at hfree
      have hne : s.data.toList.drop f ≠ [] := by
        intro e
        have := congrArg List.length e
        rw [List.length_drop] at this
        simp at this
        omega
      rw [rl_free hfr hne, Int.toNat_natCast, ext_at, List.take_of_length_le (by rw [List.length_drop]; omega)]
      rfl
    · rw [if_neg (by omega), List.drop_eq_nil_of_le (by omega), rl_nil]
      simp
  | m + 1, f, i, out, hf, hm, hol, hfree => by
    have hsz : s.size = s.data.toList.length := rfl
    have hi : i < s.data.toList.length := by omega
    have hb : bt s (i : Int) = (s.data.toList[i].toNat : Int) := by
      unfold bt
      rw [dif_pos (by rw [Int.toNat_natCast]; omega)]
      rfl
    have hdr : s.data.toList.drop f = (s.data.toList.drop f).take (i - f) ++ s.data.toList[i] :: s.data.toList.drop (i + 1) := by
      have h1 : i - f < (s.data.toList.drop f).length := by rw [List.length_drop]; omega
      have h2 := List.take_append_drop (i - f) (s.data.toList.drop f)
      rw [List.drop_eq_getElem_cons h1, List.getElem_drop, List.drop_drop] at h2
      have e1 : f + (i - f) = i := by omega
      have e2 : f + (i - f + 1) = i + 1 := by omega
      simp only [e1, e2] at h2
      exact h2.symm
    rw [towncrierref21_Lines.l0, if_pos (by omega), if_pos (by omega), hb]
    by_cases h10 : s.data.toList[i] = 10
    · rw [if_pos (by rw [h10]; rfl), if_pos (by omega), if_pos (by omega), if_pos (by omega), if_pos (by omega), IntWalk.wrap64_in _ (by omega), show ((i : Int) + 1) = ((i + 1 : Nat) : Int) by omega]
      rw [lines_l0 s hs m (i + 1) (i + 1) _ (Nat.le_refl _) (by omega) (by simp; omega) (by simp)]
      conv => rhs; rw [hdr, h10, rl_cut _ _ hfree]
      rw [Int.toNat_natCast, Int.toNat_natCast, ext_at]
      simp
    · rw [if_neg (fun h => h10 (UInt8.toNat_inj.1 (by
        have : (s.data.toList[i].toNat : Int) = 10 := h
        show s.data.toList[i].toNat = 10
        omega))), IntWalk.wrap64_in _ (by omega), show ((i : Int) + 1) = ((i + 1 : Nat) : Int) by omega]
      refine lines_l0 s hs m f (i + 1) out (by omega) (by omega) (by omega) ?_
      intro b hbm
      rw [show i + 1 - f = (i - f) + 1 by omega, List.take_add_one] at hbm
      rcases List.mem_append.1 hbm with h | h
      · exact hfree b h
      · rw [List.getElem?_drop, show f + (i - f) = i by omega, List.getElem?_eq_getElem hi] at h
        simp at h
        rw [h]; exact h10
theorem lines_f (s : ByteArray) (hs : s.size ≤ 4294967296) : towncrierref21_Lines.f (s.size + 1) s = some (linesR s) := by
  have := lines_l0 s hs s.size 0 0 [] (Nat.le_refl _) (by omega) (Nat.le_refl _) (by simp)
  rw [towncrierref21_Lines.f]; simpa [linesR] using this
theorem rlines_any (s : ByteArray) (w : World) (hs : s.size ≤ 4294967296) :
    Calls Tryd.prog 53 #[.string s] w fun e w' => ∃ v, e = .returned v ∧ Kd.R Kd.string 9 w' w.heap.size (fun _ => True) v (linesR s) ∧ Below w.heap.size w w' := towncrierref21_Lines.calls _ s _ w (lines_f s hs)
/-- What the program says of its own lines it says of the document's. -/
theorem script_lines (s : ByteArray) : runW (linesR s) 0 zeroP = scriptW s := by
  unfold scriptW linesR rl
  split
  · rename_i h
    rw [h]
    rfl
  · rfl
end Go.Proofs.YtmjedjhgomlfiaaDoor

set_option linter.unusedSimpArgs false
namespace Go.Proofs.YtmjedjhgomlfiaaDoor
open Go.RowKit Go.Proofs.YtmjedjhgomlfiaaDoorW.PrintWords Go.Proofs.YtmjedjhgomlfiaaDoorW.PrintLast Go.Lib

theorem stW_take {L : List ByteArray} {j : Nat} {s : ByteArray} {q : ProgV} (hs : L[j]? = some s) (hq : stW (L.take j) zeroP = some q) :
    stW (L.take (j + 1)) zeroP = if (lineW q s).2 = 0 then some (lineW q s).1 else none := by
  rw [List.take_add_one, hs, Option.toList_some, stW_snoc, hq, Option.bind_some]
theorem runW_take {L : List ByteArray} {j : Nat} {s : ByteArray} {q : ProgV} (hs : L[j]? = some s) (hq : stW (L.take j) zeroP = some q) (he : (lineW q s).2 ≠ 0) :
    runW L 0 zeroP = (zeroP, ((j + 1 : Nat) : Int), (lineW q s).2) := by
  have hj : j < L.length := (List.getElem?_eq_some_iff.1 hs).1
  have h := runW_err hq he (L := L) (by
    have : L.take j ++ [s] = L.take (j + 1) := by rw [List.take_add_one, hs]; rfl
    rw [this]; exact List.take_prefix _ _)
  rwa [List.length_take, Nat.min_eq_left (by omega)] at h
/-- Rows of texts are kept. -/
def Kept9 (w w' : World) : Prop := ∀ (g : Nat) (cs : Array Value), w.heap[g]? = some (.cells cs 9 (0, 0)) → w'.heap[g]? = some (.cells cs 9 (0, 0))
theorem Kept9.trans {a b c : World} (h : Kept9 a b) (k : Kept9 b c) : Kept9 a c := fun g cs hg => k g cs (h g cs hg)
theorem Kept9.of_below {w w' : World} (h : Below w.heap.size w w') : Kept9 w w' := fun _ _ hg => blk_below hg h
theorem Kept9.of_other {w w' : World} (h : Other w w') : Kept9 w w' := fun g _ hg => h g _ hg (fun _ _ e => by injection e with _ e; subst e; decide)
theorem line_cell {w : World} {base : Nat} {v : Value} {L : List ByteArray} (h : Kd.string.R 9 w base (fun _ => True) v L) {j : Nat} {s : ByteArray} (hs : L[j]? = some s) :
    ∃ g cap, v = .slice (some ⟨g, 0, none⟩) L.length cap ∧ ∀ w', Kept9 w w' → w'.cell? ⟨g, j, none⟩ = some (.string s) := by
  have hj : j < L.length := (List.getElem?_eq_some_iff.1 hs).1
  obtain ⟨g, cap, rfl, _, _, cs, hcs⟩ := Kd.R_form h (by omega)
  refine ⟨g, cap, rfl, fun w' hk => ?_⟩
  have hC := (Kd.R_reads' h).2.2
  obtain ⟨ad, hA, hc⟩ := hC.2.2 (by omega)
  obtain rfl := Option.some.inj hA
  obtain ⟨cs2, _, h2, h3⟩ := hc j s hs
  have h2' : cs2 = [.string s] := h2
  have := h3 0 (.string s) (by rw [h2']; rfl)
  rw [show j * Kd.string.sz + 0 = j from Nat.mul_one j, Go.Proofs.YtmjedjhgomlfiaaDoorW.PrintWords.add_plain, blk_cell hcs] at this
  rw [blk_cell (hk _ _ hcs), this]

theorem words_ne {s h : ByteArray} (hh : h ∈ words s) : ∃ c cs, h.data.toList = c :: cs := by
  rw [words_W, W] at hh
  obtain ⟨y, hy, rfl⟩ := List.mem_map.1 hh
  have h2 := (List.mem_filter.1 hy).2
  cases y with
  | nil => simp at h2
  | cons c cs => exact ⟨c, cs, rfl⟩
theorem two_new {w w1 : World} {o : Obj} (h : Below ((w.alloc o).alloc o).heap.size ((w.alloc o).alloc o) w1) : w1.heap[w.heap.size]? = some o ∧ w1.heap[w.heap.size + 1]? = some o ∧ Below w.heap.size w w1 ∧ w.heap.size + 2 ≤ w1.heap.size :=
  ⟨blk_below (alloc_at (alloc_new' rfl) _) h, blk_below (alloc_new' (by simp)) h, below_then (below_alloc (below_alloc (Below.refl _ w) _) _) (below_alloc (below_alloc (Below.refl _ w) _) _).size h, by have := h.size; simp at this; omega⟩

set_option maxRecDepth 100000 in
set_option maxHeartbeats 3200000 in
theorem rscript_any (s : ByteArray) (w : World) (hs : s.size ≤ 10000) :
    Calls Tryd.prog 49 #[.string s] w fun e w' => ∃ vm vc, e = .returned (.tuple #[.agg #[vm, vc], .int .i64 (scriptW s).2.1, .int .i64 (scriptW s).2.2]) ∧ ReadsP w' vm vc (scriptW s).1 ∧ Below w.heap.size w w' := by
  have HS := hide_ (script_lines s).symm
  have hlines := fun W => rlines_any s W (by omega)
  have hlen : (linesR s).length ≤ 10001 := by
    have h1 := spn_count (Lib.trimSuffix s.data.toList [10])
    have h2 := trim_le s.data.toList
    have h3 : s.data.toList.length = s.size := rfl
    simp only [linesR, rl, List.length_map]
    split
    · simp
    · omega
  have hls : ∀ t ∈ linesR s, t.size ≤ 10000 := by
    intro t ht
    obtain ⟨t', h2, rfl⟩ := List.mem_map.1 ht
    have h1 := trim_le s.data.toList
    have h3 : s.data.toList.length = s.size := rfl
    unfold rl at h2
    split at h2
    · cases h2
    · have := spn_len _ t' h2
      rw [Lib.size_eq, data_ofL]
      omega
  generalize linesR s = L at *
  go_enter Tryd.func49, Tryd.ntmps49
  go_wp2_with (go_at_call 53; refine (hlines _).mono ?_; rintro e w1 ⟨v, rfl, hR1, hB1⟩; obtain ⟨hc0, hc1, hBw, hsz1⟩ := two_new hB1; obtain ⟨A, cap, rfl⟩ := Kd.R_slice hR1)
  clear hB1 hlines
  go_loopw [7, 8] (fun o i wr => ∃ (j : Nat) (q : ProgV), j ≤ L.length ∧ i = .int .i64 j ∧ o = .int .i64 (countP q) ∧ Hid (stW (L.take j) zeroP = some q) ∧ OwnsP wr (w.heap.size + 1) (w.heap.size + 1) q ∧ Below w.heap.size w wr ∧ wr.heap[w.heap.size]? = some (.cells #[.slice none 0 0, .slice none 0 0] 60 (0, 0)) ∧ Kept9 w1 wr ∧ w.heap.size + 2 ≤ wr.heap.size) (fun _ i _ => L.length - (intOf i).toNat)
  case atStart => exact ⟨0, zeroP, Nat.zero_le _, rfl, rfl, ⟨rfl⟩, OwnsP.nil hc1 (Nat.le_refl _), hBw, hc0, fun _ _ h => h, hsz1⟩
  case round =>
    clear hc0 hc1 hBw hsz1
    obtain ⟨j, q, hj, rfl, rfl, HST, hP, hB, hr0, hK9, hsz⟩ := hrel
    have hq := stW_count (L.take j) zeroP q HST.out
    have hz0 : countP zeroP = 0 := rfl
    have hz1 : zeroP.calls.length = 0 := rfl
    have htl : (L.take j).length ≤ 10001 := by rw [List.length_take]; omega
    have hqc : countP q ≤ 10001 := by omega
    have hql : q.calls.length ≤ 10001 := by omega
    clear hq hz0 hz1 htl
    by_cases hlt : j < L.length
    · obtain ⟨t, ht⟩ : ∃ t, L[j]? = some t := ⟨_, List.getElem?_eq_getElem hlt⟩
      obtain ⟨g, c0, hv, hcell⟩ := line_cell hR1 ht
      injection hv with e1 e2 e3
      subst e1 e3
      have hcw := hcell wr hK9
      have hts : t.size ≤ 10000 := hls t (List.mem_of_getElem? ht)
      have hwl := words_length t
      have hws : ∀ x ∈ words t, x.size ≤ 281474976710656 := fun x hx => by have := words_size hx; omega
      have hnext := stW_take ht HST.out
      have hline : lineW q t = if saysW (words t) = true then takeW q (words t) else (q, 0) := rfl
      have hsp := fun W => refSplit_len t W (by omega)
      clear e2 hls hcell hR1
      cases hW : words t with
      | nil =>
        rw [hW] at hline
        have hl : lineW q t = (q, 0) := hline
        rw [hl, if_pos rfl] at hnext
        have HN := hide_ hnext
        simp only [hW] at hsp
        clear hnext hline hl hwl hws hW
        go_wp2_with (go_at_call 16; refine (hsp _).mono ?_; rintro e w2 ⟨A2, c2, rfl, hc2, hC2, hB2⟩)
        go_roundw
        case rel => exact ⟨j + 1, q, by omega, by go_num, rfl, HN, hP.keep (KeptP.of_below hB2), below_then hB hB.size hB2, blk_below hr0 hB2, hK9.trans (Kept9.of_below hB2), Nat.le_trans hsz hB2.size⟩
        case measure => simp [intOf]; omega
      | cons h r =>
        obtain ⟨c, cs, hcs⟩ : ∃ c cs, h.data.toList = c :: cs := words_ne (s := t) (by rw [hW]; simp)
        have hsay : saysW (h :: r) = !(35 == c) := by simp [saysW, Lib.hasPrefix, hcs, List.isPrefixOf]
        rw [hW] at hline hwl hws
        have hlen2 : (h :: r).length = r.length + 1 := rfl
        simp only [hW] at hsp
        generalize hll : h :: r = ll at *
        have hcell : ∀ A2 W, Kd.string.C W A2 ll.length ll → ∃ B o, A2 = some ⟨B, o, none⟩ ∧ W.cell? ⟨B, o, none⟩ = some (.string h) := fun A2 W hC => by
          obtain ⟨B, o, e, _, hc⟩ := C_str hC (by rw [← hll]; simp)
          exact ⟨B, o, e, hc 0 h (by rw [← hll]; rfl)⟩
        have hb0 : ∀ hh : 0 < h.size, h[0]'hh = c := fun hh => by
          have : h.data.toList[0]? = some c := by rw [hcs]; rfl
          rw [Array.getElem?_toList] at this
          exact (Array.getElem?_eq_some_iff.1 this).2
        have hhs : 0 < h.size := by rw [Lib.size_eq, hcs]; simp
        have hb1 := hb0 hhs
        by_cases h35 : c = 35
        · subst h35
          rw [hsay] at hline
          have hl : lineW q t = (q, 0) := hline
          rw [hl, if_pos rfl] at hnext
          have HN := hide_ hnext
          clear hnext hline hl hws hW hsay hll
          go_wp2_with ((go_at_call 16; refine (hsp _).mono ?_; rintro e w2 ⟨A2, c2, rfl, hc2, hC2, hB2⟩); obtain ⟨B, o, rfl, hcell2⟩ := hcell _ _ hC2)
          go_roundw
          case rel => exact ⟨j + 1, q, by omega, by go_num, rfl, HN, hP.keep (KeptP.of_below hB2), below_then hB hB.size hB2, blk_below hr0 hB2, hK9.trans (Kept9.of_below hB2), Nat.le_trans hsz hB2.size⟩
          case measure => simp [intOf]; omega
        · rw [hsay, show (35 == c) = false from beq_eq_false_iff_ne.2 (fun e => h35 e.symm)] at hline
          have hl : lineW q t = takeW q ll := hline
          rw [hl] at hnext
          have hcb : ((c.toNat : Int) == 35) = false := by
            rw [beq_eq_false_iff_ne]
            exact fun e => h35 (UInt8.toNat_inj.1 (by show c.toNat = 35; omega))
          have HRET : ∀ W f, Below w.heap.size w W → W.heap[w.heap.size]? = some (.cells #[.slice none 0 0, .slice none 0 0] 60 (0, 0)) → runW L 0 zeroP = (zeroP, ((j + 1 : Nat) : Int), f) → ∀ e : Ending, e = .returned (.tuple #[.agg #[.slice none 0 0, .slice none 0 0], .int .i64 ((j : Int) + 1), .int .i64 f]) → ∃ vm vc, e = .returned (.tuple #[.agg #[vm, vc], .int .i64 (scriptW s).2.1, .int .i64 (scriptW s).2.2]) ∧ ReadsP ((W.setCell ⟨w.heap.size, 0, none⟩ (.slice none 0 0)).setCell ⟨w.heap.size, 1, none⟩ (.slice none 0 0)) vm vc (scriptW s).1 ∧ Below w.heap.size w ((W.setCell ⟨w.heap.size, 0, none⟩ (.slice none 0 0)).setCell ⟨w.heap.size, 1, none⟩ (.slice none 0 0)) := fun W f hb _ he e hx => by
            subst hx
            rw [HS.out, he]
            exact ⟨_, _, by simp, readsP_nil _, below_set_cell (below_set_cell hb (Nat.le_refl _) _ _) (Nat.le_refl _) _ _⟩
          have HRES : ∀ (W : World) (tmps : Array Value) (x y : Value), W.heap[w.heap.size]? = some (.cells #[.slice none 0 0, .slice none 0 0] 60 (0, 0)) → tmps.getD 2 undef = .pointer (some ⟨w.heap.size, 0, none⟩) → tmps.getD 3 undef = x → tmps.getD 4 undef = y →
              (results Tryd.f49 tmps).run Tryd.prog ((W.setCell ⟨w.heap.size, 0, none⟩ (.slice none 0 0)).setCell ⟨w.heap.size, 1, none⟩ (.slice none 0 0)) = .ok (.tuple #[.agg #[.slice none 0 0, .slice none 0 0], x, y]) ((W.setCell ⟨w.heap.size, 0, none⟩ (.slice none 0 0)).setCell ⟨w.heap.size, 1, none⟩ (.slice none 0 0)) := fun W tmps x y hr h2 h3 h4 => by
            subst h3 h4
            exact results_list (rs := [.cell 2 60, .tmp 3, .tmp 4]) rfl (by simp) (.cell w.heap.size 60 #[.slice none 0 0, .slice none 0 0] (0, 0) _ h2 (blk_put (blk_put hr 0 (.slice none 0 0) (cs' := #[.slice none 0 0, .slice none 0 0]) rfl) 1 (.slice none 0 0) rfl) Tryd.underlying60 rfl (by kernel_rfl) (.tmp (.tmp .nil)))
          have HREL : Hid (∀ (W : World) (q' : ProgV) (o i : Value), stW (L.take (j + 1)) zeroP = some q' → o = .int .i64 (countP q') → OwnsP W (w.heap.size + 1) (w.heap.size + 1) q' → Below (w.heap.size + 1) wr W → Other wr W → i = .int .i64 ((j + 1 : Nat) : Int) →
              ∃ (j : Nat) (q : ProgV), j ≤ L.length ∧ i = .int .i64 j ∧ o = .int .i64 (countP q) ∧ Hid (stW (L.take j) zeroP = some q) ∧ OwnsP W (w.heap.size + 1) (w.heap.size + 1) q ∧ Below w.heap.size w W ∧ W.heap[w.heap.size]? = some (.cells #[.slice none 0 0, .slice none 0 0] 60 (0, 0)) ∧ Kept9 w1 W ∧ w.heap.size + 2 ≤ W.heap.size) :=
            ⟨fun W q' o i h1 h2 h3 h4 h5 h6 => ⟨j + 1, q', by omega, h6, h2, ⟨h1⟩, h3, hB.trans (h4.mono (Nat.le_succ _)), (h4.block _ (by omega)).trans hr0, hK9.trans (Kept9.of_other h5), Nat.le_trans hsz h4.size⟩⟩
          by_cases hcall : ll = [callW]
          · subst hcall
            obtain ⟨rfl, rfl⟩ := List.cons.inj hll
            have hcw2 : (callW.toList == [99, 97, 108, 108]) = true := by rw [ByteArray.toList_eq]; rfl
            by_cases h64 : 64 ≤ q.calls.length
            · have hT : takeW q [callW] = (q, 9) := by rw [takeW, if_pos rfl, if_pos h64]
              have HE := hide_ (runW_take ht HST.out (by rw [hl, hT]; exact (by decide : ¬ ((9 : Int) = 0))))
              rw [hl, hT] at HE
              have h64' : (64 : Int) ≤ (q.calls.length : Int) := by omega
              clear hnext hline hl hws hW hsay
              go_wp2_with ((go_at_call 16; refine (hsp _).mono ?_; rintro e w2 ⟨A2, c2, rfl, hc2, hC2, hB2⟩); obtain ⟨B, o, rfl, hcell2⟩ := hcell _ _ hC2; have hP2 := hP.keep (KeptP.of_below hB2); obtain ⟨vm, vc, p1, -, -, p4⟩ := hP2; obtain ⟨Av, cv, rfl, -, -⟩ := Kd.S_reads p4; have z1 := blk_cell p1 1; have r0 := blk_below hr0 hB2; have y0 := blk_cell r0 0; have y1 := blk_cell r0 1; have f0 := blk_frozen r0 0; have f1 := blk_frozen r0 1)
              refine bodyPost_ret (HRES _ _ _ _ r0 rfl rfl rfl) rfl ?_
              exact HRET _ _ (below_then hB hB.size hB2) r0 HE.out _ rfl
            · have hT : takeW q [callW] = (⟨q.main, q.calls ++ [[]]⟩, 0) := by rw [takeW, if_pos rfl, if_neg h64]
              rw [hT, if_pos rfl] at hnext
              have HN := hide_ hnext
              have h64' : ¬ (64 : Int) ≤ (q.calls.length : Int) := by omega
              have hlt64 : q.calls.length < 64 := by omega
              have e2 : (q.calls ++ [([] : List OpV)]).length = q.calls.length + 1 := by simp
              have HC := hide_ (show countP ⟨q.main, q.calls ++ [[]]⟩ = countP q by simp [countP, sumL, List.map_append])
              clear hnext hline hl hws hW hsay hT h64
              go_wp2_with (first
                | ((go_at_call 16; refine (hsp _).mono ?_; rintro e w2 ⟨A2, c2, rfl, hc2, hC2, hB2⟩); obtain ⟨B, o, rfl, hcell2⟩ := hcell _ _ hC2; have hP2 := hP.keep (KeptP.of_below hB2); obtain ⟨vm, vc, p1, p2, p3, p4⟩ := hP2; obtain ⟨Av, cv, rfl, -, -⟩ := Kd.S_reads p4; have z1 := blk_cell p1 1; have hvm : ∀ k, w2.heap.size ≤ k → some k ≠ vm.ownBlock := fun k hk e => by have := Kd.R_lt p3 k e.symm; omega)
                | (at_builtin; refine Kd.S_append kCalls (w0 := w2) (w.heap.size + 1) rfl (.tmp 54) (.tmp 55) 58 57 (.slice none 0 0) 24 rfl Tryd.underlying58 info57 rfl (by decide) (by decide) (.slice Av q.calls.length cv) q.calls [] [.slice none 0 0] (fun k => some k ≠ vm.ownBlock) (fun _ => False) rfl rfl ⟨_, rfl, Kd.R_nil _ _ _ _ _⟩ (fun _ hk => hk.elim) hvm (Kd.S_mono p4 (fun k hk => ⟨hk, fun h => h⟩)) (Below.refl _ _) (Nat.le_trans (Nat.le_succ _) (Nat.le_trans hsz hB2.size)) (by omega) ?_; intro v1 w3 hS3 hB3 hg3 hat3; obtain ⟨A1, c1, e1⟩ := Kd.S_slice hS3; rw [e2] at e1; subst e1; obtain ⟨hb3, hP3⟩ := OwnsP.calls_put p1 p2 p3 p4 hS3 hg3; have hO3 := (Other.of_grown hg3 (Kd.S_typed p4) (by simp)).trans (Other.of_set hb3 (by simp) 1 (.slice A1 (q.calls.length + 1) c1)); have y1 := blk_cell hb3 1; have yf := blk_frozen hb3 1))
              go_roundw
              case rel => exact HREL.out _ _ _ _ HN.out (by rw [HC.out]) hP3 (((hB2.mono (Nat.le_trans (Nat.le_succ _) hsz))).trans (below_set_cell hB3 (Nat.le_refl _) _ _)) ((Other.of_below hB2).trans hO3) (by go_num)
              case measure => simp [intOf]; omega
          · have HTK := hide_ (show takeW q ll = if (parseW ll).2 = 0 then (if 4096 ≤ countP q then (q, 9) else (addOp q (parseW ll).1, 0)) else (q, (parseW ll).2) by rw [takeW, if_neg hcall])
            have hpar := fun A2 c2 W hC hc => rparse_any ll A2 c2 W hC hc (by omega)
            simp only [OpV.val] at hpar
            have HNX := hide_ hnext
            have HRT := hide_ (fun he => runW_take ht HST.out (show (lineW q t).2 ≠ 0 by rw [hl]; exact he))
            rw [hl] at HRT
            generalize (parseW ll).1 = x at *
            generalize (parseW ll).2 = f at *
            have hc1 : ll.length = 1 → (h.toList == [99, 97, 108, 108]) = false := fun h1 => beq_eq_false_iff_ne.2 (callW_ne hcall h (by rw [← hll]; rfl) h1)
            generalize hn : ll.length = n at *
            clear hnext hline hl hws hW hsay hcall hll hn
            rcases (show n = 1 ∨ n ≠ 1 by omega) with h1 | h1
            · subst h1
              replace hc1 := hc1 rfl
              clear hlen2
              by_cases hf : f = 0
              · subst hf
                rw [if_pos rfl] at HTK
                by_cases h4096 : 4096 ≤ countP q
                · rw [if_pos h4096] at HTK
                  have HE := hide_ (HRT.out (by rw [HTK.out]; exact (by decide : ¬ ((9 : Int) = 0))))
                  rw [HTK.out] at HE
                  have hn4 : (4096 : Int) ≤ (countP q : Int) := by omega
                  clear HRT HNX
                  generalize countP q = cn at *
                  go_wp2_with (first
                    | ((go_at_call 16; refine (hsp _).mono ?_; rintro e w2 ⟨A2, c2, rfl, hc2, hC2, hB2⟩); obtain ⟨B, o, rfl, hcell2⟩ := hcell _ _ hC2)
                    | (go_at_call 28; refine (hpar _ _ _ hC2 hc2).mono ?_; rintro e w3 ⟨rfl, hB3⟩; have hb3s := (below_then hB2 hB2.size hB3).size; have hBB := below_alloc (below_then hB2 hB2.size hB3) (.cells #[.int .i64 x.code, .int .i64 x.a, .int .i64 x.b, .int .i64 x.c, .int .i64 x.d, .string x.s] 39); clear hB2 hB3 hC2; obtain ⟨vm, vc, p1, p2, p3, p4⟩ := hP.keep (KeptP.of_below hBB); obtain ⟨Am, cm, rfl, -, -⟩ := Kd.R_reads p3; obtain ⟨Av, cv, rfl, -, -⟩ := Kd.S_reads p4; have z0 := blk_cell p1 0; have z1 := blk_cell p1 1; have zf := blk_frozen p1 0; have r0 := blk_below hr0 hBB; have y0 := blk_cell r0 0; have y1 := blk_cell r0 1; have f0 := blk_frozen r0 0; have f1 := blk_frozen r0 1))
                  refine bodyPost_ret (HRES _ _ _ _ r0 rfl rfl rfl) rfl ?_
                  exact HRET _ _ (below_then hB hB.size hBB) r0 HE.out _ rfl
                · rw [if_neg h4096] at HTK
                  have HN := hide_ HNX.out
                  rw [HTK.out, if_pos rfl] at HN
                  have hn4 : ¬ (4096 : Int) ≤ (countP q : Int) := by omega
                  have hml : q.main.length < 4096 := by have : countP q = q.main.length + sumL q.calls := rfl; omega
                  clear HRT HNX
                  have HCN := hide_ (countP_add q x)
                  by_cases hz : q.calls.length = 0
                  · have HA := hide_ (show addOp q x = ⟨q.main ++ [x], q.calls⟩ by rw [addOp, if_pos hz])
                    have hzb : ((q.calls.length : Int) == 0) = true := by rw [hz]; rfl
                    have hz' : (q.calls.length : Int) = 0 := by omega
                    generalize hcq : countP q = cn at *
                    clear hz
                    go_wp2_with (first
                      | ((go_at_call 16; refine (hsp _).mono ?_; rintro e w2 ⟨A2, c2, rfl, hc2, hC2, hB2⟩); obtain ⟨B, o, rfl, hcell2⟩ := hcell _ _ hC2)
                      | (go_at_call 28; refine (hpar _ _ _ hC2 hc2).mono ?_; rintro e w3 ⟨rfl, hB3⟩; have hb3s := (below_then hB2 hB2.size hB3).size; have hBB := below_alloc (below_then hB2 hB2.size hB3) (.cells #[.int .i64 x.code, .int .i64 x.a, .int .i64 x.b, .int .i64 x.c, .int .i64 x.d, .string x.s] 39); clear hB2 hB3 hC2; obtain ⟨vm, vc, p1, p2, p3, p4⟩ := hP.keep (KeptP.of_below hBB); obtain ⟨Am, cm, rfl, -, -⟩ := Kd.R_reads p3; obtain ⟨Av, cv, rfl, -, -⟩ := Kd.S_reads p4; have z0 := blk_cell p1 0; have z1 := blk_cell p1 1; have zf := blk_frozen p1 0; have r0 := blk_below hr0 hBB; have y0 := blk_cell r0 0; have y1 := blk_cell r0 1; have f0 := blk_frozen r0 0; have f1 := blk_frozen r0 1)
                      | (at_builtin; generalize hW3 : w3.alloc (.cells #[.int .i64 x.code, .int .i64 x.a, .int .i64 x.b, .int .i64 x.c, .int .i64 x.d, .string x.s] 39) = W3 at *; have hs3 : w3.heap.size + 1 = W3.heap.size := (by rw [← hW3]; simp); rw [hs3]; refine Kd.R_append kOp (w0 := wr) (w.heap.size + 1) rfl (.tmp 83) (.tmp 85) 57 39 zeroV.val 56 rfl Tryd.underlying57 info39' rfl (by decide) (by decide) _ q.main x [.int .i64 x.code, .int .i64 x.a, .int .i64 x.b, .int .i64 x.c, .int .i64 x.d, .string x.s] (fun _ => True) (fun _ => False) rfl rfl (kOp_mkM _ _ _ x) (fun _ hk => hk.elim) (fun _ _ => trivial) p3 (hBB.mono (Nat.le_trans (Nat.le_succ _) hsz)) (Nat.le_trans (Nat.le_trans (Nat.le_succ _) hsz) hBB.size) (by omega) ?_; intro v1 w4 hR4 hB4 hg4 hat4; obtain ⟨hb4, hP4⟩ := OwnsP.main_put p1 p2 p3 p4 hR4 hg4 hat4; have hOt := (Other.of_below hBB).trans ((Other.of_grown hg4 (Kd.R_typed p3) (by simp)).trans (Other.of_set hb4 (by simp) 0 v1)); obtain ⟨A1, c1, e1⟩ := Kd.R_slice hR4; rw [List.length_append, List.length_singleton] at e1; subst e1; have y4 := (blk_cell hb4 0).trans rfl; have yf := blk_frozen hb4 0))
                    go_roundw
                    case rel => exact HREL.out _ _ _ _ HN.out (by rw [HCN.out]; go_num) (by rw [HA.out]; exact hP4) (below_set_cell hB4 (Nat.le_refl _) _ _) hOt (by go_num)
                    case measure => simp [intOf]; omega
                  · obtain ⟨m, hm⟩ : ∃ m, q.calls.length = m + 1 := ⟨q.calls.length - 1, by omega⟩
                    have HA := hide_ (show addOp q x = ⟨q.main, q.calls.set m (q.calls.getD m [] ++ [x])⟩ by rw [addOp, if_neg hz, hm, Nat.add_sub_cancel])
                    have hml2 : (q.calls.getD m []).length < 4096 := by
                      have h1 : q.calls[m]? = some (q.calls.getD m []) := by
                        rw [List.getD_eq_getElem?_getD, List.getElem?_eq_getElem (by omega)]; rfl
                      have h2 := sumL_next h1
                      have h3 := sumL_le (l := q.calls) (m + 1)
                      have h4 : countP q = q.main.length + sumL q.calls := rfl
                      omega
                    have HM := hide_ hm
                    have hm1 : m + 1 ≤ 10001 := by omega
                    have hzb : (((m + 1 : Nat) : Int) == 0) = false := beq_eq_false_iff_ne.2 (by omega)
                    have hz' : ¬ ((m + 1 : Nat) : Int) = 0 := by omega
                    generalize hcq : countP q = cn at *
                    clear hz hm hql
                    go_wp2_with (first
                      | ((go_at_call 16; refine (hsp _).mono ?_; rintro e w2 ⟨A2, c2, rfl, hc2, hC2, hB2⟩); obtain ⟨B, o, rfl, hcell2⟩ := hcell _ _ hC2)
                      | (go_at_call 28; refine (hpar _ _ _ hC2 hc2).mono ?_; rintro e w3 ⟨rfl, hB3⟩; have hb3s := (below_then hB2 hB2.size hB3).size; have hBB := below_alloc (below_then hB2 hB2.size hB3) (.cells #[.int .i64 x.code, .int .i64 x.a, .int .i64 x.b, .int .i64 x.c, .int .i64 x.d, .string x.s] 39); clear hB2 hB3 hC2; obtain ⟨vm, vc, p1, p2, p3, p4⟩ := hP.keep (KeptP.of_below hBB); obtain ⟨Am, cm, rfl, -, -⟩ := Kd.R_reads p3; obtain ⟨gc, cv, e5, -, -, -⟩ := Kd.S_form p4 (by rw [HM.out]; exact Nat.succ_pos _); rw [HM.out] at e5; subst e5; have z0 := blk_cell p1 0; have z1 := blk_cell p1 1; have zf := blk_frozen p1 0; have r0 := blk_below hr0 hBB; have y0 := blk_cell r0 0; have y1 := blk_cell r0 1; have f0 := blk_frozen r0 0; have f1 := blk_frozen r0 1))
                    generalize hW3 : w3.alloc (.cells #[.int .i64 x.code, .int .i64 x.a, .int .i64 x.b, .int .i64 x.c, .int .i64 x.d, .string x.s] 39) = W3 at *
                    have hXb : W3.heap[w3.heap.size]? = some (.cells #[.int .i64 x.code, .int .i64 x.a, .int .i64 x.b, .int .i64 x.c, .int .i64 x.d, .string x.s] 39 (0, 0)) := by rw [← hW3]; exact alloc_new' rfl
                    have hgs : wr.heap.size ≤ w3.heap.size := hb3s
                    generalize w3.heap.size = gx at *
                    have hO5 := OwnsP.keep (w := W3) (p := q) ⟨_, _, p1, p2, p3, p4⟩ (KeptP.of_below (below_drew (Below.refl _ W3)))
                    obtain ⟨vm', vc', p1', _, p3', p4'⟩ := hO5
                    have hvv := (show W3.heap[w.heap.size + 1]? = _ from p1').symm.trans p1
                    simp at hvv
                    obtain ⟨rfl, rfl⟩ := hvv
                    obtain ⟨oki, cL, -, hM, hcc, -, hH⟩ := Kd.S_lend p4' [] (m : Int) (Int.natCast_nonneg m) (by omega)
                    rw [Int.toNat_natCast] at hM hcc
                    obtain ⟨v, rfl, hRi⟩ := hM
                    have hcc0 := hcc 0 v rfl
                    rw [show m * kCalls.sz + 0 = m by show m * 1 + 0 = m; omega] at hcc0
                    obtain ⟨Ai, ci, rfl, -, -⟩ := Kd.R_reads hRi
                    have hgx : some gx ≠ (Value.slice Ai (q.calls.getD m []).length ci).ownBlock := by
                      obtain ⟨vm0, vc0, s1, s2, s3, s4⟩ := hP
                      have hvv := (blk_below s1 hBB).symm.trans p1
                      simp at hvv
                      obtain ⟨rfl, rfl⟩ := hvv
                      obtain ⟨_, cL0, -, hM0, hcc0', -, -⟩ := Kd.S_lend s4 [] (m : Int) (Int.natCast_nonneg m) (by omega)
                      rw [Int.toNat_natCast] at hM0 hcc0'
                      obtain ⟨v0, rfl, hR0⟩ := hM0
                      have h0 := hcc0' 0 v0 rfl
                      rw [show m * kCalls.sz + 0 = m by show m * 1 + 0 = m; omega] at h0
                      have h1 := (show W3.cell? ⟨gc, m, none⟩ = _ from hcc0).symm.trans (pw_cell_below hBB h0)
                      obtain rfl := Option.some.inj h1
                      exact fun e => by have := Kd.R_lt hR0 _ e.symm; omega
                    have hvm : ∀ k, W3.drew.heap.size ≤ k → some k ≠ (Value.slice Am q.main.length cm).ownBlock := fun k hk e => by have := Kd.R_lt p3' k e.symm; omega
                    have hput := fun w1 v1 => OwnsP.call_put (w1 := w1) (v1 := v1) (x := x) p1' p2 p3' p4' hH hRi (Nat.lt_succ_self m)
                    have hty := Kd.R_typed hRi
                    generalize q.calls.getD m [] = xi at *
                    have hwm : IntKind.i64.wrap (m : Int) = (m : Int) := IntWalk.i64_in _ (by omega)
                    have hmlt : (m : Int) < (m : Int) + 1 := by omega
                    refine start_ (n := 15) (S := fun w' => w'.cell? ⟨w.heap.size + 1, 1, none⟩ = some (.slice (some ⟨gc, 0, none⟩) (m + 1) cv) ∧ w'.cell? ⟨gc, m, none⟩ = some (.slice Ai xi.length ci) ∧ w'.heap[gx]? = some (.cells #[.int .i64 x.code, .int .i64 x.a, .int .i64 x.b, .int .i64 x.c, .int .i64 x.d, .string x.s] 39 (0, 0))) (ds := [14]) #[false, false, false, false, false, false, false, false, false, false, false, false, false, false, false] (by kernel_rfl) rfl rfl ⟨by exact z1.trans rfl, by exact hcc0, hXb⟩ (fun hHeld => ?_)
                    refine pure_ (i := 0) (N := (some 88)) (v := ?_) (a' := ?_) #[true, false, false, false, false, false, false, false, false, false, false, false, false, false, false] rfl rfl (by kernel_rfl) (fun _ _ _ h => h) (Or.inl ⟨by rfl, ?_⟩) ?_ ?_
                    rotate_left
                    · intro w'
                      go_simp
                      with_reducible rfl
                    rotate_left
                    · simp only [Act.put, List.setIfInBounds_toArray, List.set_cons_zero, List.set_cons_succ]
                      rfl
                    refine take_ (i := 1) (N := (some 89)) (v := ?_) (a' := ?_) #[true, true, false, false, false, false, false, false, false, false, false, false, false, false, false] rfl rfl (by kernel_rfl) (fun _ _ _ h => h) (Or.inl ⟨by rfl, ?_⟩) hHeld ?_ ?_
                    rotate_left
                    · intro w' hSw
                      have z0 := hSw.1
                      go_simp
                      with_reducible rfl
                    rotate_left
                    · simp only [Act.put, List.setIfInBounds_toArray, List.set_cons_zero, List.set_cons_succ]
                      rfl
                    refine pure_ (i := 2) (N := (some 90)) (v := ?_) (a' := ?_) #[true, true, true, false, false, false, false, false, false, false, false, false, false, false, false] rfl rfl (by kernel_rfl) (fun _ _ _ h => h) (Or.inl ⟨by rfl, ?_⟩) ?_ ?_
                    rotate_left
                    · intro w'
                      go_simp
                      with_reducible rfl
                    rotate_left
                    · simp only [Act.put, List.setIfInBounds_toArray, List.set_cons_zero, List.set_cons_succ]
                      rfl
                    refine pure_ (i := 3) (N := (some 91)) (v := ?_) (a' := ?_) #[true, true, true, true, false, false, false, false, false, false, false, false, false, false, false] rfl rfl (by kernel_rfl) (fun _ _ _ h => h) (Or.inl ⟨by rfl, ?_⟩) ?_ ?_
                    rotate_left
                    · intro w'
                      go_simp
                      with_reducible rfl
                    rotate_left
                    · simp only [Act.put, List.setIfInBounds_toArray, List.set_cons_zero, List.set_cons_succ]
                      rfl
                    refine pure_ (i := 4) (N := (some 92)) (v := ?_) (a' := ?_) #[true, true, true, true, true, false, false, false, false, false, false, false, false, false, false] rfl rfl (by kernel_rfl) (fun _ _ _ h => h) (Or.inl ⟨by rfl, ?_⟩) ?_ ?_
                    rotate_left
                    · intro w'
                      go_simp
                      with_reducible rfl
                    rotate_left
                    · simp only [Act.put, List.setIfInBounds_toArray, List.set_cons_zero, List.set_cons_succ]
                      rfl
                    refine take_ (i := 5) (N := (some 93)) (v := ?_) (a' := ?_) #[true, true, true, true, true, true, false, false, false, false, false, false, false, false, false] rfl rfl (by kernel_rfl) (fun _ _ _ h => h) (Or.inl ⟨by rfl, ?_⟩) hHeld ?_ ?_
                    rotate_left
                    · intro w' hSw
                      have z0 := hSw.1
                      go_simp
                      with_reducible rfl
                    rotate_left
                    · simp only [Act.put, List.setIfInBounds_toArray, List.set_cons_zero, List.set_cons_succ]
                      rfl
                    refine pure_ (i := 6) (N := (some 94)) (v := ?_) (a' := ?_) #[true, true, true, true, true, true, true, false, false, false, false, false, false, false, false] rfl rfl (by kernel_rfl) (fun _ _ _ h => h) (Or.inl ⟨by rfl, ?_⟩) ?_ ?_
                    rotate_left
                    · intro w'
                      go_simp
                      with_reducible rfl
                    rotate_left
                    · simp only [Act.put, List.setIfInBounds_toArray, List.set_cons_zero, List.set_cons_succ]
                      rfl
                    refine pure_ (i := 7) (N := (some 95)) (v := ?_) (a' := ?_) #[true, true, true, true, true, true, true, true, false, false, false, false, false, false, false] rfl rfl (by kernel_rfl) (fun _ _ _ h => h) (Or.inl ⟨by rfl, ?_⟩) ?_ ?_
                    rotate_left
                    · intro w'
                      go_simp
                      with_reducible rfl
                    rotate_left
                    · simp only [Act.put, List.setIfInBounds_toArray, List.set_cons_zero, List.set_cons_succ]
                      rfl
                    refine pure_ (i := 8) (N := (some 96)) (v := ?_) (a' := ?_) #[true, true, true, true, true, true, true, true, true, false, false, false, false, false, false] rfl rfl (by kernel_rfl) (fun _ _ _ h => h) (Or.inl ⟨by rfl, ?_⟩) ?_ ?_
                    rotate_left
                    · intro w'
                      go_simp
                      with_reducible rfl
                    rotate_left
                    · simp only [Act.put, List.setIfInBounds_toArray, List.set_cons_zero, List.set_cons_succ]
                      rfl
                    refine take_ (i := 9) (N := (some 97)) (v := ?_) (a' := ?_) #[true, true, true, true, true, true, true, true, true, true, false, false, false, false, false] rfl rfl (by kernel_rfl) (fun _ _ _ h => h) (Or.inl ⟨by rfl, ?_⟩) hHeld ?_ ?_
                    rotate_left
                    · intro w' hSw
                      have z0 := hSw.2.1
                      go_simp
                      with_reducible rfl
                    rotate_left
                    · simp only [Act.put, List.setIfInBounds_toArray, List.set_cons_zero, List.set_cons_succ]
                      rfl
                    refine take_ (i := 10) (N := (some 98)) (v := ?_) (a' := ?_) #[true, true, true, true, true, true, true, true, true, true, true, false, false, false, false] rfl rfl (by kernel_rfl) (fun _ _ _ h => h) (Or.inl ⟨by rfl, ?_⟩) hHeld ?_ ?_
                    rotate_left
                    · intro w' hSw
                      have z0 := blk_cell hSw.2.2 0
                      have z1 := blk_cell hSw.2.2 1
                      have z2 := blk_cell hSw.2.2 2
                      have z3 := blk_cell hSw.2.2 3
                      have z4 := blk_cell hSw.2.2 4
                      have z5 := blk_cell hSw.2.2 5
                      go_simp
                      with_reducible rfl
                    rotate_left
                    · simp only [Act.put, List.setIfInBounds_toArray, List.set_cons_zero, List.set_cons_succ]
                      rfl
                    refine one_ (i := 11) (N := (some 99)) #[true, true, true, true, true, true, true, true, true, true, true, true, false, false, false] rfl rfl (by kernel_rfl) (by decide) (fun K hK => ?_)
                    refine value_ (w1 := W3.drew.alloc (.cells #[.int .i64 x.code, .int .i64 x.a, .int .i64 x.b, .int .i64 x.c, .int .i64 x.d, .string x.s] 39)) (v := .slice (some ⟨W3.heap.size, 0, none⟩) 1 1) (by rfl) rfl ?_ ?_
                    · go_simp
                    refine hK.out _ _ ⟨cell_alloc_at hHeld.1 _, cell_alloc_at hHeld.2.1 _, alloc_at hHeld.2.2 _⟩ (fun hHeld => ?_)
                    clear hK K
                    refine norm_ (a' := ?_) ?_ ?_
                    rotate_left
                    · show Act.put _ (some 99) _ = _
                      simp only [Act.put, List.setIfInBounds_toArray, List.set_cons_zero, List.set_cons_succ]
                      rfl
                    refine one_ (i := 12) (N := (some 100)) #[true, true, true, true, true, true, true, true, true, true, true, true, true, false, false] rfl rfl (by kernel_rfl) (by decide) (fun K hK => ?_)
                    refine Kd.R_append_step kOp (w0 := wr) (w.heap.size + 1) (by rfl) (.tmp 97) (.tmp 99) 57 39 zeroV.val 56 rfl Tryd.underlying57 info39' rfl (by decide) (by decide) _ xi x [.int .i64 x.code, .int .i64 x.a, .int .i64 x.b, .int .i64 x.c, .int .i64 x.d, .string x.s] (fun k => oki k ∨ some k ≠ (Value.slice Am q.main.length cm).ownBlock ∧ W3.drew.heap.size ≤ k) (fun _ => False) rfl rfl (kOp_mkM _ _ _ x) (fun _ hk => hk.elim) (fun k hk => Or.inr ⟨hvm k hk, hk⟩) (Kd.R_mono hRi (fun _ hk => Or.inl hk)) ((below_drew hBB).mono (Nat.le_trans (Nat.le_succ _) hsz)) (Nat.le_trans (Nat.le_trans (Nat.le_succ _) hsz) hBB.size) (by omega) ?_
                    intro v1 w4 hR4 hB4 hg4 hat4
                    obtain ⟨y4, yf, ⟨cs4, hb4⟩, hP4⟩ := hput w4 v1 hR4 hg4
                    have hOt := (Other.of_below hBB).trans ((Other.of_grown (w := W3.drew) hg4 hty (by simp)).trans (Other.of_set hb4 (by simp) m v1))
                    obtain ⟨A1, c1, e1⟩ := Kd.R_slice hR4
                    rw [List.length_append, List.length_singleton] at e1
                    subst e1
                    have hgb : w.heap.size + 1 ≤ gc := Kd.S_base p4' gc (by simp [Value.ownBlock])
                    have hbn4 := blk_grown p1' hg4 (Kd.R_ne hRi p1' (by decide))
                    have hX4 : w4.heap[gx]? = _ := (hg4.block gx (blk_lt hXb) (fun e => hgx e)).trans hXb
                    refine hK.out _ _ ⟨(blk_cell hbn4 1).trans rfl, y4, hX4⟩ (fun hHeld => ?_)
                    clear hK K
                    refine norm_ (a' := ?_) ?_ ?_
                    rotate_left
                    · show Act.put _ (some 100) _ = _
                      simp only [Act.put, List.setIfInBounds_toArray, List.set_cons_zero, List.set_cons_succ]
                      rfl
                    refine pure_ (i := 13) (N := (some 101)) (v := ?_) (a' := ?_) #[true, true, true, true, true, true, true, true, true, true, true, true, true, true, false] rfl rfl (by kernel_rfl) (fun _ _ _ h => h) (Or.inl ⟨by rfl, ?_⟩) ?_ ?_
                    rotate_left
                    · intro w'
                      go_simp
                      with_reducible rfl
                    rotate_left
                    · simp only [Act.put, List.setIfInBounds_toArray, List.set_cons_zero, List.set_cons_succ]
                      rfl
                    refine last_ (i := 14) (N := none) #[true, true, true, true, true, true, true, true, true, true, true, true, true, true, true] rfl rfl (by kernel_rfl) (by decide) (fun K hK => ?_)
                    refine skip_ (w1 := w4.setCell ⟨gc, m, none⟩ (.slice A1 (xi.length + 1) c1)) (by rfl) rfl ?_ ?_
                    · go_simp
                    refine hK.out _ _ ?_
                    clear hK K
                    refine done_ (by kernel_rfl) ?_
                    go_wp2
                    go_roundw
                    case rel => exact HREL.out _ _ _ _ HN.out (by rw [HCN.out]; go_num) (by rw [HA.out]; exact hP4) (below_set_cell hB4 hgb _ _) hOt (by go_num)
                    case measure => simp [intOf]; omega
              · rw [if_neg hf] at HTK
                have HE := hide_ (HRT.out (by rw [HTK.out]; exact hf))
                rw [HTK.out] at HE
                have hfb : (f == 0) = false := beq_eq_false_iff_ne.2 hf
                have hfc : (f != 0) = true := by simp [hf]
                clear HRT HNX
                generalize countP q = cn at *
                go_wp2_with (first
                  | ((go_at_call 16; refine (hsp _).mono ?_; rintro e w2 ⟨A2, c2, rfl, hc2, hC2, hB2⟩); obtain ⟨B, o, rfl, hcell2⟩ := hcell _ _ hC2)
                  | (go_at_call 28; refine (hpar _ _ _ hC2 hc2).mono ?_; rintro e w3 ⟨rfl, hB3⟩; have hb3s := (below_then hB2 hB2.size hB3).size; have hBB := below_alloc (below_then hB2 hB2.size hB3) (.cells #[.int .i64 x.code, .int .i64 x.a, .int .i64 x.b, .int .i64 x.c, .int .i64 x.d, .string x.s] 39); clear hB2 hB3 hC2; obtain ⟨vm, vc, p1, p2, p3, p4⟩ := hP.keep (KeptP.of_below hBB); obtain ⟨Am, cm, rfl, -, -⟩ := Kd.R_reads p3; obtain ⟨Av, cv, rfl, -, -⟩ := Kd.S_reads p4; have z0 := blk_cell p1 0; have z1 := blk_cell p1 1; have zf := blk_frozen p1 0; have r0 := blk_below hr0 hBB; have y0 := blk_cell r0 0; have y1 := blk_cell r0 1; have f0 := blk_frozen r0 0; have f1 := blk_frozen r0 1))
                refine bodyPost_ret (HRES _ _ _ _ r0 rfl rfl rfl) rfl ?_
                exact HRET _ _ (below_then hB hB.size hBB) r0 HE.out _ rfl
            · have hl1 : ((n : Int) == 1) = false := beq_eq_false_iff_ne.2 (by omega)
              have hl0 : ((n : Int) == 0) = false := beq_eq_false_iff_ne.2 (by omega)
              have hn0 : 0 < n := by omega
              clear hc1 hlen2
              by_cases hf : f = 0
              · subst hf
                rw [if_pos rfl] at HTK
                by_cases h4096 : 4096 ≤ countP q
                · rw [if_pos h4096] at HTK
                  have HE := hide_ (HRT.out (by rw [HTK.out]; exact (by decide : ¬ ((9 : Int) = 0))))
                  rw [HTK.out] at HE
                  have hn4 : (4096 : Int) ≤ (countP q : Int) := by omega
                  clear HRT HNX
                  generalize countP q = cn at *
                  go_wp2_with (first
                    | ((go_at_call 16; refine (hsp _).mono ?_; rintro e w2 ⟨A2, c2, rfl, hc2, hC2, hB2⟩); obtain ⟨B, o, rfl, hcell2⟩ := hcell _ _ hC2)
                    | (go_at_call 28; refine (hpar _ _ _ hC2 hc2).mono ?_; rintro e w3 ⟨rfl, hB3⟩; have hb3s := (below_then hB2 hB2.size hB3).size; have hBB := below_alloc (below_then hB2 hB2.size hB3) (.cells #[.int .i64 x.code, .int .i64 x.a, .int .i64 x.b, .int .i64 x.c, .int .i64 x.d, .string x.s] 39); clear hB2 hB3 hC2; obtain ⟨vm, vc, p1, p2, p3, p4⟩ := hP.keep (KeptP.of_below hBB); obtain ⟨Am, cm, rfl, -, -⟩ := Kd.R_reads p3; obtain ⟨Av, cv, rfl, -, -⟩ := Kd.S_reads p4; have z0 := blk_cell p1 0; have z1 := blk_cell p1 1; have zf := blk_frozen p1 0; have r0 := blk_below hr0 hBB; have y0 := blk_cell r0 0; have y1 := blk_cell r0 1; have f0 := blk_frozen r0 0; have f1 := blk_frozen r0 1))
                  refine bodyPost_ret (HRES _ _ _ _ r0 rfl rfl rfl) rfl ?_
                  exact HRET _ _ (below_then hB hB.size hBB) r0 HE.out _ rfl
                · rw [if_neg h4096] at HTK
                  have HN := hide_ HNX.out
                  rw [HTK.out, if_pos rfl] at HN
                  have hn4 : ¬ (4096 : Int) ≤ (countP q : Int) := by omega
                  have hml : q.main.length < 4096 := by have : countP q = q.main.length + sumL q.calls := rfl; omega
                  clear HRT HNX
                  have HCN := hide_ (countP_add q x)
                  by_cases hz : q.calls.length = 0
                  · have HA := hide_ (show addOp q x = ⟨q.main ++ [x], q.calls⟩ by rw [addOp, if_pos hz])
                    have hzb : ((q.calls.length : Int) == 0) = true := by rw [hz]; rfl
                    have hz' : (q.calls.length : Int) = 0 := by omega
                    generalize hcq : countP q = cn at *
                    clear hz
                    go_wp2_with (first
                      | ((go_at_call 16; refine (hsp _).mono ?_; rintro e w2 ⟨A2, c2, rfl, hc2, hC2, hB2⟩); obtain ⟨B, o, rfl, hcell2⟩ := hcell _ _ hC2)
                      | (go_at_call 28; refine (hpar _ _ _ hC2 hc2).mono ?_; rintro e w3 ⟨rfl, hB3⟩; have hb3s := (below_then hB2 hB2.size hB3).size; have hBB := below_alloc (below_then hB2 hB2.size hB3) (.cells #[.int .i64 x.code, .int .i64 x.a, .int .i64 x.b, .int .i64 x.c, .int .i64 x.d, .string x.s] 39); clear hB2 hB3 hC2; obtain ⟨vm, vc, p1, p2, p3, p4⟩ := hP.keep (KeptP.of_below hBB); obtain ⟨Am, cm, rfl, -, -⟩ := Kd.R_reads p3; obtain ⟨Av, cv, rfl, -, -⟩ := Kd.S_reads p4; have z0 := blk_cell p1 0; have z1 := blk_cell p1 1; have zf := blk_frozen p1 0; have r0 := blk_below hr0 hBB; have y0 := blk_cell r0 0; have y1 := blk_cell r0 1; have f0 := blk_frozen r0 0; have f1 := blk_frozen r0 1)
                      | (at_builtin; generalize hW3 : w3.alloc (.cells #[.int .i64 x.code, .int .i64 x.a, .int .i64 x.b, .int .i64 x.c, .int .i64 x.d, .string x.s] 39) = W3 at *; have hs3 : w3.heap.size + 1 = W3.heap.size := (by rw [← hW3]; simp); rw [hs3]; refine Kd.R_append kOp (w0 := wr) (w.heap.size + 1) rfl (.tmp 83) (.tmp 85) 57 39 zeroV.val 56 rfl Tryd.underlying57 info39' rfl (by decide) (by decide) _ q.main x [.int .i64 x.code, .int .i64 x.a, .int .i64 x.b, .int .i64 x.c, .int .i64 x.d, .string x.s] (fun _ => True) (fun _ => False) rfl rfl (kOp_mkM _ _ _ x) (fun _ hk => hk.elim) (fun _ _ => trivial) p3 (hBB.mono (Nat.le_trans (Nat.le_succ _) hsz)) (Nat.le_trans (Nat.le_trans (Nat.le_succ _) hsz) hBB.size) (by omega) ?_; intro v1 w4 hR4 hB4 hg4 hat4; obtain ⟨hb4, hP4⟩ := OwnsP.main_put p1 p2 p3 p4 hR4 hg4 hat4; have hOt := (Other.of_below hBB).trans ((Other.of_grown hg4 (Kd.R_typed p3) (by simp)).trans (Other.of_set hb4 (by simp) 0 v1)); obtain ⟨A1, c1, e1⟩ := Kd.R_slice hR4; rw [List.length_append, List.length_singleton] at e1; subst e1; have y4 := (blk_cell hb4 0).trans rfl; have yf := blk_frozen hb4 0))
                    go_roundw
                    case rel => exact HREL.out _ _ _ _ HN.out (by rw [HCN.out]; go_num) (by rw [HA.out]; exact hP4) (below_set_cell hB4 (Nat.le_refl _) _ _) hOt (by go_num)
                    case measure => simp [intOf]; omega
                  · obtain ⟨m, hm⟩ : ∃ m, q.calls.length = m + 1 := ⟨q.calls.length - 1, by omega⟩
                    have HA := hide_ (show addOp q x = ⟨q.main, q.calls.set m (q.calls.getD m [] ++ [x])⟩ by rw [addOp, if_neg hz, hm, Nat.add_sub_cancel])
                    have hml2 : (q.calls.getD m []).length < 4096 := by
                      have h1 : q.calls[m]? = some (q.calls.getD m []) := by
                        rw [List.getD_eq_getElem?_getD, List.getElem?_eq_getElem (by omega)]; rfl
                      have h2 := sumL_next h1
                      have h3 := sumL_le (l := q.calls) (m + 1)
                      have h4 : countP q = q.main.length + sumL q.calls := rfl
                      omega
                    have HM := hide_ hm
                    have hm1 : m + 1 ≤ 10001 := by omega
                    have hzb : (((m + 1 : Nat) : Int) == 0) = false := beq_eq_false_iff_ne.2 (by omega)
                    have hz' : ¬ ((m + 1 : Nat) : Int) = 0 := by omega
                    generalize hcq : countP q = cn at *
                    clear hz hm hql
                    go_wp2_with (first
                      | ((go_at_call 16; refine (hsp _).mono ?_; rintro e w2 ⟨A2, c2, rfl, hc2, hC2, hB2⟩); obtain ⟨B, o, rfl, hcell2⟩ := hcell _ _ hC2)
                      | (go_at_call 28; refine (hpar _ _ _ hC2 hc2).mono ?_; rintro e w3 ⟨rfl, hB3⟩; have hb3s := (below_then hB2 hB2.size hB3).size; have hBB := below_alloc (below_then hB2 hB2.size hB3) (.cells #[.int .i64 x.code, .int .i64 x.a, .int .i64 x.b, .int .i64 x.c, .int .i64 x.d, .string x.s] 39); clear hB2 hB3 hC2; obtain ⟨vm, vc, p1, p2, p3, p4⟩ := hP.keep (KeptP.of_below hBB); obtain ⟨Am, cm, rfl, -, -⟩ := Kd.R_reads p3; obtain ⟨gc, cv, e5, -, -, -⟩ := Kd.S_form p4 (by rw [HM.out]; exact Nat.succ_pos _); rw [HM.out] at e5; subst e5; have z0 := blk_cell p1 0; have z1 := blk_cell p1 1; have zf := blk_frozen p1 0; have r0 := blk_below hr0 hBB; have y0 := blk_cell r0 0; have y1 := blk_cell r0 1; have f0 := blk_frozen r0 0; have f1 := blk_frozen r0 1))
                    generalize hW3 : w3.alloc (.cells #[.int .i64 x.code, .int .i64 x.a, .int .i64 x.b, .int .i64 x.c, .int .i64 x.d, .string x.s] 39) = W3 at *
                    have hXb : W3.heap[w3.heap.size]? = some (.cells #[.int .i64 x.code, .int .i64 x.a, .int .i64 x.b, .int .i64 x.c, .int .i64 x.d, .string x.s] 39 (0, 0)) := by rw [← hW3]; exact alloc_new' rfl
                    have hgs : wr.heap.size ≤ w3.heap.size := hb3s
                    generalize w3.heap.size = gx at *
                    have hO5 := OwnsP.keep (w := W3) (p := q) ⟨_, _, p1, p2, p3, p4⟩ (KeptP.of_below (below_drew (Below.refl _ W3)))
                    obtain ⟨vm', vc', p1', _, p3', p4'⟩ := hO5
                    have hvv := (show W3.heap[w.heap.size + 1]? = _ from p1').symm.trans p1
                    simp at hvv
                    obtain ⟨rfl, rfl⟩ := hvv
                    obtain ⟨oki, cL, -, hM, hcc, -, hH⟩ := Kd.S_lend p4' [] (m : Int) (Int.natCast_nonneg m) (by omega)
                    rw [Int.toNat_natCast] at hM hcc
                    obtain ⟨v, rfl, hRi⟩ := hM
                    have hcc0 := hcc 0 v rfl
                    rw [show m * kCalls.sz + 0 = m by show m * 1 + 0 = m; omega] at hcc0
                    obtain ⟨Ai, ci, rfl, -, -⟩ := Kd.R_reads hRi
                    have hgx : some gx ≠ (Value.slice Ai (q.calls.getD m []).length ci).ownBlock := by
                      obtain ⟨vm0, vc0, s1, s2, s3, s4⟩ := hP
                      have hvv := (blk_below s1 hBB).symm.trans p1
                      simp at hvv
                      obtain ⟨rfl, rfl⟩ := hvv
                      obtain ⟨_, cL0, -, hM0, hcc0', -, -⟩ := Kd.S_lend s4 [] (m : Int) (Int.natCast_nonneg m) (by omega)
                      rw [Int.toNat_natCast] at hM0 hcc0'
                      obtain ⟨v0, rfl, hR0⟩ := hM0
                      have h0 := hcc0' 0 v0 rfl
                      rw [show m * kCalls.sz + 0 = m by show m * 1 + 0 = m; omega] at h0
                      have h1 := (show W3.cell? ⟨gc, m, none⟩ = _ from hcc0).symm.trans (pw_cell_below hBB h0)
                      obtain rfl := Option.some.inj h1
                      exact fun e => by have := Kd.R_lt hR0 _ e.symm; omega
                    have hvm : ∀ k, W3.drew.heap.size ≤ k → some k ≠ (Value.slice Am q.main.length cm).ownBlock := fun k hk e => by have := Kd.R_lt p3' k e.symm; omega
                    have hput := fun w1 v1 => OwnsP.call_put (w1 := w1) (v1 := v1) (x := x) p1' p2 p3' p4' hH hRi (Nat.lt_succ_self m)
                    have hty := Kd.R_typed hRi
                    generalize q.calls.getD m [] = xi at *
                    have hwm : IntKind.i64.wrap (m : Int) = (m : Int) := IntWalk.i64_in _ (by omega)
                    have hmlt : (m : Int) < (m : Int) + 1 := by omega
                    refine start_ (n := 15) (S := fun w' => w'.cell? ⟨w.heap.size + 1, 1, none⟩ = some (.slice (some ⟨gc, 0, none⟩) (m + 1) cv) ∧ w'.cell? ⟨gc, m, none⟩ = some (.slice Ai xi.length ci) ∧ w'.heap[gx]? = some (.cells #[.int .i64 x.code, .int .i64 x.a, .int .i64 x.b, .int .i64 x.c, .int .i64 x.d, .string x.s] 39 (0, 0))) (ds := [14]) #[false, false, false, false, false, false, false, false, false, false, false, false, false, false, false] (by kernel_rfl) rfl rfl ⟨by exact z1.trans rfl, by exact hcc0, hXb⟩ (fun hHeld => ?_)
                    refine pure_ (i := 0) (N := (some 88)) (v := ?_) (a' := ?_) #[true, false, false, false, false, false, false, false, false, false, false, false, false, false, false] rfl rfl (by kernel_rfl) (fun _ _ _ h => h) (Or.inl ⟨by rfl, ?_⟩) ?_ ?_
                    rotate_left
                    · intro w'
                      go_simp
                      with_reducible rfl
                    rotate_left
                    · simp only [Act.put, List.setIfInBounds_toArray, List.set_cons_zero, List.set_cons_succ]
                      rfl
                    refine take_ (i := 1) (N := (some 89)) (v := ?_) (a' := ?_) #[true, true, false, false, false, false, false, false, false, false, false, false, false, false, false] rfl rfl (by kernel_rfl) (fun _ _ _ h => h) (Or.inl ⟨by rfl, ?_⟩) hHeld ?_ ?_
                    rotate_left
                    · intro w' hSw
                      have z0 := hSw.1
                      go_simp
                      with_reducible rfl
                    rotate_left
                    · simp only [Act.put, List.setIfInBounds_toArray, List.set_cons_zero, List.set_cons_succ]
                      rfl
                    refine pure_ (i := 2) (N := (some 90)) (v := ?_) (a' := ?_) #[true, true, true, false, false, false, false, false, false, false, false, false, false, false, false] rfl rfl (by kernel_rfl) (fun _ _ _ h => h) (Or.inl ⟨by rfl, ?_⟩) ?_ ?_
                    rotate_left
                    · intro w'
                      go_simp
                      with_reducible rfl
                    rotate_left
                    · simp only [Act.put, List.setIfInBounds_toArray, List.set_cons_zero, List.set_cons_succ]
                      rfl
                    refine pure_ (i := 3) (N := (some 91)) (v := ?_) (a' := ?_) #[true, true, true, true, false, false, false, false, false, false, false, false, false, false, false] rfl rfl (by kernel_rfl) (fun _ _ _ h => h) (Or.inl ⟨by rfl, ?_⟩) ?_ ?_
                    rotate_left
                    · intro w'
                      go_simp
                      with_reducible rfl
                    rotate_left
                    · simp only [Act.put, List.setIfInBounds_toArray, List.set_cons_zero, List.set_cons_succ]
                      rfl
                    refine pure_ (i := 4) (N := (some 92)) (v := ?_) (a' := ?_) #[true, true, true, true, true, false, false, false, false, false, false, false, false, false, false] rfl rfl (by kernel_rfl) (fun _ _ _ h => h) (Or.inl ⟨by rfl, ?_⟩) ?_ ?_
                    rotate_left
                    · intro w'
                      go_simp
                      with_reducible rfl
                    rotate_left
                    · simp only [Act.put, List.setIfInBounds_toArray, List.set_cons_zero, List.set_cons_succ]
                      rfl
                    refine take_ (i := 5) (N := (some 93)) (v := ?_) (a' := ?_) #[true, true, true, true, true, true, false, false, false, false, false, false, false, false, false] rfl rfl (by kernel_rfl) (fun _ _ _ h => h) (Or.inl ⟨by rfl, ?_⟩) hHeld ?_ ?_
                    rotate_left
                    · intro w' hSw
                      have z0 := hSw.1
                      go_simp
                      with_reducible rfl
                    rotate_left
                    · simp only [Act.put, List.setIfInBounds_toArray, List.set_cons_zero, List.set_cons_succ]
                      rfl
                    refine pure_ (i := 6) (N := (some 94)) (v := ?_) (a' := ?_) #[true, true, true, true, true, true, true, false, false, false, false, false, false, false, false] rfl rfl (by kernel_rfl) (fun _ _ _ h => h) (Or.inl ⟨by rfl, ?_⟩) ?_ ?_
                    rotate_left
                    · intro w'
                      go_simp
                      with_reducible rfl
                    rotate_left
                    · simp only [Act.put, List.setIfInBounds_toArray, List.set_cons_zero, List.set_cons_succ]
                      rfl
                    refine pure_ (i := 7) (N := (some 95)) (v := ?_) (a' := ?_) #[true, true, true, true, true, true, true, true, false, false, false, false, false, false, false] rfl rfl (by kernel_rfl) (fun _ _ _ h => h) (Or.inl ⟨by rfl, ?_⟩) ?_ ?_
                    rotate_left
                    · intro w'
                      go_simp
                      with_reducible rfl
                    rotate_left
                    · simp only [Act.put, List.setIfInBounds_toArray, List.set_cons_zero, List.set_cons_succ]
                      rfl
                    refine pure_ (i := 8) (N := (some 96)) (v := ?_) (a' := ?_) #[true, true, true, true, true, true, true, true, true, false, false, false, false, false, false] rfl rfl (by kernel_rfl) (fun _ _ _ h => h) (Or.inl ⟨by rfl, ?_⟩) ?_ ?_
                    rotate_left
                    · intro w'
                      go_simp
                      with_reducible rfl
                    rotate_left
                    · simp only [Act.put, List.setIfInBounds_toArray, List.set_cons_zero, List.set_cons_succ]
                      rfl
                    refine take_ (i := 9) (N := (some 97)) (v := ?_) (a' := ?_) #[true, true, true, true, true, true, true, true, true, true, false, false, false, false, false] rfl rfl (by kernel_rfl) (fun _ _ _ h => h) (Or.inl ⟨by rfl, ?_⟩) hHeld ?_ ?_
                    rotate_left
                    · intro w' hSw
                      have z0 := hSw.2.1
                      go_simp
                      with_reducible rfl
                    rotate_left
                    · simp only [Act.put, List.setIfInBounds_toArray, List.set_cons_zero, List.set_cons_succ]
                      rfl
                    refine take_ (i := 10) (N := (some 98)) (v := ?_) (a' := ?_) #[true, true, true, true, true, true, true, true, true, true, true, false, false, false, false] rfl rfl (by kernel_rfl) (fun _ _ _ h => h) (Or.inl ⟨by rfl, ?_⟩) hHeld ?_ ?_
                    rotate_left
                    · intro w' hSw
                      have z0 := blk_cell hSw.2.2 0
                      have z1 := blk_cell hSw.2.2 1
                      have z2 := blk_cell hSw.2.2 2
                      have z3 := blk_cell hSw.2.2 3
                      have z4 := blk_cell hSw.2.2 4
                      have z5 := blk_cell hSw.2.2 5
                      go_simp
                      with_reducible rfl
                    rotate_left
                    · simp only [Act.put, List.setIfInBounds_toArray, List.set_cons_zero, List.set_cons_succ]
                      rfl
                    refine one_ (i := 11) (N := (some 99)) #[true, true, true, true, true, true, true, true, true, true, true, true, false, false, false] rfl rfl (by kernel_rfl) (by decide) (fun K hK => ?_)
                    refine value_ (w1 := W3.drew.alloc (.cells #[.int .i64 x.code, .int .i64 x.a, .int .i64 x.b, .int .i64 x.c, .int .i64 x.d, .string x.s] 39)) (v := .slice (some ⟨W3.heap.size, 0, none⟩) 1 1) (by rfl) rfl ?_ ?_
                    · go_simp
                    refine hK.out _ _ ⟨cell_alloc_at hHeld.1 _, cell_alloc_at hHeld.2.1 _, alloc_at hHeld.2.2 _⟩ (fun hHeld => ?_)
                    clear hK K
                    refine norm_ (a' := ?_) ?_ ?_
                    rotate_left
                    · show Act.put _ (some 99) _ = _
                      simp only [Act.put, List.setIfInBounds_toArray, List.set_cons_zero, List.set_cons_succ]
                      rfl
                    refine one_ (i := 12) (N := (some 100)) #[true, true, true, true, true, true, true, true, true, true, true, true, true, false, false] rfl rfl (by kernel_rfl) (by decide) (fun K hK => ?_)
                    refine Kd.R_append_step kOp (w0 := wr) (w.heap.size + 1) (by rfl) (.tmp 97) (.tmp 99) 57 39 zeroV.val 56 rfl Tryd.underlying57 info39' rfl (by decide) (by decide) _ xi x [.int .i64 x.code, .int .i64 x.a, .int .i64 x.b, .int .i64 x.c, .int .i64 x.d, .string x.s] (fun k => oki k ∨ some k ≠ (Value.slice Am q.main.length cm).ownBlock ∧ W3.drew.heap.size ≤ k) (fun _ => False) rfl rfl (kOp_mkM _ _ _ x) (fun _ hk => hk.elim) (fun k hk => Or.inr ⟨hvm k hk, hk⟩) (Kd.R_mono hRi (fun _ hk => Or.inl hk)) ((below_drew hBB).mono (Nat.le_trans (Nat.le_succ _) hsz)) (Nat.le_trans (Nat.le_trans (Nat.le_succ _) hsz) hBB.size) (by omega) ?_
                    intro v1 w4 hR4 hB4 hg4 hat4
                    obtain ⟨y4, yf, ⟨cs4, hb4⟩, hP4⟩ := hput w4 v1 hR4 hg4
                    have hOt := (Other.of_below hBB).trans ((Other.of_grown (w := W3.drew) hg4 hty (by simp)).trans (Other.of_set hb4 (by simp) m v1))
                    obtain ⟨A1, c1, e1⟩ := Kd.R_slice hR4
                    rw [List.length_append, List.length_singleton] at e1
                    subst e1
                    have hgb : w.heap.size + 1 ≤ gc := Kd.S_base p4' gc (by simp [Value.ownBlock])
                    have hbn4 := blk_grown p1' hg4 (Kd.R_ne hRi p1' (by decide))
                    have hX4 : w4.heap[gx]? = _ := (hg4.block gx (blk_lt hXb) (fun e => hgx e)).trans hXb
                    refine hK.out _ _ ⟨(blk_cell hbn4 1).trans rfl, y4, hX4⟩ (fun hHeld => ?_)
                    clear hK K
                    refine norm_ (a' := ?_) ?_ ?_
                    rotate_left
                    · show Act.put _ (some 100) _ = _
                      simp only [Act.put, List.setIfInBounds_toArray, List.set_cons_zero, List.set_cons_succ]
                      rfl
                    refine pure_ (i := 13) (N := (some 101)) (v := ?_) (a' := ?_) #[true, true, true, true, true, true, true, true, true, true, true, true, true, true, false] rfl rfl (by kernel_rfl) (fun _ _ _ h => h) (Or.inl ⟨by rfl, ?_⟩) ?_ ?_
                    rotate_left
                    · intro w'
                      go_simp
                      with_reducible rfl
                    rotate_left
                    · simp only [Act.put, List.setIfInBounds_toArray, List.set_cons_zero, List.set_cons_succ]
                      rfl
                    refine last_ (i := 14) (N := none) #[true, true, true, true, true, true, true, true, true, true, true, true, true, true, true] rfl rfl (by kernel_rfl) (by decide) (fun K hK => ?_)
                    refine skip_ (w1 := w4.setCell ⟨gc, m, none⟩ (.slice A1 (xi.length + 1) c1)) (by rfl) rfl ?_ ?_
                    · go_simp
                    refine hK.out _ _ ?_
                    clear hK K
                    refine done_ (by kernel_rfl) ?_
                    go_wp2
                    go_roundw
                    case rel => exact HREL.out _ _ _ _ HN.out (by rw [HCN.out]; go_num) (by rw [HA.out]; exact hP4) (below_set_cell hB4 hgb _ _) hOt (by go_num)
                    case measure => simp [intOf]; omega
              · rw [if_neg hf] at HTK
                have HE := hide_ (HRT.out (by rw [HTK.out]; exact hf))
                rw [HTK.out] at HE
                have hfb : (f == 0) = false := beq_eq_false_iff_ne.2 hf
                have hfc : (f != 0) = true := by simp [hf]
                clear HRT HNX
                generalize countP q = cn at *
                go_wp2_with (first
                  | ((go_at_call 16; refine (hsp _).mono ?_; rintro e w2 ⟨A2, c2, rfl, hc2, hC2, hB2⟩); obtain ⟨B, o, rfl, hcell2⟩ := hcell _ _ hC2)
                  | (go_at_call 28; refine (hpar _ _ _ hC2 hc2).mono ?_; rintro e w3 ⟨rfl, hB3⟩; have hb3s := (below_then hB2 hB2.size hB3).size; have hBB := below_alloc (below_then hB2 hB2.size hB3) (.cells #[.int .i64 x.code, .int .i64 x.a, .int .i64 x.b, .int .i64 x.c, .int .i64 x.d, .string x.s] 39); clear hB2 hB3 hC2; obtain ⟨vm, vc, p1, p2, p3, p4⟩ := hP.keep (KeptP.of_below hBB); obtain ⟨Am, cm, rfl, -, -⟩ := Kd.R_reads p3; obtain ⟨Av, cv, rfl, -, -⟩ := Kd.S_reads p4; have z0 := blk_cell p1 0; have z1 := blk_cell p1 1; have zf := blk_frozen p1 0; have r0 := blk_below hr0 hBB; have y0 := blk_cell r0 0; have y1 := blk_cell r0 1; have f0 := blk_frozen r0 0; have f1 := blk_frozen r0 1))
                refine bodyPost_ret (HRES _ _ _ _ r0 rfl rfl rfl) rfl ?_
                exact HRET _ _ (below_then hB hB.size hBB) r0 HE.out _ rfl
    · have HP := hide_ (show runW L 0 zeroP = (q, 0, 0) by
        have h := HST.out
        rw [List.take_of_length_le (by omega)] at h
        exact runW_all h)
      have hO5 := fun W => OwnsP.keep (w := wr) (w' := W) hP
      obtain ⟨vm, vc, p1, hrd⟩ := hP.reads
      obtain ⟨A1, c1, A2, c2, rfl, rfl, -, -⟩ := hrd
      have z0 := blk_cell p1 0
      have z1 := blk_cell p1 1
      have y0 := blk_cell hr0 0
      have y1 := blk_cell hr0 1
      have f0 := blk_frozen hr0 0
      have f1 := blk_frozen hr0 1
      clear hR1 hls
      go_wp2
      have far : ∀ (Y : World) (g j : Nat) (u : Value) (i : Nat) (o : Obj), i ≠ g → Y.heap[i]? = some o → (Y.setCell ⟨g, j, none⟩ u).heap[i]? = some o := fun Y g j u i o hi ho => (Below.heap_setCell Y ⟨g, j, none⟩ u i hi).trans ho
      have k0 := blk_put (blk_put hr0 0 (.slice A1 q.main.length c1) (cs' := #[.slice A1 q.main.length c1, .slice none 0 0]) rfl) 1 (.slice A2 q.calls.length c2) (cs' := #[.slice A1 q.main.length c1, .slice A2 q.calls.length c2]) rfl
      have kB := below_set_cell (below_set_cell hB (Nat.le_refl _) 0 (.slice A1 q.main.length c1)) (Nat.le_refl _) 1 (.slice A2 q.calls.length c2)
      have k3 := far _ w.heap.size 1 (.slice A2 q.calls.length c2) _ _ (by omega) (far _ w.heap.size 0 (.slice A1 q.main.length c1) _ _ (by omega) p1)
      have kP := hO5 ((wr.setCell ⟨w.heap.size, 0, none⟩ (.slice A1 q.main.length c1)).setCell ⟨w.heap.size, 1, none⟩ (.slice A2 q.calls.length c2)) (fun k cs t _ hk hc => far _ w.heap.size 1 (.slice A2 q.calls.length c2) _ _ (by omega) (far _ w.heap.size 0 (.slice A1 q.main.length c1) _ _ (by omega) hc))
      obtain ⟨vm', vc', hb', hrd⟩ := kP.reads
      have hvv := hb'.symm.trans k3
      simp at hvv
      obtain ⟨rfl, rfl⟩ := hvv
      refine bodyPost_ret (results_list (rs := [.cell 2 60, .tmp 3, .tmp 4]) rfl (by simp) (.cell w.heap.size 60 _ (0, 0) _ rfl k0 Tryd.underlying60 rfl (by kernel_rfl) (.tmp (.tmp .nil)))) rfl ?_
      rw [HS.out, HP.out]
      exact ⟨_, _, rfl, hrd, kB⟩
end Go.Proofs.YtmjedjhgomlfiaaDoor

set_option linter.unusedSimpArgs false
namespace Go.Proofs.YtmjedjhgomlfiaaDoor
open Go.RowKit Go.Proofs.YtmjedjhgomlfiaaDoorW.PrintWords Go.Lib

def OpV.tupL (x : OpV) : List Int × List UInt8 := ([x.code, x.a, x.b, x.c, x.d], x.s.data.toList)
theorem tupL_inj {x y : OpV} (h : x.tupL = y.tupL) : x = y := by
  obtain ⟨x1, x2, x3, x4, x5, x6⟩ := x
  obtain ⟨y1, y2, y3, y4, y5, y6⟩ := y
  simp [OpV.tupL] at h
  obtain ⟨⟨h1, h2, h3, h4, h5⟩, h6⟩ := h
  subst h1 h2 h3 h4 h5
  rw [show x6 = y6 from ByteArray.ext h6]
theorem mapL_inj : ∀ {l m : List OpV}, l.map OpV.tupL = m.map OpV.tupL → l = m
  | [], [], _ => rfl
  | [], _ :: _, h => by simp at h
  | _ :: _, [], h => by simp at h
  | x :: l, y :: m, h => by
    simp only [List.map_cons, List.cons.injEq] at h
    rw [tupL_inj h.1, mapL_inj h.2]
theorem mapLL_inj : ∀ {l m : List (List OpV)}, l.map (List.map OpV.tupL) = m.map (List.map OpV.tupL) → l = m
  | [], [], _ => rfl
  | [], _ :: _, h => by simp at h
  | _ :: _, [], h => by simp at h
  | x :: l, y :: m, h => by
    simp only [List.map_cons, List.cons.injEq] at h
    rw [mapL_inj h.1, mapLL_inj h.2]
def exS : ByteArray := ⟨#[99, 108, 101, 97, 114, 32, 49, 10, 99, 97, 108, 108, 10, 115, 116, 111, 112, 32, 45, 51, 10]⟩
def exP : ProgV := ⟨[⟨17, 1, 0, 0, 0, ⟨#[]⟩⟩], [[⟨15, -3, 0, 0, 0, ⟨#[]⟩⟩]]⟩
theorem script_ex : scriptW exS = (exP, 0, 0) := by
  have h : (scriptW exS).1.main.map OpV.tupL = exP.main.map OpV.tupL ∧ (scriptW exS).1.calls.map (List.map OpV.tupL) = exP.calls.map (List.map OpV.tupL) ∧ (scriptW exS).2.1 = 0 ∧ (scriptW exS).2.2 = 0 := by decide +kernel
  obtain ⟨h1, h2, h3, h4⟩ := h
  have e1 := mapL_inj h1
  have e2 := mapLL_inj h2
  rcases hs : scriptW exS with ⟨⟨m, c⟩, k, f⟩
  rw [hs] at e1 e2 h3 h4
  simp only at e1 e2 h3 h4
  rw [e1, e2, h3, h4]
theorem C_one {α : Type} {d : Kd α} {w : World} {b : Nat} {t : TypeId} {x : α} {cs : List Value} (hK : d.K w x cs) (hb : w.heap[b]? = some (.cells cs.toArray t (0, 0))) : d.C w (some ⟨b, 0, none⟩) 1 [x] := by
  refine ⟨rfl, by decide, fun _ => ⟨_, rfl, fun j p hj => ?_⟩⟩
  obtain rfl : j = 0 := by
    have := (List.getElem?_eq_some_iff.1 hj).1
    simp at this; exact this
  simp at hj
  subst hj
  refine ⟨cs, d.K_len hK, hK, fun i u hu => ?_⟩
  rw [Nat.zero_mul, Nat.zero_add, Go.Proofs.YtmjedjhgomlfiaaDoorW.PrintWords.add_plain, blk_cell hb]
  simpa using hu
theorem lit_reads {W : World} {b1 b2 b3 : Nat} (h1 : W.heap[b1]? = some (.cells #[.int .i64 17, .int .i64 1, .int .i64 0, .int .i64 0, .int .i64 0, .string ⟨#[]⟩] 39 (0, 0)))
    (h2 : W.heap[b2]? = some (.cells #[.int .i64 15, .int .i64 (-3), .int .i64 0, .int .i64 0, .int .i64 0, .string ⟨#[]⟩] 39 (0, 0))) (h3 : W.heap[b3]? = some (.cells #[.slice (some ⟨b2, 0, none⟩) 1 1] 57 (0, 0))) :
    ReadsP W (.slice (some ⟨b1, 0, none⟩) 1 1) (.slice (some ⟨b3, 0, none⟩) 1 1) exP := by
  have k1 : kOp.C W (some ⟨b1, 0, none⟩) 1 [⟨17, 1, 0, 0, 0, ⟨#[]⟩⟩] := C_one (kOp.K_of_M (kOp_mkM W 0 (fun _ => True) ⟨17, 1, 0, 0, 0, ⟨#[]⟩⟩)) h1
  have k2 : kOp.C W (some ⟨b2, 0, none⟩) 1 [⟨15, -3, 0, 0, 0, ⟨#[]⟩⟩] := C_one (kOp.K_of_M (kOp_mkM W 0 (fun _ => True) ⟨15, -3, 0, 0, 0, ⟨#[]⟩⟩)) h2
  have k3 : kCalls.C W (some ⟨b3, 0, none⟩) 1 [[⟨15, -3, 0, 0, 0, ⟨#[]⟩⟩]] := C_one (d := kCalls) (cs := [.slice (some ⟨b2, 0, none⟩) 1 1]) ⟨_, 1, rfl, Nat.le_refl _, k2⟩ h3
  exact ⟨_, _, _, _, rfl, rfl, k1, k3⟩

open Classical in
theorem awake_same (w1 : World) (A1 A2 : Option Addr) (c1 c2 : Nat) (hR : ReadsP w1 (.slice A1 exP.main.length c1) (.slice A2 exP.calls.length c2) exP) :
    Calls Tryd.prog 50 #[.agg #[.slice A1 exP.main.length c1, .slice A2 exP.calls.length c2], .agg #[.slice (some ⟨w1.heap.size + 1, 0, none⟩) 1 1, .slice (some ⟨w1.heap.size + 1 + 1 + 1, 0, none⟩) 1 1]] ((((w1.alloc (.cells #[.slice A1 exP.main.length c1, .slice A2 exP.calls.length c2] 60)).alloc (.cells #[.int .i64 17, .int .i64 1, .int .i64 0, .int .i64 0, .int .i64 0, .string ⟨#[]⟩] 39)).alloc (.cells #[.int .i64 15, .int .i64 (-3), .int .i64 0, .int .i64 0, .int .i64 0, .string ⟨#[]⟩] 39)).alloc (.cells #[.slice (some ⟨w1.heap.size + 1 + 1, 0, none⟩) 1 1] 57)) fun e w' => e = .returned (.bool true) ∧ Below w1.heap.size w1 w' := by
  obtain ⟨W, hW⟩ : ∃ W, ((((w1.alloc (.cells #[.slice A1 exP.main.length c1, .slice A2 exP.calls.length c2] 60)).alloc (.cells #[.int .i64 17, .int .i64 1, .int .i64 0, .int .i64 0, .int .i64 0, .string ⟨#[]⟩] 39)).alloc (.cells #[.int .i64 15, .int .i64 (-3), .int .i64 0, .int .i64 0, .int .i64 0, .string ⟨#[]⟩] 39)).alloc (.cells #[.slice (some ⟨w1.heap.size + 1 + 1, 0, none⟩) 1 1] 57)) = W := ⟨_, rfl⟩
  have hB : Below w1.heap.size w1 W := by rw [← hW]; exact below_alloc (below_alloc (below_alloc (below_alloc (Below.refl _ _) _) _) _) _
  have h1 : W.heap[w1.heap.size + 1]? = some (.cells #[.int .i64 17, .int .i64 1, .int .i64 0, .int .i64 0, .int .i64 0, .string ⟨#[]⟩] 39 (0, 0)) := by rw [← hW]; exact alloc_at (alloc_at (alloc_new' (by simp)) _) _
  have h2 : W.heap[w1.heap.size + 1 + 1]? = some (.cells #[.int .i64 15, .int .i64 (-3), .int .i64 0, .int .i64 0, .int .i64 0, .string ⟨#[]⟩] 39 (0, 0)) := by rw [← hW]; exact alloc_at (alloc_new' (by simp)) _
  have h3 : W.heap[w1.heap.size + 1 + 1 + 1]? = some (.cells #[.slice (some ⟨w1.heap.size + 1 + 1, 0, none⟩) 1 1] 57 (0, 0)) := by rw [← hW]; exact alloc_new' (by simp)
  rw [hW]
  refine (sameP_any _ _ _ _ exP exP W (hR.below hB) (lit_reads h1 h2 h3) (by decide)).mono ?_
  rintro e w2 ⟨rfl, hB2⟩
  exact ⟨by rw [decide_eq_true ⟨rfl, rfl⟩], below_then hB hB.size hB2⟩

set_option maxRecDepth 100000 in
set_option maxHeartbeats 1600000 in
theorem scAwake_any (w : World) (hO : LayO w) (hL : w.ShapedOpen Tryd.prog) : Calls Tryd.prog 47 #[] w fun e w' => e = .returned (.bool true) ∧ Below w.heap.size w w' := by
  have hp := sparse_any exS w hO hL (by decide)
  rw [script_ex] at hp
  unfold exS at hp
  go_enter Tryd.func47, Tryd.ntmps47
  go_wp2_with (first
    | (go_at_call 48; refine hp.mono ?_; rintro e w1 ⟨vm, vc, rfl, hR, hB⟩; have hR' := hR; obtain ⟨A1, c1, A2, c2, rfl, rfl, -, -⟩ := hR')
    | (go_at_call 50; refine (awake_same w1 A1 A2 c1 c2 hR).mono ?_; rintro e w2 ⟨rfl, hB2⟩))
  go_ret
  exact ⟨rfl, below_then hB hB.size hB2⟩
end Go.Proofs.YtmjedjhgomlfiaaDoor

set_option linter.unusedSimpArgs false
namespace Go.Proofs.YtmjedjhgomlfiaaDoor
open Go.RowKit Go.Proofs.YtmjedjhgomlfiaaDoorW.PrintWords Go.Lib

theorem scriptW_count (s : ByteArray) (hs : s.size ≤ 10000) : countP (scriptW s).1 ≤ 10001 := by
  unfold scriptW
  have h1 := spn_count (Lib.trimSuffix s.data.toList [10])
  have h2 := trim_le s.data.toList
  have h3 : s.data.toList.length = s.size := rfl
  generalize hL : linesS (Lib.trimSuffix s.data.toList [10]) = L
  have hl : L.length ≤ 10001 := by rw [← hL, linesS, List.length_map]; omega
  have hz : countP zeroP = 0 := rfl
  have key : ∀ (l : List ByteArray) (k : Nat) (p : ProgV), countP (runW l k p).1 ≤ countP p + l.length := by
    intro l
    induction l with
    | nil => intro k p; exact Nat.le_refl _
    | cons x l ih =>
      intro k p
      rw [runW]
      split
      · have h4 := ih (k + 1) (lineW p x).1
        have h5 := lineW_count p x
        rw [List.length_cons]
        omega
      · rw [hz]; omega
  have := key L 0 zeroP
  omega

open Classical in
set_option maxRecDepth 100000 in
set_option maxHeartbeats 1600000 in
theorem scriptParses_any (s : ByteArray) (w : World) (hL : w.ShapedOpen Tryd.prog) (hO : LayO w) :
    Calls Tryd.prog 12 #[.string s] w fun e w' => e = .returned (.bool true) ∧ Below w.heap.size w w' := by
  have haw := scAwake_any w hO hL
  by_cases hs : s.size ≤ 3000
  · have q : ¬ (3000 : Int) < s.size := by omega
    have hp := fun W (hW : Below w.heap.size w W) => sparse_any s W (hO.below hW) (shaped_below hL hW) (by omega)
    have hr := fun W => rscript_any s W (by omega)
    have hcn := scriptW_count s (by omega)
    have hsame := fun vm vc um uc W h1 h2 => sameP_any vm vc um uc (scriptW s).1 (scriptW s).1 W h1 h2 (by omega)
    rw [decide_eq_true (show (scriptW s).1.main = (scriptW s).1.main ∧ (scriptW s).1.calls = (scriptW s).1.calls from ⟨rfl, rfl⟩)] at hsame
    generalize (scriptW s).2.1 = k at *
    generalize (scriptW s).2.2 = f at *
    generalize (scriptW s).1 = p at *
    clear hcn
    go_enter Tryd.func12, Tryd.ntmps12
    go_wp2_with (first
      | (go_at_call 47; refine haw.mono ?_; rintro e w0 ⟨rfl, hB0⟩)
      | (go_at_call 48; refine (hp _ hB0).mono ?_; rintro e w1 ⟨vm, vc, rfl, hR, hB1⟩; have hR' := hR; obtain ⟨A1, c1, A2, c2, rfl, rfl, -, -⟩ := hR'; have hC1 := (below_then hB0 hB0.size hB1).alloc (below_then hB0 hB0.size hB1).size (.cells #[.slice A1 p.main.length c1, .slice A2 p.calls.length c2] 60); have hR1 := hR.below (below_alloc (Below.refl _ w1) (.cells #[.slice A1 p.main.length c1, .slice A2 p.calls.length c2] 60)); have hX1 := blk_new w1 (.cells #[.slice A1 p.main.length c1, .slice A2 p.calls.length c2] 60))
      | (go_at_call 49; refine (hr _).mono ?_; rintro e w2 ⟨um, uc, rfl, hS, hB2⟩; have hS' := hS; obtain ⟨A3, c3, A4, c4, rfl, rfl, -, -⟩ := hS'; have hR2 := hR1.below hB2; have hX2 := blk_below hX1 hB2; have hC2 := (below_then hC1 hC1.size hB2).alloc (below_then hC1 hC1.size hB2).size (.cells #[.slice A3 p.main.length c3, .slice A4 p.calls.length c4] 60); have hR3 := hR2.below (below_alloc (Below.refl _ w2) (.cells #[.slice A3 p.main.length c3, .slice A4 p.calls.length c4] 60)); have hS3 := hS.below (below_alloc (Below.refl _ w2) (.cells #[.slice A3 p.main.length c3, .slice A4 p.calls.length c4] 60)); have hX3 := alloc_at hX2 (.cells #[.slice A3 p.main.length c3, .slice A4 p.calls.length c4] 60); have z0 := blk_cell hX3 0; have z1 := blk_cell hX3 1)
      | (go_at_call 50; refine (hsame _ _ _ _ _ hR3 hS3).mono ?_; rintro e w3 ⟨rfl, hB3⟩))
    go_ret
    exact ⟨by simp, below_then hC2 hC2.size hB3⟩
  · have q : (3000 : Int) < s.size := by omega
    go_enter Tryd.func12, Tryd.ntmps12
    go_wp2_with (go_at_call 47; refine haw.mono ?_; rintro e w0 ⟨rfl, hB0⟩)
    go_ret
    exact ⟨rfl, hB0⟩
end Go.Proofs.YtmjedjhgomlfiaaDoor

set_option linter.unusedSimpArgs false
namespace Go.Proofs.YtmjedjhgomlfiaaDoor
open Go.RowKit Go.Proofs.YtmjedjhgomlfiaaDoorW.PrintWords Go.Lib

theorem spn_append (a b : List UInt8) : spn (a ++ 10 :: b) = spn a ++ spn b := by
  induction a with
  | nil => rw [List.nil_append, spn_end]; rfl
  | cons c a ih =>
    by_cases hc : c = 10
    · subst hc
      rw [List.cons_append, spn_end, spn_end, ih, List.cons_append]
    · obtain ⟨h, t, he⟩ := spn_ne a
      rw [List.cons_append, spn_cons hc (h := h) (t := t ++ spn b) (by rw [ih, he, List.cons_append]), spn_cons hc he, List.cons_append]
theorem rl_any (a b : List UInt8) : rl (a ++ 10 :: b) = spn a ++ rl b := by
  rw [rl, if_neg (by simp)]
  by_cases hb : b = []
  · subst hb
    rw [trim_snoc, rl_nil, List.append_nil]
  · rw [trim_cut a b hb, spn_append, rl, if_neg hb]
/-- A play of lines, their numbers left out. -/
def coreW : List ByteArray → ProgV → ProgV × Int
  | [], p => (p, 0)
  | s :: r, p => if (lineW p s).2 = 0 then coreW r (lineW p s).1 else (zeroP, (lineW p s).2)
theorem run_core : ∀ (l : List ByteArray) (k : Nat) (p : ProgV), (runW l k p).1 = (coreW l p).1 ∧ (runW l k p).2.2 = (coreW l p).2 ∧ ((runW l k p).2.1 = 0 ↔ (runW l k p).2.2 = 0)
  | [], k, p => ⟨rfl, rfl, by simp [runW]⟩
  | s :: r, k, p => by
    rw [runW, coreW]
    split
    · exact run_core r (k + 1) _
    · rename_i h
      refine ⟨rfl, rfl, ?_⟩
      constructor
      · intro h1
        have : ((k + 1 : Nat) : Int) = 0 := h1
        omega
      · intro h1; exact absurd h1 h
theorem core_append : ∀ (l m : List ByteArray) (p : ProgV), coreW (l ++ m) p = if (coreW l p).2 = 0 then coreW m (coreW l p).1 else coreW l p
  | [], m, p => by simp [coreW]
  | s :: r, m, p => by
    rw [List.cons_append, coreW, coreW]
    split
    · exact core_append r m _
    · rename_i h
      first | rfl | (rw [if_neg h])
/-- A line that says nothing. -/
def blankL (s : ByteArray) : Prop := saysW (words s) = false
theorem core_blank : ∀ (l m : List ByteArray) (p : ProgV), (∀ s ∈ l, blankL s) → coreW (l ++ m) p = coreW m p
  | [], m, p, _ => rfl
  | s :: r, m, p, h => by
    have h1 : lineW p s = (p, 0) := by
      have : saysW (words s) = false := h s (by simp)
      rw [lineW, this]; rfl
    rw [List.cons_append, coreW, h1, if_pos rfl]
    exact core_blank r m p (fun x hx => h x (by simp [hx]))
theorem core_insert (l b m : List ByteArray) (p : ProgV) (h : ∀ s ∈ b, blankL s) : coreW (l ++ (b ++ m)) p = coreW (l ++ m) p := by
  rw [core_append l (b ++ m), core_append l m, core_blank b m _ h]

/-- The blanks that may stand between, without their ends. -/
def blankP : List (List UInt8) := [[], [32, 32, 32], [32, 35, 32, 99, 97, 108, 108], []]
theorem blankP_blank : ∀ t ∈ blankP, blankL (ofL t) ∧ spn t = [t] := by
  intro t ht
  simp [blankP] at ht
  rcases ht with rfl | rfl | rfl | rfl
  · exact ⟨by show saysW (words (ofL [])) = false; decide +kernel, by decide +kernel⟩
  · exact ⟨by show saysW (words (ofL [32, 32, 32])) = false; decide +kernel, by decide +kernel⟩
  · exact ⟨by show saysW (words (ofL [32, 35, 32, 99, 97, 108, 108])) = false; decide +kernel, by decide +kernel⟩
  · exact ⟨by show saysW (words (ofL [])) = false; decide +kernel, by decide +kernel⟩
/-- Lines, each with its end. -/
def endsL (l : List (List UInt8)) : List UInt8 := (l.map (· ++ [10])).flatten
theorem rl_ends (b : List UInt8) : ∀ l : List (List UInt8), (∀ t ∈ l, spn t = [t]) → rl (endsL l ++ b) = l ++ rl b
  | [], _ => rfl
  | t :: l, h => by
    have e : endsL (t :: l) ++ b = t ++ 10 :: (endsL l ++ b) := by simp [endsL]
    rw [e, rl_any, h t (by simp), rl_ends b l (fun x hx => h x (by simp [hx]))]
    rfl
/-- What stands between: an end, and m blanks. -/
def btw (m : Nat) : ByteArray := ofL (10 :: endsL (blankP.take m))
theorem blanks_law (a b : ByteArray) (m : Nat) : (scriptW (a ++ ⟨#[10]⟩ ++ b)).1 = (scriptW (a ++ btw m ++ b)).1 ∧ (scriptW (a ++ ⟨#[10]⟩ ++ b)).2.2 = (scriptW (a ++ btw m ++ b)).2.2 ∧
    ((scriptW (a ++ ⟨#[10]⟩ ++ b)).2.1 = 0 ↔ (scriptW (a ++ ⟨#[10]⟩ ++ b)).2.2 = 0) ∧ ((scriptW (a ++ btw m ++ b)).2.1 = 0 ↔ (scriptW (a ++ btw m ++ b)).2.2 = 0) := by
  rw [← script_lines, ← script_lines]
  have e1 : (a ++ ⟨#[10]⟩ ++ b).data.toList = a.data.toList ++ 10 :: b.data.toList := by simp
  have e2 : (a ++ btw m ++ b).data.toList = a.data.toList ++ 10 :: (endsL (blankP.take m) ++ b.data.toList) := by simp [btw, ofL]
  have hb : ∀ t ∈ blankP.take m, blankL (ofL t) ∧ spn t = [t] := fun t ht => blankP_blank t (List.mem_of_mem_take ht)
  have l1 : linesR (a ++ ⟨#[10]⟩ ++ b) = (spn a.data.toList).map ofL ++ (rl b.data.toList).map ofL := by rw [linesR, e1, rl_any, List.map_append]
  have l2 : linesR (a ++ btw m ++ b) = (spn a.data.toList).map ofL ++ ((blankP.take m).map ofL ++ (rl b.data.toList).map ofL) := by
    rw [linesR, e2, rl_any, rl_ends _ _ (fun t ht => (hb t ht).2), List.map_append, List.map_append]
  have r1 := run_core (linesR (a ++ ⟨#[10]⟩ ++ b)) 0 zeroP
  have r2 := run_core (linesR (a ++ btw m ++ b)) 0 zeroP
  have hc : coreW (linesR (a ++ ⟨#[10]⟩ ++ b)) zeroP = coreW (linesR (a ++ btw m ++ b)) zeroP := by
    rw [l1, l2, core_insert]
    intro s hs
    obtain ⟨t, ht, rfl⟩ := List.mem_map.1 hs
    exact (hb t ht).1
  rw [hc] at r1
  exact ⟨r1.1.trans r2.1.symm, r1.2.1.trans r2.2.1.symm, r1.2.2, r2.2.2⟩
theorem btw_size : ∀ m, m ≤ 4 → (btw m).size ≤ 40
  | 0, _ => by decide +kernel
  | 1, _ => by decide +kernel
  | 2, _ => by decide +kernel
  | 3, _ => by decide +kernel
  | 4, _ => by decide +kernel
  | m + 5, h => by omega
theorem btw_next : btw 1 = btw 0 ++ ⟨#[10]⟩ ∧ btw 2 = btw 1 ++ ⟨#[32, 32, 32, 10]⟩ ∧ btw 3 = btw 2 ++ ⟨#[32, 35, 32, 99, 97, 108, 108, 10]⟩ ∧ btw 4 = btw 3 ++ ⟨#[10]⟩ := by
  refine ⟨?_, ?_, ?_, ?_⟩ <;> (apply ByteArray.ext; apply Array.toList_inj.1; decide +kernel)
theorem u8_lo {n : Int} (h : (Lit.int .u8 n).wf = true) : 0 ≤ n := by
  simp [Lit.wf] at h
  exact h.1
theorem u8_hi {n : Int} (h : (Lit.int .u8 n).wf = true) : n ≤ 255 := by
  simp [Lit.wf] at h
  exact h.2

open Classical in
set_option maxRecDepth 100000 in
set_option maxHeartbeats 3200000 in
theorem scriptBlanks_any (a b : ByteArray) (n : Int) (w : World) (hL : w.ShapedOpen Tryd.prog) (hO : LayO w) (hn0 : 0 ≤ n) (hn1 : n ≤ 255) :
    Calls Tryd.prog 13 #[.string a, .string b, .int .u8 n] w fun e w' => e = .returned (.bool true) ∧ Below w.heap.size w w' := by
  have haw := scAwake_any w hO hL
  by_cases ha : a.size ≤ 1500
  · have qa : ¬ (1500 : Int) < a.size := by omega
    by_cases hb : b.size ≤ 1500
    · have qb : ¬ (1500 : Int) < b.size := by omega
      obtain ⟨m, hm, hm4⟩ : ∃ m : Nat, n % 5 = (m : Int) ∧ m ≤ 4 := ⟨(n % 5).toNat, by omega, by omega⟩
      have hsz1 : (a ++ ⟨#[10]⟩ ++ b).size ≤ 10000 := by rw [ByteArray.size_append, ByteArray.size_append]; show a.size + 1 + b.size ≤ 10000; omega
      have hbt := btw_size m hm4
      have hsz2 : (a ++ btw m ++ b).size ≤ 10000 := by rw [ByteArray.size_append, ByteArray.size_append]; omega
      obtain ⟨l1, l2, l3, l4⟩ := blanks_law a b m
      have hp := fun W (hW : Below w.heap.size w W) => sparse_any (a ++ ⟨#[10]⟩ ++ b) W (hO.below hW) (shaped_below hL hW) hsz1
      have hr := fun W (hW : Below w.heap.size w W) => sparse_any (a ++ btw m ++ b) W (hO.below hW) (shaped_below hL hW) hsz2
      rw [← l1, ← l2] at hr
      rw [← l2] at l4
      have hcn := scriptW_count _ hsz1
      have hsame := fun vm vc um uc W h1 h2 => sameP_any vm vc um uc (scriptW (a ++ ⟨#[10]⟩ ++ b)).1 (scriptW (a ++ ⟨#[10]⟩ ++ b)).1 W h1 h2 (by omega)
      rw [decide_eq_true (show (scriptW (a ++ ⟨#[10]⟩ ++ b)).1.main = (scriptW (a ++ ⟨#[10]⟩ ++ b)).1.main ∧ (scriptW (a ++ ⟨#[10]⟩ ++ b)).1.calls = (scriptW (a ++ ⟨#[10]⟩ ++ b)).1.calls from ⟨rfl, rfl⟩)] at hsame
      clear l1 l2
      generalize (scriptW (a ++ ⟨#[10]⟩ ++ b)).2.1 = k at *
      generalize (scriptW (a ++ btw m ++ b)).2.1 = k2 at *
      generalize (scriptW (a ++ ⟨#[10]⟩ ++ b)).2.2 = f at *
      generalize (scriptW (a ++ ⟨#[10]⟩ ++ b)).1 = p at *
      have hkf : (f == 0) = (k == 0) := by
        rw [Bool.eq_iff_iff]; simp; exact l3.symm
      have hkf2 : (f == 0) = (k2 == 0) := by
        rw [Bool.eq_iff_iff]; simp; exact l4.symm
      clear hcn l3 l4 hsz1 hsz2 hbt
      go_enter Tryd.func13, Tryd.ntmps13
      go_wp2_with (first
        | (go_at_call 47; refine haw.mono ?_; rintro e w0 ⟨rfl, hB0⟩)
        | (go_at_call 48; refine (hp _ hB0).mono ?_; rintro e w1 ⟨vm, vc, rfl, hR, hB1⟩; have hR' := hR; obtain ⟨A1, c1, A2, c2, rfl, rfl, -, -⟩ := hR'))
      have hX1 := blk_new w1 (.cells #[.slice A1 p.main.length c1, .slice A2 p.calls.length c2] 60)
      have hR1 := hR.below (below_alloc (Below.refl _ w1) (.cells #[.slice A1 p.main.length c1, .slice A2 p.calls.length c2] 60))
      have hC1 := (below_then hB0 hB0.size hB1).alloc (below_then hB0 hB0.size hB1).size (.cells #[.slice A1 p.main.length c1, .slice A2 p.calls.length c2] 60)
      generalize w1.alloc (.cells #[.slice A1 p.main.length c1, .slice A2 p.calls.length c2] 60) = W1 at *
      generalize w1.heap.size = gx at *
      have hm' : n.tmod 5 = (m : Int) := by rw [Int.tmod_eq_emod_of_nonneg hn0]; exact hm
      have HM := hide_ hm
      clear hm
      go_loopw [10, 11] (fun t i wr => ∃ j : Nat, j ≤ m ∧ i = .int .i64 j ∧ t = .string (btw j) ∧ Below W1.heap.size W1 wr) (fun _ i _ => m - (intOf i).toNat)
      case atStart => exact ⟨0, Nat.zero_le _, rfl, rfl, Below.refl _ _⟩
      case round =>
        obtain ⟨j, hj, rfl, rfl, hB⟩ := hrel
        by_cases hlt : j < m
        · obtain ⟨b1, b2, b3, b4⟩ := btw_next
          have H1 := hide_ b1
          have H2 := hide_ b2
          have H3 := hide_ b3
          have H4 := hide_ b4
          clear b1 b2 b3 b4
          have hj4 : j = 0 ∨ j = 1 ∨ j = 2 ∨ j = 3 := by omega
          have hbs := btw_size j (by omega)
          have hjm : (j : Int) < (m : Int) := by omega
          rcases hj4 with rfl | rfl | rfl | rfl
          · go_wp2
            go_roundw
            case rel => exact ⟨1, by omega, rfl, by rw [H1.out], below_alloc hB _⟩
            case measure => simp [intOf]; omega
          · go_wp2
            go_roundw
            case rel => exact ⟨2, by omega, rfl, by rw [H2.out], below_alloc hB _⟩
            case measure => simp [intOf]; omega
          · go_wp2
            go_roundw
            case rel => exact ⟨3, by omega, rfl, by rw [H3.out], below_alloc hB _⟩
            case measure => simp [intOf]; omega
          · go_wp2
            go_roundw
            case rel => exact ⟨4, by omega, rfl, by rw [H4.out], below_alloc hB _⟩
            case measure => simp [intOf]; omega
        · obtain rfl : j = m := by omega
          have hjm : ¬ (j : Int) < n % 5 := by rw [HM.out]; omega
          have hbs := btw_size j (by omega)
          have hC2 := below_then hC1 hC1.size hB
          have hX2 := blk_below hX1 hB
          have hR2 := hR1.below hB
          clear hX1 hR1 hC1 hB hj hlt
          generalize btw j = bt at *
          clear hm'
          go_wp2_with (first
            | (go_at_call 48; refine (hr _ hC2).mono ?_; rintro e w2 ⟨um, uc, rfl, hS, hB2⟩; have hS' := hS; obtain ⟨A3, c3, A4, c4, rfl, rfl, -, -⟩ := hS'; have hR3 := hR2.below hB2; have hX3 := blk_below hX2 hB2; have hC3 := (below_then hC2 hC2.size hB2).alloc (below_then hC2 hC2.size hB2).size (.cells #[.slice A3 p.main.length c3, .slice A4 p.calls.length c4] 60); have hR4 := hR3.below (below_alloc (Below.refl _ w2) (.cells #[.slice A3 p.main.length c3, .slice A4 p.calls.length c4] 60)); have hS4 := hS.below (below_alloc (Below.refl _ w2) (.cells #[.slice A3 p.main.length c3, .slice A4 p.calls.length c4] 60)); have hX4 := alloc_at hX3 (.cells #[.slice A3 p.main.length c3, .slice A4 p.calls.length c4] 60); have z0 := blk_cell hX4 0; have z1 := blk_cell hX4 1)
            | (go_at_call 50; refine (hsame _ _ _ _ _ hR4 hS4).mono ?_; rintro e w3 ⟨rfl, hB3⟩))
          go_ret
          exact ⟨by rw [← hkf, hkf2]; simp, below_then hC3 hC3.size hB3⟩
    · have qb : (1500 : Int) < b.size := by omega
      go_enter Tryd.func13, Tryd.ntmps13
      go_wp2_with (go_at_call 47; refine haw.mono ?_; rintro e w0 ⟨rfl, hB0⟩)
      go_ret
      exact ⟨rfl, hB0⟩
  · have qa : (1500 : Int) < a.size := by omega
    go_enter Tryd.func13, Tryd.ntmps13
    go_wp2_with (go_at_call 47; refine haw.mono ?_; rintro e w0 ⟨rfl, hB0⟩)
    go_ret
    exact ⟨rfl, hB0⟩
end Go.Proofs.YtmjedjhgomlfiaaDoor
