/- RowsWords: the law's call returns true. -/
import Derived.Test.YtmjedjhgomlfiaaDoorRowDo
set_option linter.unusedSimpArgs false
namespace Go.Proofs.YtmjedjhgomlfiaaDoor
open Go.RowKit Go.Proofs.YtmjedjhgomlfiaaDoorW.PrintWords Go.Lib

theorem own_wordR {y : ByteArray} (h : ∀ b ∈ y.data.toList, b ≠ 32) (hn : y.data.toList ≠ []) : words y = [y] := by
  rw [words_W, W_free h hn, ofL_data]
theorem decDigits_freeR : ∀ (u : Nat), (∀ b ∈ decDigits u, b ≠ 32) ∧ decDigits u ≠ [] := by
  intro u
  induction u using Nat.strongRecOn with
  | ind u ih =>
    rw [decDigits]
    have hd : ∀ k : Nat, k < 10 → UInt8.ofNat (48 + k) ≠ 32 := by decide
    by_cases h : u < 10
    · rw [dif_pos h]
      refine ⟨fun b hb => ?_, by simp⟩
      rw [List.mem_singleton] at hb; subst hb; exact hd u h
    · rw [dif_neg h]
      refine ⟨fun b hb => ?_, by simp⟩
      rcases List.mem_append.1 hb with hb | hb
      · exact (ih (u / 10) (by omega)).1 b hb
      · rw [List.mem_singleton] at hb; subst hb; exact hd (u % 10) (by omega)
theorem numS_word (n : Int) : words (numS n) = [numS n] := by
  refine own_wordR ?_ ?_
  · rw [numS, data_ofL, itoa]
    split
    · intro b hb
      rcases List.mem_cons.1 hb with h | h
      · subst h; decide
      · exact (decDigits_freeR _).1 b h
    · exact (decDigits_freeR _).1
  · rw [numS, data_ofL, itoa]
    split
    · simp
    · exact (decDigits_freeR _).2
theorem nameQ_word (c : Int) : words (nameQ c) = [nameQ c] := by
  have k1 : ∀ j : Fin 18, 1 ≤ j.val → (nameW (j.val : Int)).data.toList.all (fun b => b != 32) = true ∧ (nameW (j.val : Int)).data.toList.isEmpty = false ∧ (nameW (j.val : Int)).toList.isEmpty = false := by decide +kernel
  cases hc : there c with
  | true =>
    obtain ⟨j, rfl, h1, h2⟩ := there_nat hc
    obtain ⟨a1, a2, a3⟩ := k1 ⟨j, h2⟩ h1
    have e : nameQ (j : Int) = nameW (j : Int) := by rw [nameQ]; rw [show (nameW (j : Int)).toList.isEmpty = false from a3]; rfl
    rw [e]
    refine own_wordR (fun b hb => ?_) (fun hn => ?_)
    · have := List.all_eq_true.1 a1 b hb
      simpa using this
    · rw [show ((⟨j, h2⟩ : Fin 18).val : Int) = (j : Int) from rfl, hn] at a2
      cases a2
  | false =>
    have e : nameQ c = ⟨#[63]⟩ := by
      have e0 : nameW c = ByteArray.empty := by rw [nameW, hc, if_neg (by decide)]
      rw [nameQ, e0, if_pos (by rw [ByteArray.toList_eq]; rfl)]
    rw [e]
    exact own_wordR (by simp) (by simp)
theorem flagsTo_mem : ∀ (cs : List UInt8) (bs : List Bool) (b : UInt8), b ∈ flagsTo cs bs → b ∈ cs
  | [], bs, b, h => by simp [flagsTo] at h
  | c :: cs, [], b, h => by simp [flagsTo] at h
  | c :: cs, x :: bs, b, h => by
    rw [flagsTo] at h
    rcases List.mem_append.1 h with h | h
    · cases x
      · simp at h
      · simp at h; subst h; simp
    · exact List.mem_cons_of_mem _ (flagsTo_mem cs bs b h)
theorem flagT_word (f : FlagV) : words (flagT f) = [flagT f] := by
  rw [flagT]
  by_cases h : flagL f = []
  · rw [if_pos h]
    exact own_wordR (by simp) (by simp)
  · rw [if_neg h]
    refine own_wordR (fun b hb => ?_) h
    have := flagsTo_mem _ _ b hb
    have hl : ∀ b ∈ letters.data.toList, b ≠ 32 := by decide
    exact hl b this
theorem rowT_words (x : EntV) : ∀ y ∈ rowT x, words y = [y] := by
  have hr : ∀ y : ByteArray, y = ⟨#[100, 111]⟩ ∨ y = ⟨#[101, 114, 114, 111, 114]⟩ ∨ y = ⟨#[114, 117, 110]⟩ ∨ y = ⟨#[112, 97, 116, 104]⟩ → words y = [y] := by
    intro y hy
    rcases hy with rfl | rfl | rfl | rfl <;> exact own_wordR (by simp) (by simp)
  intro y hy
  rw [rowT] at hy
  split at hy
  · split at hy
    · simp only [List.mem_cons, List.not_mem_nil, or_false] at hy
      rcases hy with h | h | h | h
      · exact hr y (Or.inl h)
      · rw [h]; exact numS_word _
      · rw [h]; exact nameQ_word _
      · rw [h]; exact numS_word _
    · simp only [List.mem_cons, List.not_mem_nil, or_false] at hy
      rcases hy with h | h | h | h
      · exact hr y (Or.inr (Or.inl h))
      · rw [h]; exact numS_word _
      · rw [h]; exact nameQ_word _
      · rw [h]; exact numS_word _
  · rcases List.mem_append.1 hy with hy | hy
    · rcases List.mem_append.1 hy with hy | hy
      · rcases List.mem_append.1 hy with hy | hy
        · rw [List.mem_singleton] at hy; exact hr y (Or.inr (Or.inr (Or.inl hy)))
        · obtain ⟨n, hn, rfl⟩ := List.mem_map.1 hy
          exact numS_word n
      · simp only [List.mem_cons, List.not_mem_nil, or_false] at hy
        rcases hy with h | h
        · rw [h]; exact flagT_word _
        · exact hr y (Or.inr (Or.inr (Or.inr h)))
    · obtain ⟨n, hn, rfl⟩ := List.mem_map.1 hy
      exact numS_word n
theorem split_row (x : EntV) : words (joined (rowT x)) = rowT x := words_joined _ (rowT_words x)
theorem row_size {x : EntV} (hI : x.In) (hp : x.path.length ≤ 10000) : (joined (rowT x)).size ≤ 1000000 := by
  have := rowT_join hI hp
  rw [joined, ofL_size]
  exact this

/-- The example's entry. -/
def exE : EntV := ⟨0, 0, 0, 0, 0, 0, 0, [], ⟨false, false, false, false, false, false, false, false⟩, 4, 0, 0⟩
theorem row_ex : joined (rowT exE) = ⟨#[100, 111, 32, 48, 32, 97, 112, 112, 101, 110, 100, 32, 48]⟩ := by
  have h0 : itoa 0 = [48] := by rw [show (0 : Int) = ((0 : Nat) : Int) from rfl, itoa_nonneg, decDigits_one (by decide)]; rfl
  have hn : numS 0 = ⟨#[48]⟩ := by rw [numS, h0]; rfl
  have hq : nameQ 4 = ⟨#[97, 112, 112, 101, 110, 100]⟩ := by decide +kernel
  have e : rowT exE = [⟨#[100, 111]⟩, ⟨#[48]⟩, ⟨#[97, 112, 112, 101, 110, 100]⟩, ⟨#[48]⟩] := by
    show [⟨#[100, 111]⟩, numS 0, nameQ 4, numS 0] = _
    rw [hn, hq]
  rw [e]
  rfl
set_option maxRecDepth 100000 in
set_option maxHeartbeats 3200000 in
theorem rowAwake_any (w : World) (hO : LayR w) : Calls Tryd.prog 21 #[] w fun e w' => e = .returned (.bool true) ∧ Below w.heap.size w w' := by
  have hin : In64 0 := ⟨by decide, by decide⟩
  have hr := row_any exE none 0 w hO ⟨rfl, by decide, fun h => absurd h (by simp [exE])⟩ (Nat.le_refl _) ⟨fun n hn => by simp [EntV.seven, exE] at hn; subst hn; exact hin, fun n hn => by simp [exE] at hn, hin, hin⟩ (by decide)
  rw [row_ex] at hr
  simp only [EntV.val, exE, List.length_nil] at hr
  go_enter Tryd.func21, Tryd.ntmps21
  go_wp2_with (go_at_call 22; refine hr.mono ?_; rintro e w1 ⟨rfl, hB1⟩)
  go_ret
  exact ⟨rfl, hB1⟩
theorem info34 : (Tryd.prog.info? 34).map (·.size) = some 19 := by kernel_rfl
theorem rowT_run_len {x : EntV} (h : x.l ≠ 0) : (rowT x).length = 10 + x.path.length := by
  rw [rowT, if_neg h]
  simp [EntV.seven]
  omega
theorem rowT_run {x : EntV} (h : x.l ≠ 0) : (rowT x)[0]? = some ⟨#[114, 117, 110]⟩ ∧ (rowT x)[9]? = some ⟨#[112, 97, 116, 104]⟩ := by
  rw [rowT, if_neg h]
  exact ⟨rfl, rfl⟩

set_option maxRecDepth 100000 in
set_option maxHeartbeats 3200000 in
theorem rowsWords_any (x : EntV) (A : Option Addr) (cap : Nat) (w : World) (hO : LayR w) (hA : (Kd.int .i64).C w A x.path.length x.path) (hc : x.path.length ≤ cap) (hI : x.In) :
    Calls Tryd.prog 5 #[x.val A cap] w fun e w' => e = .returned (.bool true) ∧ Below w.heap.size w w' := by
  have hbo := fun X => (Below.refl w.heap.size w).alloc (Nat.le_refl _) X
  have hX0 := fun X => heap_alloc_new w X
  have haw := rowAwake_any _ (hO.below (hbo (.cells #[.int .i64 x.l, .int .i64 x.cb, .int .i64 x.d, .int .i64 x.cur, .int .i64 x.ph, .int .i64 x.tgt, .int .i64 x.rel, .slice A x.path.length cap, .bool x.f.b0, .bool x.f.b1, .bool x.f.b2, .bool x.f.b3, .bool x.f.b4, .bool x.f.b5, .bool x.f.b6, .bool x.f.b7, .int .i64 x.code, .int .i64 x.err, .int .i64 x.ans] 34)))
  by_cases h200 : 200 < x.path.length
  · have q : (200 : Int) < x.path.length := by omega
    simp only [EntV.val]
    go_enter Tryd.func5, Tryd.ntmps5
    go_wp2_with (go_at_call 21; refine haw.mono ?_; rintro e w1 ⟨rfl, hB1⟩; have hX1 := (hB1.block _ (blk_lt (hX0 _))).trans (hX0 _); have f7 : w1.cell? ⟨w.heap.size, 7, none⟩ = some (.slice A x.path.length cap) := blk_cell hX1 7)
    go_ret
    exact ⟨rfl, below_then (hbo _) (hbo _).size hB1⟩
  · have q : ¬ (200 : Int) < x.path.length := by omega
    have hrow := fun W (h : Below w.heap.size w W) => row_any x A cap W (hO.below h) (Kd.C_below hA h) hc hI (by omega)
    have hsz := row_size hI (by omega)
    have hsp := fun W => refSplit_len (joined (rowT x)) W (by omega)
    rw [split_row] at hsp
    simp only [EntV.val] at hrow ⊢
    generalize joined (rowT x) = tx at *
    by_cases hl : x.l = 0
    · have hl2 : (x.l != 0) = false := by rw [hl]; rfl
      by_cases he : x.err = 0
      · have heq : (x.err == 0) = true := by rw [he]; rfl
        have r0 : (rowT x)[0]? = some ⟨#[100, 111]⟩ := by rw [rowT, if_pos hl, if_pos he]; rfl
        have hlen : (rowT x).length = 4 := by rw [rowT, if_pos hl, if_pos he]; rfl
        generalize rowT x = ls at *
        clear hl he
        have hCell : ∀ (W : World) (A : Option Addr), Kd.string.C W A ls.length ls → ∃ B o, A = some ⟨B, o, none⟩ ∧ W.cell? ⟨B, o, none⟩ = some (.string ⟨#[100, 111]⟩) := fun W A hC => by
          obtain ⟨B, o, e, _, h⟩ := C_strR hC (by intro h; rw [h] at r0; simp at r0)
          exact ⟨B, o, e, h 0 _ r0⟩
        rw [hlen] at hsp hCell
        go_enter Tryd.func5, Tryd.ntmps5
        go_wp2_with (first
          | (go_at_call 21; refine haw.mono ?_; rintro e w1 ⟨rfl, hB1⟩; have hC1 := below_then (hbo _) (hbo _).size hB1; have hX1 := (hB1.block _ (blk_lt (hX0 _))).trans (hX0 _); have f7 : w1.cell? ⟨w.heap.size, 7, none⟩ = some (.slice A x.path.length cap) := blk_cell hX1 7)
          | (refine gate_ (.load 34 (.tmp 1)) rfl ?_; refine wpList_load_row rfl 34 (.tmp 1) rfl _ rfl _ _ _ _ hX1 Tryd.underlying34 rfl info34 ?_)
          | (go_at_call 22; refine (hrow _ hC1).mono ?_; rintro e w2 ⟨rfl, hB2⟩; have hC2 := below_then hC1 hC1.size hB2; have hX2 := (hB2.block _ (blk_lt hX1)).trans hX1)
          | (go_at_call 16; refine (hsp _).mono ?_; rintro e w3 ⟨A3, c3, rfl, hc3, hD3, hB3⟩; have hC3 := below_then hC2 hC2.size hB3; have hX3 := (hB3.block _ (blk_lt hX2)).trans hX2; obtain ⟨B3, o3, rfl, g0⟩ := hCell _ _ hD3; have f0 : w3.cell? ⟨w.heap.size, 0, none⟩ = some (.int .i64 x.l) := blk_cell hX3 0; have f17 : w3.cell? ⟨w.heap.size, 17, none⟩ = some (.int .i64 x.err) := blk_cell hX3 17; clear hD3))
        all_goals (go_quiet (fail))
        all_goals (go_wp2)
        all_goals (go_ret)
        all_goals (exact ⟨by simp [bne, heq], pw_below_drewN hC3 _⟩)
      · have heq : (x.err == 0) = false := by rw [beq_eq_false_iff_ne]; exact he
        have r0 : (rowT x)[0]? = some ⟨#[101, 114, 114, 111, 114]⟩ := by rw [rowT, if_pos hl, if_neg he]; rfl
        have hlen : (rowT x).length = 4 := by rw [rowT, if_pos hl, if_neg he]; rfl
        generalize rowT x = ls at *
        clear hl he
        have hCell : ∀ (W : World) (A : Option Addr), Kd.string.C W A ls.length ls → ∃ B o, A = some ⟨B, o, none⟩ ∧ W.cell? ⟨B, o, none⟩ = some (.string ⟨#[101, 114, 114, 111, 114]⟩) := fun W A hC => by
          obtain ⟨B, o, e, _, h⟩ := C_strR hC (by intro h; rw [h] at r0; simp at r0)
          exact ⟨B, o, e, h 0 _ r0⟩
        rw [hlen] at hsp hCell
        go_enter Tryd.func5, Tryd.ntmps5
        go_wp2_with (first
          | (go_at_call 21; refine haw.mono ?_; rintro e w1 ⟨rfl, hB1⟩; have hC1 := below_then (hbo _) (hbo _).size hB1; have hX1 := (hB1.block _ (blk_lt (hX0 _))).trans (hX0 _); have f7 : w1.cell? ⟨w.heap.size, 7, none⟩ = some (.slice A x.path.length cap) := blk_cell hX1 7)
          | (refine gate_ (.load 34 (.tmp 1)) rfl ?_; refine wpList_load_row rfl 34 (.tmp 1) rfl _ rfl _ _ _ _ hX1 Tryd.underlying34 rfl info34 ?_)
          | (go_at_call 22; refine (hrow _ hC1).mono ?_; rintro e w2 ⟨rfl, hB2⟩; have hC2 := below_then hC1 hC1.size hB2; have hX2 := (hB2.block _ (blk_lt hX1)).trans hX1)
          | (go_at_call 16; refine (hsp _).mono ?_; rintro e w3 ⟨A3, c3, rfl, hc3, hD3, hB3⟩; have hC3 := below_then hC2 hC2.size hB3; have hX3 := (hB3.block _ (blk_lt hX2)).trans hX2; obtain ⟨B3, o3, rfl, g0⟩ := hCell _ _ hD3; have f0 : w3.cell? ⟨w.heap.size, 0, none⟩ = some (.int .i64 x.l) := blk_cell hX3 0; have f17 : w3.cell? ⟨w.heap.size, 17, none⟩ = some (.int .i64 x.err) := blk_cell hX3 17; clear hD3))
        all_goals (go_quiet (fail))
        all_goals (go_wp2)
        all_goals (go_ret)
        all_goals (exact ⟨by simp [bne, heq], pw_below_drewN hC3 _⟩)
    · have hl2 : (x.l != 0) = true := by rw [bne_iff_ne]; exact hl
      obtain ⟨r0, r9⟩ := rowT_run hl
      have hlen := rowT_run_len hl
      generalize rowT x = ls at *
      clear hl
      have hCell : ∀ (W : World) (A : Option Addr), Kd.string.C W A ls.length ls → ∃ B o, A = some ⟨B, o, none⟩ ∧ W.cell? ⟨B, o, none⟩ = some (.string ⟨#[114, 117, 110]⟩) ∧ W.cell? ⟨B, o + 9, none⟩ = some (.string ⟨#[112, 97, 116, 104]⟩) := fun W A hC => by
        obtain ⟨B, o, e, _, h⟩ := C_strR hC (by intro h; rw [h] at r0; simp at r0)
        exact ⟨B, o, e, h 0 _ r0, h 9 _ r9⟩
      go_enter Tryd.func5, Tryd.ntmps5
      go_wp2_with (first
        | (go_at_call 21; refine haw.mono ?_; rintro e w1 ⟨rfl, hB1⟩; have hC1 := below_then (hbo _) (hbo _).size hB1; have hX1 := (hB1.block _ (blk_lt (hX0 _))).trans (hX0 _); have f7 : w1.cell? ⟨w.heap.size, 7, none⟩ = some (.slice A x.path.length cap) := blk_cell hX1 7)
        | (refine gate_ (.load 34 (.tmp 1)) rfl ?_; refine wpList_load_row rfl 34 (.tmp 1) rfl _ rfl _ _ _ _ hX1 Tryd.underlying34 rfl info34 ?_)
        | (go_at_call 22; refine (hrow _ hC1).mono ?_; rintro e w2 ⟨rfl, hB2⟩; have hC2 := below_then hC1 hC1.size hB2; have hX2 := (hB2.block _ (blk_lt hX1)).trans hX1)
        | (go_at_call 16; refine (hsp _).mono ?_; rintro e w3 ⟨A3, c3, rfl, hc3, hD3, hB3⟩; have hC3 := below_then hC2 hC2.size hB3; have hX3 := (hB3.block _ (blk_lt hX2)).trans hX2; obtain ⟨B3, o3, rfl, g0, g9⟩ := hCell _ _ hD3; have f0 : w3.cell? ⟨w.heap.size, 0, none⟩ = some (.int .i64 x.l) := blk_cell hX3 0; have f7b : w3.cell? ⟨w.heap.size, 7, none⟩ = some (.slice A x.path.length cap) := blk_cell hX3 7; clear hD3))
      all_goals (go_ret)
      all_goals (exact ⟨by simp, hC3⟩)
end Go.Proofs.YtmjedjhgomlfiaaDoor
