/- rows.Row: the row of an entry. -/
import Derived.Test.YtmjedjhgomlfiaaDoorRowBase
import Derived.Test.YtmjedjhgomlfiaaDoorJoinsLaw
import Derived.Lib.ItoaLen
set_option linter.unusedSimpArgs false
namespace Go.Proofs.YtmjedjhgomlfiaaDoor
open Go.RowKit Go.Proofs.YtmjedjhgomlfiaaDoorW.PrintWords Go.Lib

/-- An entry. -/
structure EntV where
  l : Int
  cb : Int
  d : Int
  cur : Int
  ph : Int
  tgt : Int
  rel : Int
  path : List Int
  f : FlagV
  code : Int
  err : Int
  ans : Int
def EntV.val (x : EntV) (A : Option Addr) (cap : Nat) : Value := .agg #[.int .i64 x.l, .int .i64 x.cb, .int .i64 x.d, .int .i64 x.cur, .int .i64 x.ph, .int .i64 x.tgt, .int .i64 x.rel, .slice A x.path.length cap, .bool x.f.b0, .bool x.f.b1, .bool x.f.b2, .bool x.f.b3, .bool x.f.b4, .bool x.f.b5, .bool x.f.b6, .bool x.f.b7, .int .i64 x.code, .int .i64 x.err, .int .i64 x.ans]
def EntV.seven (x : EntV) : List Int := [x.l, x.cb, x.d, x.cur, x.ph, x.tgt, x.rel]
/-- All numbers are of 64 bits. -/
structure EntV.In (x : EntV) : Prop where
  seven : ∀ n ∈ x.seven, In64 n
  path : ∀ n ∈ x.path, In64 n
  err : In64 x.err
  ans : In64 x.ans
/-- The words of an entry's row. -/
def rowT (x : EntV) : List ByteArray :=
  if x.l = 0 then (if x.err = 0 then [⟨#[100, 111]⟩, numS x.d, nameQ x.code, numS x.ans] else [⟨#[101, 114, 114, 111, 114]⟩, numS x.d, nameQ x.code, numS x.err])
  else ([⟨#[114, 117, 110]⟩] ++ x.seven.map numS ++ [flagT x.f, ⟨#[112, 97, 116, 104]⟩]) ++ x.path.map numS

theorem C_ints {xs : List Int} {w : World} {B : Nat} (hl : xs.length ≤ 9223372036854775807) (h : ∀ j x, xs[j]? = some x → w.cell? ⟨B, j, none⟩ = some (.int .i64 x)) : (Kd.int .i64).C w (some ⟨B, 0, none⟩) xs.length xs :=
  ⟨rfl, hl, fun _ => ⟨_, rfl, fun j p hj => ⟨[.int .i64 p], rfl, rfl, fun i u hu => by
    rcases i with _ | i
    · simp only [List.getElem?_cons_zero, Option.some.injEq] at hu
      subst hu
      show w.cell? ((⟨B, 0, none⟩ : Addr).add (j * 1 + 0)) = _
      rw [Lib.add_plain]
      simpa using h j p hj
    · simp at hu⟩⟩⟩
theorem C_seven (x : EntV) (W : World) : (Kd.int .i64).C (W.alloc (.cells #[.int .i64 x.l, .int .i64 x.cb, .int .i64 x.d, .int .i64 x.cur, .int .i64 x.ph, .int .i64 x.tgt, .int .i64 x.rel] 3)) (some ⟨W.heap.size, 0, none⟩) 7 x.seven := by
  refine C_ints (xs := x.seven) (by show (7 : Nat) ≤ _; decide) (fun j n hj => ?_)
  rw [blk_cell (heap_alloc_new W _)]
  have e : #[.int .i64 x.l, .int .i64 x.cb, .int .i64 x.d, .int .i64 x.cur, .int .i64 x.ph, .int .i64 x.tgt, .int .i64 x.rel] = (x.seven.map (Value.int .i64)).toArray := rfl
  rw [e]; simp [hj]
theorem C_pair (w : World) (a b : ByteArray) : Kd.string.C (w.alloc (.cells #[.string a, .string b] 9)) (some ⟨w.heap.size, 0, none⟩) 2 [a, b] := by
  refine C_of_cells (xs := [a, b]) (by show (2 : Nat) ≤ _; decide) (fun j x hj => ?_)
  rw [blk_cell (heap_alloc_new w _)]
  have e : (#[.string a, .string b] : Array Value) = (([a, b] : List ByteArray).map Value.string).toArray := rfl
  rw [e, List.getElem?_toArray, List.getElem?_map, hj]; rfl
theorem numS_size (n : Int) (h : In64 n) : (numS n).size ≤ 30 := by
  have := itoa_length_le n h.1 h.2
  rw [numS, ofL_size]
  omega
theorem flagsTo_len : ∀ (cs : List UInt8) (bs : List Bool), (flagsTo cs bs).length ≤ cs.length
  | [], bs => by simp [flagsTo]
  | c :: cs, [] => by simp [flagsTo]
  | c :: cs, b :: bs => by
    rw [flagsTo, List.length_append, List.length_cons]
    have := flagsTo_len cs bs
    cases b <;> simp <;> omega
theorem flagT_size (f : FlagV) : (flagT f).size ≤ 30 := by
  rw [flagT]
  split
  · decide
  · rw [ofL_size]
    have := flagsTo_len letters.data.toList f.bits
    have e : letters.data.toList.length = 8 := rfl
    rw [flagL]
    omega
theorem nameQ_size (c : Int) : (nameQ c).size ≤ 30 := by
  rw [nameQ]
  split
  · decide
  · exact name_sizeR c
theorem rowT_size {x : EntV} (hI : x.In) : ∀ y ∈ rowT x, y.size ≤ 30 := by
  intro y hy
  have h7 := hI.seven
  rw [rowT] at hy
  split at hy
  · split at hy
    · simp only [List.mem_cons, List.not_mem_nil, or_false] at hy
      rcases hy with rfl | rfl | rfl | rfl
      · decide
      · exact numS_size _ (h7 _ (by simp [EntV.seven]))
      · exact nameQ_size _
      · exact numS_size _ hI.ans
    · simp only [List.mem_cons, List.not_mem_nil, or_false] at hy
      rcases hy with rfl | rfl | rfl | rfl
      · decide
      · exact numS_size _ (h7 _ (by simp [EntV.seven]))
      · exact nameQ_size _
      · exact numS_size _ hI.err
  · rcases List.mem_append.1 hy with hy | hy
    · rcases List.mem_append.1 hy with hy | hy
      · rcases List.mem_append.1 hy with hy | hy
        · simp at hy; subst hy; decide
        · obtain ⟨n, hn, rfl⟩ := List.mem_map.1 hy
          exact numS_size _ (h7 n hn)
      · simp only [List.mem_cons, List.not_mem_nil, or_false] at hy
        rcases hy with rfl | rfl
        · exact flagT_size _
        · decide
    · obtain ⟨n, hn, rfl⟩ := List.mem_map.1 hy
      exact numS_size _ (hI.path n hn)
theorem rowT_length (x : EntV) : (rowT x).length ≤ 10 + x.path.length := by
  rw [rowT]
  split
  · split
    · show 4 ≤ _; omega
    · show 4 ≤ _; omega
  · simp [EntV.seven]; omega
theorem rowT_join {x : EntV} (hI : x.In) (hp : x.path.length ≤ 10000) : (Lib.join ((rowT x).map (·.data.toList)) [32]).length ≤ 1000000 := by
  have h1 := join_short 30 (rowT x) (rowT_size hI)
  have h2 := rowT_length x
  have h3 : (rowT x).length * (30 + 1) ≤ (10 + x.path.length) * (30 + 1) := Nat.mul_le_mul_right _ h2
  omega

set_option maxRecDepth 100000 in
set_option maxHeartbeats 3200000 in
theorem row_run (x : EntV) (A : Option Addr) (cap : Nat) (w : World) (hO : LayR w) (hA : (Kd.int .i64).C w A x.path.length x.path) (hc : x.path.length ≤ cap) (hI : x.In) (hp : x.path.length ≤ 10000) (hl : x.l ≠ 0) :
    Calls Tryd.prog 22 #[x.val A cap] w fun e w' => e = .returned (.string (joined (rowT x))) ∧ Below w.heap.size w w' := by
  have hj := rowT_join hI hp
  have hln := rowT_length x
  have hjn := fun B c W hB hc2 => join_any (rowT x) B c W hB hc2 (by omega) (by omega)
  have HT : Hid (rowT x = ([⟨#[114, 117, 110]⟩] ++ x.seven.map numS ++ [flagT x.f, ⟨#[112, 97, 116, 104]⟩]) ++ x.path.map numS) := ⟨by rw [rowT, if_neg hl]⟩
  have hbo := fun X => (Below.refl w.heap.size w).alloc (Nat.le_refl _) X
  have hX0 := fun X => heap_alloc_new w X
  have t7 := fun (g : Nat) (W : World) (h : LayR W) (hC : (Kd.int .i64).C W (some ⟨g, 0, none⟩) 7 x.seven) => texts58_any x.seven (some ⟨g, 0, none⟩) 7 W h hC (by show (7 : Nat) ≤ 7; decide) hI.seven (by show (7 : Nat) ≤ 100000; decide)
  change ∀ (g : Nat) (W : World) (h : LayR W) (hC : (Kd.int .i64).C W (some ⟨g, 0, none⟩) 7 x.seven), Calls Tryd.prog 58 #[.slice (some ⟨g, 0, none⟩) 7 7] W _ at t7
  have hfl := fun W => rowsFlags_any x.f W
  have tp := fun W h hC => texts58_any x.path A cap W h hC hc hI.path (by omega)
  have hC7 := fun W => C_seven x W
  simp only [FlagV.val] at hfl
  simp only [EntV.val]
  have hl2 : (x.l != 0) = true := by rw [bne_iff_ne]; exact hl
  clear hj
  have hW3 : Below w.heap.size w (((w.alloc (.cells #[.int .i64 x.l, .int .i64 x.cb, .int .i64 x.d, .int .i64 x.cur, .int .i64 x.ph, .int .i64 x.tgt, .int .i64 x.rel, .slice A x.path.length cap, .bool x.f.b0, .bool x.f.b1, .bool x.f.b2, .bool x.f.b3, .bool x.f.b4, .bool x.f.b5, .bool x.f.b6, .bool x.f.b7, .int .i64 x.code, .int .i64 x.err, .int .i64 x.ans] 34)).alloc (.cells #[.string ⟨#[114, 117, 110]⟩] 9)).alloc (.cells #[.int .i64 x.l, .int .i64 x.cb, .int .i64 x.d, .int .i64 x.cur, .int .i64 x.ph, .int .i64 x.tgt, .int .i64 x.rel] 3)) := (((hbo _).alloc (by simp) _).alloc (by simp; omega) _)
  have hcon := t7 _ _ (hO.below hW3) (hC7 ((w.alloc (.cells #[.int .i64 x.l, .int .i64 x.cb, .int .i64 x.d, .int .i64 x.cur, .int .i64 x.ph, .int .i64 x.tgt, .int .i64 x.rel, .slice A x.path.length cap, .bool x.f.b0, .bool x.f.b1, .bool x.f.b2, .bool x.f.b3, .bool x.f.b4, .bool x.f.b5, .bool x.f.b6, .bool x.f.b7, .int .i64 x.code, .int .i64 x.err, .int .i64 x.ans] 34)).alloc (.cells #[.string ⟨#[114, 117, 110]⟩] 9)))
  have hR1 := Kd.R_alloc (R_oneR (w.alloc (.cells #[.int .i64 x.l, .int .i64 x.cb, .int .i64 x.d, .int .i64 x.cur, .int .i64 x.ph, .int .i64 x.tgt, .int .i64 x.rel, .slice A x.path.length cap, .bool x.f.b0, .bool x.f.b1, .bool x.f.b2, .bool x.f.b3, .bool x.f.b4, .bool x.f.b5, .bool x.f.b6, .bool x.f.b7, .int .i64 x.code, .int .i64 x.err, .int .i64 x.ans] 34)) w.heap.size (by simp) ⟨#[114, 117, 110]⟩) (.cells #[.int .i64 x.l, .int .i64 x.cb, .int .i64 x.d, .int .i64 x.cur, .int .i64 x.ph, .int .i64 x.tgt, .int .i64 x.rel] 3)
  have hX1 := (heap_alloc_old _ (.cells #[.int .i64 x.l, .int .i64 x.cb, .int .i64 x.d, .int .i64 x.cur, .int .i64 x.ph, .int .i64 x.tgt, .int .i64 x.rel] 3) (blk_lt ((heap_alloc_old (w.alloc (.cells #[.int .i64 x.l, .int .i64 x.cb, .int .i64 x.d, .int .i64 x.cur, .int .i64 x.ph, .int .i64 x.tgt, .int .i64 x.rel, .slice A x.path.length cap, .bool x.f.b0, .bool x.f.b1, .bool x.f.b2, .bool x.f.b3, .bool x.f.b4, .bool x.f.b5, .bool x.f.b6, .bool x.f.b7, .int .i64 x.code, .int .i64 x.err, .int .i64 x.ans] 34)) (.cells #[.string ⟨#[114, 117, 110]⟩] 9) (blk_lt (hX0 (.cells #[.int .i64 x.l, .int .i64 x.cb, .int .i64 x.d, .int .i64 x.cur, .int .i64 x.ph, .int .i64 x.tgt, .int .i64 x.rel, .slice A x.path.length cap, .bool x.f.b0, .bool x.f.b1, .bool x.f.b2, .bool x.f.b3, .bool x.f.b4, .bool x.f.b5, .bool x.f.b6, .bool x.f.b7, .int .i64 x.code, .int .i64 x.err, .int .i64 x.ans] 34)))).trans (hX0 _)))).trans ((heap_alloc_old (w.alloc (.cells #[.int .i64 x.l, .int .i64 x.cb, .int .i64 x.d, .int .i64 x.cur, .int .i64 x.ph, .int .i64 x.tgt, .int .i64 x.rel, .slice A x.path.length cap, .bool x.f.b0, .bool x.f.b1, .bool x.f.b2, .bool x.f.b3, .bool x.f.b4, .bool x.f.b5, .bool x.f.b6, .bool x.f.b7, .int .i64 x.code, .int .i64 x.err, .int .i64 x.ans] 34)) (.cells #[.string ⟨#[114, 117, 110]⟩] 9) (blk_lt (hX0 (.cells #[.int .i64 x.l, .int .i64 x.cb, .int .i64 x.d, .int .i64 x.cur, .int .i64 x.ph, .int .i64 x.tgt, .int .i64 x.rel, .slice A x.path.length cap, .bool x.f.b0, .bool x.f.b1, .bool x.f.b2, .bool x.f.b3, .bool x.f.b4, .bool x.f.b5, .bool x.f.b6, .bool x.f.b7, .int .i64 x.code, .int .i64 x.err, .int .i64 x.ans] 34)))).trans (hX0 _))
  rw [World.size_alloc, World.size_alloc] at hcon
  rw [World.size_alloc] at hR1
  go_enter Tryd.func22, Tryd.ntmps22
  go_wp2_with (first
    | (go_at_call 58; refine hcon.mono ?_; clear hcon; rintro e w3 ⟨v3, rfl, hR3, hB3⟩; obtain ⟨A3, c3, hv3, hc3, hC3⟩ := Kd.R_reads hR3; have hv3 : v3 = .slice A3 7 c3 := hv3; subst hv3; have hD3 : Kd.string.C w3 A3 7 (x.seven.map numS) := hC3; have hE3 := below_then hW3 hW3.size hB3; have hS3 := Kd.R_below hR1 hB3; have hX3 := (hB3.block _ (blk_lt hX1)).trans hX1)
    | (at_builtin; refine Kd.R_append_row Value.string ByteArray.empty (w0 := w) w.heap.size rfl (.tmp 8) (.tmp 24) 22 9 (.string ⟨#[]⟩) 16 rfl Tryd.underlying22 info9 rfl (by decide) (.slice (some ⟨w.heap.size + 1, 0, none⟩) 1 1) [⟨#[114, 117, 110]⟩] (x.seven.map numS) A3 7 c3 (fun _ => True) rfl rfl (fun _ _ => trivial) hS3 hD3 hE3 hE3.size (by first | (simp [EntV.seven]; done) | (simp [EntV.seven]; omega)) ?_; intro v4 w4 hR4 hB4 hg4 hat4; have hX4 := blk_grown hX3 hg4 (Kd.R_ne hS3 hX3 (by decide)); clear hg4 hat4; have f8 : w4.cell? ⟨w.heap.size, 8, none⟩ = some (.bool x.f.b0) := blk_cell hX4 8; have f9 : w4.cell? ⟨w.heap.size, 9, none⟩ = some (.bool x.f.b1) := blk_cell hX4 9; have f10 : w4.cell? ⟨w.heap.size, 10, none⟩ = some (.bool x.f.b2) := blk_cell hX4 10; have f11 : w4.cell? ⟨w.heap.size, 11, none⟩ = some (.bool x.f.b3) := blk_cell hX4 11; have f12 : w4.cell? ⟨w.heap.size, 12, none⟩ = some (.bool x.f.b4) := blk_cell hX4 12; have f13 : w4.cell? ⟨w.heap.size, 13, none⟩ = some (.bool x.f.b5) := blk_cell hX4 13; have f14 : w4.cell? ⟨w.heap.size, 14, none⟩ = some (.bool x.f.b6) := blk_cell hX4 14; have f15 : w4.cell? ⟨w.heap.size, 15, none⟩ = some (.bool x.f.b7) := blk_cell hX4 15)
    | (go_at_call 24; refine (hfl _).mono ?_; rintro e w5 ⟨rfl, hB5⟩; have hE5 := below_then hB4 hB4.size hB5; have hS5 := Kd.R_alloc (Kd.R_below hR4 hB5) (.cells #[.string (flagT x.f), .string ⟨#[112, 97, 116, 104]⟩] 9); have hX5 := (heap_alloc_old _ (.cells #[.string (flagT x.f), .string ⟨#[112, 97, 116, 104]⟩] 9) (blk_lt ((hB5.block _ (blk_lt hX4)).trans hX4))).trans ((hB5.block _ (blk_lt hX4)).trans hX4); have hE6 := hE5.alloc hE5.size (.cells #[.string (flagT x.f), .string ⟨#[112, 97, 116, 104]⟩] 9); have hD5 := C_pair w5 (flagT x.f) ⟨#[112, 97, 116, 104]⟩)
    | (at_builtin; refine Kd.R_append_row Value.string ByteArray.empty (w0 := w) w.heap.size rfl (.tmp 26) (.tmp 30) 22 9 (.string ⟨#[]⟩) 16 rfl Tryd.underlying22 info9 rfl (by decide) v4 ([⟨#[114, 117, 110]⟩] ++ x.seven.map numS) [flagT x.f, ⟨#[112, 97, 116, 104]⟩] (some ⟨w5.heap.size, 0, none⟩) 2 2 (fun _ => True) rfl rfl (fun _ _ => trivial) hS5 hD5 hE6 hE6.size (by first | (simp [EntV.seven]; done) | (simp [EntV.seven]; omega)) ?_; intro v7 w7 hR7 hB7 hg7 hat7; have hX7 := blk_grown hX5 hg7 (Kd.R_ne hS5 hX5 (by decide)); clear hg7 hat7; have f7 : w7.cell? ⟨w.heap.size, 7, none⟩ = some (.slice A x.path.length cap) := blk_cell hX7 7; have hcp := tp w7 (hO.below hB7) (Kd.C_below hA hB7))
    | (go_at_call 58; refine hcp.mono ?_; rintro e w8 ⟨v8, rfl, hR8, hB8⟩; obtain ⟨A8, c8, hv8, hc8, hC8⟩ := Kd.R_reads hR8; rw [List.length_map] at hv8 hC8; subst hv8; have hE8 := below_then hB7 hB7.size hB8; have hS8 := Kd.R_below hR7 hB8)
    | (at_builtin; refine Kd.R_append_row Value.string ByteArray.empty (w0 := w) w.heap.size rfl (.tmp 32) (.tmp 35) 22 9 (.string ⟨#[]⟩) 16 rfl Tryd.underlying22 info9 rfl (by decide) v7 ([⟨#[114, 117, 110]⟩] ++ x.seven.map numS ++ [flagT x.f, ⟨#[112, 97, 116, 104]⟩]) (x.path.map numS) A8 x.path.length c8 (fun _ => True) rfl rfl (fun _ _ => trivial) hS8 hC8 hE8 hE8.size (by first | (simp [EntV.seven]; done) | (simp [EntV.seven]; omega)) ?_; intro v9 w9 hR9 hB9 hg9 hat9; rw [← HT.out] at hR9; obtain ⟨A9, c9, rfl, hc9, hC9⟩ := Kd.R_reads hR9; have hj9 := hjn A9 c9 w9 hC9 hc9)
    | (go_at_call 17; refine hj9.mono ?_; rintro e w10 ⟨rfl, hB10⟩))
  go_ret
  exact ⟨rfl, below_then hB9 hB9.size hB10⟩
end Go.Proofs.YtmjedjhgomlfiaaDoor
