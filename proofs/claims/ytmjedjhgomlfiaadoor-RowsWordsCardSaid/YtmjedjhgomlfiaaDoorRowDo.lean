/- rows.Row: the row of an operation, and of an error. -/
import Derived.Test.YtmjedjhgomlfiaaDoorRowRow
set_option linter.unusedSimpArgs false
namespace Go.Proofs.YtmjedjhgomlfiaaDoor
open Go.RowKit Go.Proofs.YtmjedjhgomlfiaaDoorW.PrintWords Go.Lib

/-- What a drawn region keeps of an entry. -/
def KeepE (x : EntV) (w W : World) : Prop := Below w.heap.size w W ∧ W.cell? ⟨w.heap.size, 2, none⟩ = some (.int .i64 x.d) ∧ W.cell? ⟨w.heap.size, 16, none⟩ = some (.int .i64 x.code) ∧ W.cell? ⟨w.heap.size, 17, none⟩ = some (.int .i64 x.err) ∧ W.cell? ⟨w.heap.size, 18, none⟩ = some (.int .i64 x.ans)
theorem keepR {x : EntV} {w W W2 : World} (h : KeepE x w W) (hb : Below W.heap.size W W2) : KeepE x w W2 := by
  obtain ⟨h1, h2, h3, h4, h5⟩ := h
  have hlt : w.heap.size < W.heap.size := World.block_lt_of_cell? W _ h2
  exact ⟨below_then h1 h1.size hb, (hb.cell (p := ⟨w.heap.size, 2, none⟩) hlt).trans h2, (hb.cell (p := ⟨w.heap.size, 16, none⟩) hlt).trans h3, (hb.cell (p := ⟨w.heap.size, 17, none⟩) hlt).trans h4, (hb.cell (p := ⟨w.heap.size, 18, none⟩) hlt).trans h5⟩
theorem C_four (w : World) (a b c d : ByteArray) : Kd.string.C (w.alloc (.cells #[.string a, .string b, .string c, .string d] 9)) (some ⟨w.heap.size, 0, none⟩) 4 [a, b, c, d] := by
  refine C_of_cells (xs := [a, b, c, d]) (by show (4 : Nat) ≤ _; decide) (fun j x hj => ?_)
  rw [blk_cell (heap_alloc_new w _)]
  have e : (#[.string a, .string b, .string c, .string d] : Array Value) = (([a, b, c, d] : List ByteArray).map Value.string).toArray := rfl
  rw [e, List.getElem?_toArray, List.getElem?_map, hj]; rfl

set_option maxRecDepth 100000 in
set_option maxHeartbeats 3200000 in
theorem row_do (x : EntV) (A : Option Addr) (cap : Nat) (w : World) (hO : LayR w) (hI : x.In) (hl : x.l = 0) (he : x.err = 0) :
    Calls Tryd.prog 22 #[x.val A cap] w fun e w' => e = .returned (.string (joined (rowT x))) ∧ Below w.heap.size w w' := by
  have HT : Hid (rowT x = [⟨#[100, 111]⟩, numS x.d, nameQ x.code, numS x.ans]) := ⟨by rw [rowT, if_pos hl]; first | rw [if_pos he] | rw [if_neg he]⟩
  have hsz : ∀ y ∈ rowT x, y.size ≤ 30 := rowT_size hI
  rw [HT.out] at hsz
  have hjs := join_short 30 _ hsz
  have hjc := fun (W : World) => join_any [⟨#[100, 111]⟩, numS x.d, nameQ x.code, numS x.ans] (some ⟨W.heap.size, 0, none⟩) 4 (W.alloc (.cells #[.string ⟨#[100, 111]⟩, .string (numS x.d), .string (nameQ x.code), .string (numS x.ans)] 9)) (C_four W _ _ _ _) (by show 4 ≤ 4; decide) (by show 4 ≤ _; decide) (Nat.le_trans hjs (by show 4 * 31 ≤ _; decide))
  change ∀ W : World, Calls Tryd.prog 17 #[.slice (some ⟨W.heap.size, 0, none⟩) 4 4] _ _ at hjc
  have hdi := hI.seven x.d (by simp [EntV.seven])
  have hla := hI.ans
  have ctd := fun W h => text_any x.d hdi.1 hdi.2 W h
  have cta := fun W h => text_any x.ans hla.1 hla.2 W h
  change ∀ W h, Calls Tryd.prog 41 #[.int .i64 x.d] W fun e w' => e = .returned (.string (numS x.d)) ∧ Below W.heap.size W w' at ctd
  change ∀ W h, Calls Tryd.prog 41 #[.int .i64 x.ans] W fun e w' => e = .returned (.string (numS x.ans)) ∧ Below W.heap.size W w' at cta
  have ctn := fun W h => nameQ_any x.code W h
  have hbo := fun X => (Below.refl w.heap.size w).alloc (Nat.le_refl _) X
  have hX0 := fun X => heap_alloc_new w X
  have heq : (x.err == 0) = true := by rw [he]; rfl
  have hle : (x.l != 0) = false := by rw [hl]; rfl
  clear hl he
  simp only [EntV.val]
  generalize numS x.d = sd at *
  generalize nameQ x.code = sn at *
  generalize numS x.ans = sa at *
  go_enter Tryd.func22, Tryd.ntmps22
  go_wp2
  refine wp_region_held_drew (S := fun W => KeepE x w W) (by kernel_rfl) ⟨pw_below_drewN (hbo _) 1, blk_cell (hX0 _) 2, blk_cell (hX0 _) 16, blk_cell (hX0 _) 17, blk_cell (hX0 _) 18⟩ (fun hHeld => ?_)
  refine wpAnyH_take (i := 0) (v := ?va0) rfl (by kernel_rfl) (by kernel_rfl) (by kernel_rfl) (fun _ _ _ h => h) (Or.inl ⟨by rfl, ?hya0⟩) (by assumption) ?resta0
  case hya0 =>
    intro w' hSw
    obtain ⟨_, hs2, hs16, hs17, hs18⟩ := hSw
    dsimp only [List.getElem_toArray, List.getElem_cons_zero, List.getElem_cons_succ]
    go_simp
    try (with_reducible rfl)
  try simp only [Act.put, List.getElem_toArray, List.getElem_cons_zero, List.getElem_cons_succ, List.setIfInBounds_toArray, List.set_cons_zero, List.set_cons_succ]
  refine wpAnyH_take (i := 1) (v := ?va1) rfl (by kernel_rfl) (by kernel_rfl) (by kernel_rfl) (fun _ _ _ h => h) (Or.inl ⟨by rfl, ?hya1⟩) (by assumption) ?resta1
  case hya1 =>
    intro w' hSw
    obtain ⟨_, hs2, hs16, hs17, hs18⟩ := hSw
    dsimp only [List.getElem_toArray, List.getElem_cons_zero, List.getElem_cons_succ]
    go_simp
    try (with_reducible rfl)
  try simp only [Act.put, List.getElem_toArray, List.getElem_cons_zero, List.getElem_cons_succ, List.setIfInBounds_toArray, List.set_cons_zero, List.set_cons_succ]
  refine wpAnyH_take (i := 3) (v := ?va3) rfl (by kernel_rfl) (by kernel_rfl) (by kernel_rfl) (fun _ _ _ h => h) (Or.inl ⟨by rfl, ?hya3⟩) (by assumption) ?resta3
  case hya3 =>
    intro w' hSw
    obtain ⟨_, hs2, hs16, hs17, hs18⟩ := hSw
    dsimp only [List.getElem_toArray, List.getElem_cons_zero, List.getElem_cons_succ]
    go_simp
    try (with_reducible rfl)
  try simp only [Act.put, List.getElem_toArray, List.getElem_cons_zero, List.getElem_cons_succ, List.setIfInBounds_toArray, List.set_cons_zero, List.set_cons_succ]
  refine wpAnyH_take (i := 4) (v := ?va4) rfl (by kernel_rfl) (by kernel_rfl) (by kernel_rfl) (fun _ _ _ h => h) (Or.inl ⟨by rfl, ?hya4⟩) (by assumption) ?resta4
  case hya4 =>
    intro w' hSw
    obtain ⟨_, hs2, hs16, hs17, hs18⟩ := hSw
    dsimp only [List.getElem_toArray, List.getElem_cons_zero, List.getElem_cons_succ]
    go_simp
    try (with_reducible rfl)
  try simp only [Act.put, List.getElem_toArray, List.getElem_cons_zero, List.getElem_cons_succ, List.setIfInBounds_toArray, List.set_cons_zero, List.set_cons_succ]
  refine wpAnyH_take (i := 6) (v := ?va6) rfl (by kernel_rfl) (by kernel_rfl) (by kernel_rfl) (fun _ _ _ h => h) (Or.inl ⟨by rfl, ?hya6⟩) (by assumption) ?resta6
  case hya6 =>
    intro w' hSw
    obtain ⟨_, hs2, hs16, hs17, hs18⟩ := hSw
    dsimp only [List.getElem_toArray, List.getElem_cons_zero, List.getElem_cons_succ]
    go_simp
    try (with_reducible rfl)
  try simp only [Act.put, List.getElem_toArray, List.getElem_cons_zero, List.getElem_cons_succ, List.setIfInBounds_toArray, List.set_cons_zero, List.set_cons_succ]
  refine wpAnyH_take (i := 7) (v := ?va7) rfl (by kernel_rfl) (by kernel_rfl) (by kernel_rfl) (fun _ _ _ h => h) (Or.inl ⟨by rfl, ?hya7⟩) (by assumption) ?resta7
  case hya7 =>
    intro w' hSw
    obtain ⟨_, hs2, hs16, hs17, hs18⟩ := hSw
    dsimp only [List.getElem_toArray, List.getElem_cons_zero, List.getElem_cons_succ]
    go_simp
    try (with_reducible rfl)
  try simp only [Act.put, List.getElem_toArray, List.getElem_cons_zero, List.getElem_cons_succ, List.setIfInBounds_toArray, List.set_cons_zero, List.set_cons_succ]
  refine wpAnyH_ready (rs := [2]) (by kernel_rfl) (by simp) ?_
  refine AllReadyH.cons rfl (fun K hK => ?_) AllReadyH.nil
  dsimp only [List.getElem_toArray, List.getElem_cons_zero, List.getElem_cons_succ]
  first | go_at_call 41 | (rw [if_pos (by rfl)]; go_at_call 41) | (rw [if_pos (by rfl)]; go_simp; go_at_call 41)
  refine (ctd _ (hO.below hHeld.1).pow).mono ?_
  rintro e w3 ⟨rfl, hBw3⟩
  have hHw3 := keepR hHeld hBw3
  clear hHeld
  dsimp only
  refine hK.out _ _ hHw3 (fun hHeld => ?_)
  clear hK
  try simp only [Act.put, List.getElem_toArray, List.getElem_cons_zero, List.getElem_cons_succ, List.setIfInBounds_toArray, List.set_cons_zero, List.set_cons_succ]
  refine wpAnyH_ready (rs := [5]) (by kernel_rfl) (by simp) ?_
  refine AllReadyH.cons rfl (fun K hK => ?_) AllReadyH.nil
  dsimp only [List.getElem_toArray, List.getElem_cons_zero, List.getElem_cons_succ]
  first | go_at_call 59 | (rw [if_pos (by rfl)]; go_at_call 59) | (rw [if_pos (by rfl)]; go_simp; go_at_call 59)
  refine (ctn _ (hO.below hHeld.1)).mono ?_
  rintro e w4 ⟨rfl, rfl⟩
  have hHw4 := hHeld
  clear hHeld
  dsimp only
  refine hK.out _ _ hHw4 (fun hHeld => ?_)
  clear hK
  try simp only [Act.put, List.getElem_toArray, List.getElem_cons_zero, List.getElem_cons_succ, List.setIfInBounds_toArray, List.set_cons_zero, List.set_cons_succ]
  refine wpAnyH_ready (rs := [8]) (by kernel_rfl) (by simp) ?_
  refine AllReadyH.cons rfl (fun K hK => ?_) AllReadyH.nil
  dsimp only [List.getElem_toArray, List.getElem_cons_zero, List.getElem_cons_succ]
  first | go_at_call 41 | (rw [if_pos (by rfl)]; go_at_call 41) | (rw [if_pos (by rfl)]; go_simp; go_at_call 41)
  refine (cta _ (hO.below hHeld.1).pow).mono ?_
  rintro e w5 ⟨rfl, hBw5⟩
  have hHw5 := keepR hHeld hBw5
  clear hHeld
  dsimp only
  refine hK.out _ _ hHw5 (fun hHeld => ?_)
  clear hK
  try simp only [Act.put, List.getElem_toArray, List.getElem_cons_zero, List.getElem_cons_succ, List.setIfInBounds_toArray, List.set_cons_zero, List.set_cons_succ]
  refine wpAnyH_ready (rs := [9]) (by kernel_rfl) (by simp) ?_
  refine AllReadyH.cons rfl (fun K hK => ?_) AllReadyH.nil
  dsimp only [List.getElem_toArray, List.getElem_cons_zero, List.getElem_cons_succ]
  go_simp
  refine hK.out _ _ (keepR hHeld (below_alloc (Below.refl _ _) _)) (fun hHeld => ?_)
  clear hK
  try simp only [Act.put, List.getElem_toArray, List.getElem_cons_zero, List.getElem_cons_succ, List.setIfInBounds_toArray, List.set_cons_zero, List.set_cons_succ]
  refine wpAnyH_ready (rs := [10]) (by kernel_rfl) (by simp) ?_
  refine AllReadyH.cons rfl (fun K hK => ?_) AllReadyH.nil
  dsimp only [List.getElem_toArray, List.getElem_cons_zero, List.getElem_cons_succ]
  first | go_at_call 17 | (rw [if_pos (by rfl)]; go_at_call 17) | (rw [if_pos (by rfl)]; go_simp; go_at_call 17)
  refine (hjc w5).mono ?_
  rintro e w6 ⟨rfl, hBw6⟩
  have hHw6 := keepR hHeld hBw6
  clear hHeld
  dsimp only
  refine hK.out _ _ hHw6 (fun hHeld => ?_)
  clear hK
  try simp only [Act.put, List.getElem_toArray, List.getElem_cons_zero, List.getElem_cons_succ, List.setIfInBounds_toArray, List.set_cons_zero, List.set_cons_succ]
  refine wpAnyH_take (i := 11) (v := ?va11) rfl (by kernel_rfl) (by kernel_rfl) (by kernel_rfl) (fun _ _ _ h => h) (Or.inl ⟨by rfl, ?hya11⟩) (by assumption) ?resta11
  case hya11 =>
    intro w' hSw
    obtain ⟨_, hs2, hs16, hs17, hs18⟩ := hSw
    dsimp only [List.getElem_toArray, List.getElem_cons_zero, List.getElem_cons_succ]
    go_simp
    try (with_reducible rfl)
  try simp only [Act.put, List.getElem_toArray, List.getElem_cons_zero, List.getElem_cons_succ, List.setIfInBounds_toArray, List.set_cons_zero, List.set_cons_succ]
  refine wpAnyH_done (by kernel_rfl) ?_ _
  go_wp2
  go_ret
  exact ⟨by rw [HT.out]; rfl, hHeld.1⟩

set_option maxRecDepth 100000 in
set_option maxHeartbeats 3200000 in
theorem row_err (x : EntV) (A : Option Addr) (cap : Nat) (w : World) (hO : LayR w) (hI : x.In) (hl : x.l = 0) (he : ¬ x.err = 0) :
    Calls Tryd.prog 22 #[x.val A cap] w fun e w' => e = .returned (.string (joined (rowT x))) ∧ Below w.heap.size w w' := by
  have HT : Hid (rowT x = [⟨#[101, 114, 114, 111, 114]⟩, numS x.d, nameQ x.code, numS x.err]) := ⟨by rw [rowT, if_pos hl]; first | rw [if_pos he] | rw [if_neg he]⟩
  have hsz : ∀ y ∈ rowT x, y.size ≤ 30 := rowT_size hI
  rw [HT.out] at hsz
  have hjs := join_short 30 _ hsz
  have hjc := fun (W : World) => join_any [⟨#[101, 114, 114, 111, 114]⟩, numS x.d, nameQ x.code, numS x.err] (some ⟨W.heap.size, 0, none⟩) 4 (W.alloc (.cells #[.string ⟨#[101, 114, 114, 111, 114]⟩, .string (numS x.d), .string (nameQ x.code), .string (numS x.err)] 9)) (C_four W _ _ _ _) (by show 4 ≤ 4; decide) (by show 4 ≤ _; decide) (Nat.le_trans hjs (by show 4 * 31 ≤ _; decide))
  change ∀ W : World, Calls Tryd.prog 17 #[.slice (some ⟨W.heap.size, 0, none⟩) 4 4] _ _ at hjc
  have hdi := hI.seven x.d (by simp [EntV.seven])
  have hla := hI.err
  have ctd := fun W h => text_any x.d hdi.1 hdi.2 W h
  have cta := fun W h => text_any x.err hla.1 hla.2 W h
  change ∀ W h, Calls Tryd.prog 41 #[.int .i64 x.d] W fun e w' => e = .returned (.string (numS x.d)) ∧ Below W.heap.size W w' at ctd
  change ∀ W h, Calls Tryd.prog 41 #[.int .i64 x.err] W fun e w' => e = .returned (.string (numS x.err)) ∧ Below W.heap.size W w' at cta
  have ctn := fun W h => nameQ_any x.code W h
  have hbo := fun X => (Below.refl w.heap.size w).alloc (Nat.le_refl _) X
  have hX0 := fun X => heap_alloc_new w X
  have heq : (x.err == 0) = false := by rw [beq_eq_false_iff_ne]; exact he
  have hle : (x.l != 0) = false := by rw [hl]; rfl
  clear hl he
  simp only [EntV.val]
  generalize numS x.d = sd at *
  generalize nameQ x.code = sn at *
  generalize numS x.err = sa at *
  go_enter Tryd.func22, Tryd.ntmps22
  go_wp2
  refine wp_region_held_drew (S := fun W => KeepE x w W) (by kernel_rfl) ⟨pw_below_drewN (hbo _) 1, blk_cell (hX0 _) 2, blk_cell (hX0 _) 16, blk_cell (hX0 _) 17, blk_cell (hX0 _) 18⟩ (fun hHeld => ?_)
  refine wpAnyH_take (i := 0) (v := ?vb0) rfl (by kernel_rfl) (by kernel_rfl) (by kernel_rfl) (fun _ _ _ h => h) (Or.inl ⟨by rfl, ?hyb0⟩) (by assumption) ?restb0
  case hyb0 =>
    intro w' hSw
    obtain ⟨_, hs2, hs16, hs17, hs18⟩ := hSw
    dsimp only [List.getElem_toArray, List.getElem_cons_zero, List.getElem_cons_succ]
    go_simp
    try (with_reducible rfl)
  try simp only [Act.put, List.getElem_toArray, List.getElem_cons_zero, List.getElem_cons_succ, List.setIfInBounds_toArray, List.set_cons_zero, List.set_cons_succ]
  refine wpAnyH_take (i := 1) (v := ?vb1) rfl (by kernel_rfl) (by kernel_rfl) (by kernel_rfl) (fun _ _ _ h => h) (Or.inl ⟨by rfl, ?hyb1⟩) (by assumption) ?restb1
  case hyb1 =>
    intro w' hSw
    obtain ⟨_, hs2, hs16, hs17, hs18⟩ := hSw
    dsimp only [List.getElem_toArray, List.getElem_cons_zero, List.getElem_cons_succ]
    go_simp
    try (with_reducible rfl)
  try simp only [Act.put, List.getElem_toArray, List.getElem_cons_zero, List.getElem_cons_succ, List.setIfInBounds_toArray, List.set_cons_zero, List.set_cons_succ]
  refine wpAnyH_take (i := 3) (v := ?vb3) rfl (by kernel_rfl) (by kernel_rfl) (by kernel_rfl) (fun _ _ _ h => h) (Or.inl ⟨by rfl, ?hyb3⟩) (by assumption) ?restb3
  case hyb3 =>
    intro w' hSw
    obtain ⟨_, hs2, hs16, hs17, hs18⟩ := hSw
    dsimp only [List.getElem_toArray, List.getElem_cons_zero, List.getElem_cons_succ]
    go_simp
    try (with_reducible rfl)
  try simp only [Act.put, List.getElem_toArray, List.getElem_cons_zero, List.getElem_cons_succ, List.setIfInBounds_toArray, List.set_cons_zero, List.set_cons_succ]
  refine wpAnyH_take (i := 4) (v := ?vb4) rfl (by kernel_rfl) (by kernel_rfl) (by kernel_rfl) (fun _ _ _ h => h) (Or.inl ⟨by rfl, ?hyb4⟩) (by assumption) ?restb4
  case hyb4 =>
    intro w' hSw
    obtain ⟨_, hs2, hs16, hs17, hs18⟩ := hSw
    dsimp only [List.getElem_toArray, List.getElem_cons_zero, List.getElem_cons_succ]
    go_simp
    try (with_reducible rfl)
  try simp only [Act.put, List.getElem_toArray, List.getElem_cons_zero, List.getElem_cons_succ, List.setIfInBounds_toArray, List.set_cons_zero, List.set_cons_succ]
  refine wpAnyH_take (i := 6) (v := ?vb6) rfl (by kernel_rfl) (by kernel_rfl) (by kernel_rfl) (fun _ _ _ h => h) (Or.inl ⟨by rfl, ?hyb6⟩) (by assumption) ?restb6
  case hyb6 =>
    intro w' hSw
    obtain ⟨_, hs2, hs16, hs17, hs18⟩ := hSw
    dsimp only [List.getElem_toArray, List.getElem_cons_zero, List.getElem_cons_succ]
    go_simp
    try (with_reducible rfl)
  try simp only [Act.put, List.getElem_toArray, List.getElem_cons_zero, List.getElem_cons_succ, List.setIfInBounds_toArray, List.set_cons_zero, List.set_cons_succ]
  refine wpAnyH_take (i := 7) (v := ?vb7) rfl (by kernel_rfl) (by kernel_rfl) (by kernel_rfl) (fun _ _ _ h => h) (Or.inl ⟨by rfl, ?hyb7⟩) (by assumption) ?restb7
  case hyb7 =>
    intro w' hSw
    obtain ⟨_, hs2, hs16, hs17, hs18⟩ := hSw
    dsimp only [List.getElem_toArray, List.getElem_cons_zero, List.getElem_cons_succ]
    go_simp
    try (with_reducible rfl)
  try simp only [Act.put, List.getElem_toArray, List.getElem_cons_zero, List.getElem_cons_succ, List.setIfInBounds_toArray, List.set_cons_zero, List.set_cons_succ]
  refine wpAnyH_ready (rs := [2]) (by kernel_rfl) (by simp) ?_
  refine AllReadyH.cons rfl (fun K hK => ?_) AllReadyH.nil
  dsimp only [List.getElem_toArray, List.getElem_cons_zero, List.getElem_cons_succ]
  first | go_at_call 41 | (rw [if_pos (by rfl)]; go_at_call 41) | (rw [if_pos (by rfl)]; go_simp; go_at_call 41)
  refine (ctd _ (hO.below hHeld.1).pow).mono ?_
  rintro e w3 ⟨rfl, hBw3⟩
  have hHw3 := keepR hHeld hBw3
  clear hHeld
  dsimp only
  refine hK.out _ _ hHw3 (fun hHeld => ?_)
  clear hK
  try simp only [Act.put, List.getElem_toArray, List.getElem_cons_zero, List.getElem_cons_succ, List.setIfInBounds_toArray, List.set_cons_zero, List.set_cons_succ]
  refine wpAnyH_ready (rs := [5]) (by kernel_rfl) (by simp) ?_
  refine AllReadyH.cons rfl (fun K hK => ?_) AllReadyH.nil
  dsimp only [List.getElem_toArray, List.getElem_cons_zero, List.getElem_cons_succ]
  first | go_at_call 59 | (rw [if_pos (by rfl)]; go_at_call 59) | (rw [if_pos (by rfl)]; go_simp; go_at_call 59)
  refine (ctn _ (hO.below hHeld.1)).mono ?_
  rintro e w4 ⟨rfl, rfl⟩
  have hHw4 := hHeld
  clear hHeld
  dsimp only
  refine hK.out _ _ hHw4 (fun hHeld => ?_)
  clear hK
  try simp only [Act.put, List.getElem_toArray, List.getElem_cons_zero, List.getElem_cons_succ, List.setIfInBounds_toArray, List.set_cons_zero, List.set_cons_succ]
  refine wpAnyH_ready (rs := [8]) (by kernel_rfl) (by simp) ?_
  refine AllReadyH.cons rfl (fun K hK => ?_) AllReadyH.nil
  dsimp only [List.getElem_toArray, List.getElem_cons_zero, List.getElem_cons_succ]
  first | go_at_call 41 | (rw [if_pos (by rfl)]; go_at_call 41) | (rw [if_pos (by rfl)]; go_simp; go_at_call 41)
  refine (cta _ (hO.below hHeld.1).pow).mono ?_
  rintro e w5 ⟨rfl, hBw5⟩
  have hHw5 := keepR hHeld hBw5
  clear hHeld
  dsimp only
  refine hK.out _ _ hHw5 (fun hHeld => ?_)
  clear hK
  try simp only [Act.put, List.getElem_toArray, List.getElem_cons_zero, List.getElem_cons_succ, List.setIfInBounds_toArray, List.set_cons_zero, List.set_cons_succ]
  refine wpAnyH_ready (rs := [9]) (by kernel_rfl) (by simp) ?_
  refine AllReadyH.cons rfl (fun K hK => ?_) AllReadyH.nil
  dsimp only [List.getElem_toArray, List.getElem_cons_zero, List.getElem_cons_succ]
  go_simp
  refine hK.out _ _ (keepR hHeld (below_alloc (Below.refl _ _) _)) (fun hHeld => ?_)
  clear hK
  try simp only [Act.put, List.getElem_toArray, List.getElem_cons_zero, List.getElem_cons_succ, List.setIfInBounds_toArray, List.set_cons_zero, List.set_cons_succ]
  refine wpAnyH_ready (rs := [10]) (by kernel_rfl) (by simp) ?_
  refine AllReadyH.cons rfl (fun K hK => ?_) AllReadyH.nil
  dsimp only [List.getElem_toArray, List.getElem_cons_zero, List.getElem_cons_succ]
  first | go_at_call 17 | (rw [if_pos (by rfl)]; go_at_call 17) | (rw [if_pos (by rfl)]; go_simp; go_at_call 17)
  refine (hjc w5).mono ?_
  rintro e w6 ⟨rfl, hBw6⟩
  have hHw6 := keepR hHeld hBw6
  clear hHeld
  dsimp only
  refine hK.out _ _ hHw6 (fun hHeld => ?_)
  clear hK
  try simp only [Act.put, List.getElem_toArray, List.getElem_cons_zero, List.getElem_cons_succ, List.setIfInBounds_toArray, List.set_cons_zero, List.set_cons_succ]
  refine wpAnyH_take (i := 11) (v := ?vb11) rfl (by kernel_rfl) (by kernel_rfl) (by kernel_rfl) (fun _ _ _ h => h) (Or.inl ⟨by rfl, ?hyb11⟩) (by assumption) ?restb11
  case hyb11 =>
    intro w' hSw
    obtain ⟨_, hs2, hs16, hs17, hs18⟩ := hSw
    dsimp only [List.getElem_toArray, List.getElem_cons_zero, List.getElem_cons_succ]
    go_simp
    try (with_reducible rfl)
  try simp only [Act.put, List.getElem_toArray, List.getElem_cons_zero, List.getElem_cons_succ, List.setIfInBounds_toArray, List.set_cons_zero, List.set_cons_succ]
  refine wpAnyH_done (by kernel_rfl) ?_ _
  go_wp2
  go_ret
  exact ⟨by rw [HT.out]; rfl, hHeld.1⟩

theorem row_any (x : EntV) (A : Option Addr) (cap : Nat) (w : World) (hO : LayR w) (hA : (Kd.int .i64).C w A x.path.length x.path) (hc : x.path.length ≤ cap) (hI : x.In) (hp : x.path.length ≤ 10000) :
    Calls Tryd.prog 22 #[x.val A cap] w fun e w' => e = .returned (.string (joined (rowT x))) ∧ Below w.heap.size w w' := by
  by_cases hl : x.l = 0
  · by_cases he : x.err = 0
    · exact row_do x A cap w hO hI hl he
    · exact row_err x A cap w hO hI hl he
  · exact row_run x A cap w hO hA hc hI hp hl
end Go.Proofs.YtmjedjhgomlfiaaDoor
