/- The texts of this seat, joined: part 14 of 25. -/
import Derived.Lib.SliceRun
import Derived.Test.YtgopddjmmoohdaaGreatDoorSl13
import Derived.WalkSpells
import Derived.LaidEql
import Derived.Test.YtgopddjmmoohdaaGreatDoorSl01
/- slices.IndexFunc, DeleteFunc, with this program's closures. -/
set_option linter.unusedSimpArgs false
set_option linter.unusedVariables false
set_option maxRecDepth 100000
set_option maxHeartbeats 3200000
namespace Go.Proofs.YtgopddjmmoohdaaGreatDoor
open Go.RowKit Go.Proofs.YtgopddjmmoohdaaGreatDoorW.PrintWords Go.Proofs.YtgopddjmmoohdaaGreatDoorW.PrintLast Go.Proofs.YtgopddjmmoohdaaGreatDoor.PPlaySilent

theorem get_some {α : Type} {xs : List α} {j : Nat} (h : j < xs.length) : ∃ x, xs[j]? = some x := ⟨_, List.getElem?_eq_getElem h⟩
theorem own_past {w : World} {base e n g : Nat} {v : Value} {xs : List Value} (h : w.ownsRow base e 1 v n xs) (hv : v.ownBlock = some g) (j : Nat) (hj : n ≤ j) (u : Value) : (w.setCell ⟨g, j, none⟩ u).ownsRow base e 1 v n xs := by
  obtain ⟨h1, h2 | ⟨g', cap, cur, rfl, hb, hg, hc, hm, hs, ht⟩⟩ := h
  · exact ⟨h1, .inl h2⟩
  · have e1 : g' = g := Option.some.inj hv
    subst e1
    refine ⟨h1, .inr ⟨g', cap, cur.setIfInBounds j u, rfl, hb, blk_put hg j u rfl, hc, hm, by simpa using hs, ?_⟩⟩
    rw [← ht, Nat.mul_one, Array.toList_setIfInBounds, List.take_set_of_le hj]
theorem own_pasts {base e n g : Nat} {v : Value} {xs : List Value} (hv : v.ownBlock = some g) : ∀ (vs : List Value) (j : Nat) (w : World), w.ownsRow base e 1 v n xs → n ≤ j → (w.setCells g j vs).ownsRow base e 1 v n xs
  | [], _, _, h, _ => h
  | u :: vs, j, w, h, hj => own_pasts hv vs (j + 1) (w.setCell ⟨g, j, none⟩ u) (own_past h hv j hj u) (by omega)
theorem setCells_ste (g : Nat) (vs : List Value) (o : Nat) (w : World) : Ste (fun k => k = g) w (w.setCells g o vs) := by
  obtain ⟨h1, h2, h3, h4, h5⟩ := sc_kept g vs o w
  exact ⟨h2, h3, h4, by rw [h1]; exact Nat.le_refl _, fun k _ hn => h5 k hn⟩
theorem filter_next {α : Type} {p : α → Bool} {xs : List α} {j : Nat} {x : α} (h : xs[j]? = some x) : (xs.take (j + 1)).filter p = (xs.take j).filter p ++ (if p x = true then [x] else []) := by
  rw [List.take_add_one, h, List.filter_append]
  simp only [Option.toList, List.filter_cons, List.filter_nil]
theorem set_take {α : Type} {ys : List α} {i : Nat} (x : α) (h : i < ys.length) : (ys.set i x).take (i + 1) = ys.take i ++ [x] := by
  rw [List.take_add_one, List.getElem?_set_self h, List.take_set_of_le (Nat.le_refl _)]; rfl
theorem drop_get {α : Type} {xs ys : List α} {j : Nat} (h : ys.drop j = xs.drop j) {x : α} (hx : xs[j]? = some x) : ys[j]? = some x := by
  have := congrArg (fun l => l[0]?) h
  simpa [hx] using this
theorem drop_set {α : Type} {xs ys : List α} {i j : Nat} (h : ys.drop j = xs.drop j) (hi : i < j + 1) (x : α) : (ys.set i x).drop (j + 1) = xs.drop (j + 1) := by
  rw [List.drop_set_of_lt hi, ← List.drop_drop, ← List.drop_drop, h]
theorem drop_more {α : Type} {xs ys : List α} {j : Nat} (h : ys.drop j = xs.drop j) : ys.drop (j + 1) = xs.drop (j + 1) := by
  rw [← List.drop_drop, ← List.drop_drop, h]
theorem int_cell {w : World} {base b c : Nat} {ok : Nat → Prop} {ys : List Int} (h : (Kd.int .i64).R 3 w base ok (.slice (some ⟨b, 0, none⟩) ys.length c) ys) {j : Nat} {x : Int} (hx : ys[j]? = some x) : w.cell? ⟨b, j, none⟩ = some (.int .i64 x) ∧ w.frozen? ⟨b, j, none⟩ = false := by
  have hj := (List.getElem?_eq_some_iff.1 hx).1
  have := Kd.R_cell (0 : Int) h (j : Int) (by omega) (by omega)
  rw [Int.toNat_natCast] at this
  rw [show rdOf (0 : Int) ys (j : Int) = x by simp [rdOf, List.getD_eq_getElem?_getD, hx]] at this
  exact this
theorem ptr_cell {w : World} {base b c : Nat} {ok : Nat → Prop} {ys : List Nat} (h : KdP.R 198 w base ok (.slice (some ⟨b, 0, none⟩) ys.length c) ys) {j : Nat} {x : Nat} (hx : ys[j]? = some x) : w.cell? ⟨b, j, none⟩ = some (.pointer (some ⟨x, 0, none⟩)) ∧ w.frozen? ⟨b, j, none⟩ = false := by
  have hj := (List.getElem?_eq_some_iff.1 hx).1
  have := Kd.R_cell (0 : Nat) h (j : Int) (by omega) (by omega)
  rw [Int.toNat_natCast] at this
  rw [show rdOf (0 : Nat) ys (j : Int) = x by simp [rdOf, List.getD_eq_getElem?_getD, hx]] at this
  exact this
/-- What IndexFunc says. -/
def Ix51 (xs : List Int) (p : Int → Bool) (i : Int) : Prop := (i = -1 ∧ ∀ x ∈ xs, p x = false) ∨ ∃ j : Nat, i = j ∧ ((j : Int) == -1) = false ∧ j < xs.length ∧ (∀ x ∈ xs.take j, p x = false) ∧ ∃ x, xs[j]? = some x ∧ p x = true
theorem index51  (xs : List Int) (p : Int → Bool) (b c : Nat) (w : World) (hl : xs.length ≤ 100000)
    (hcell : ∀ W, Below w.heap.size w W → ∀ j x, xs[j]? = some x → W.cell? ⟨b, j, none⟩ = some (.int .i64 x)) (hP : ∀ x ∈ xs, ∀ W, Below w.heap.size w W → Calls Tryz.prog 51 #[.int .i64 x] W fun e w' => e = .returned (.bool (p x)) ∧ Below W.heap.size W w') :
    Calls Tryz.prog 79 #[.slice (some ⟨b, 0, none⟩) xs.length c, .func (.func 51) #[] #[]] w fun e w' => ∃ i : Int, e = .returned (.int .i64 i) ∧ Ix51 xs p i ∧ Below w.heap.size w w' := by
  replace hcell := hd_ hcell
  replace hP := hd_ hP
  go_enter Tryz.func79, Tryz.ntmps79
  go_wp2
  go_loopw [5, 8] (fun _ iv wr => ∃ j : Nat, j ≤ xs.length ∧ iv = .int .i64 j ∧ Hd (∀ x ∈ xs.take j, p x = false) ∧ Below w.heap.size w wr) (fun _ iv _ => xs.length - (intOf iv).toNat)
  case atStart => exact ⟨0, Nat.zero_le _, rfl, ⟨by simp⟩, Below.refl _ _⟩
  case round =>
    obtain ⟨j, hj, rfl, hJ, hB⟩ := hrel
    by_cases hlt : j < xs.length
    · obtain ⟨x, hx⟩ := get_some hlt
      have y0 := hcell.out wr hB j x hx
      have hPx := hP.out x (List.mem_of_getElem? hx) wr hB
      replace hx := hd_ hx
      cases hp : p x with
      | true =>
        rw [hp] at hPx
        have HI := hd_ (show Ix51 xs p j from .inr ⟨j, rfl, by simp, hlt, hJ.out, x, hx.out, hp⟩)
        clear hp hJ
        go_wp2_with (go_at_call 51; (with_reducible refine hPx.mono ?_); rintro e w1 ⟨rfl, hB1⟩)
        go_ret
        exact ⟨j, rfl, HI.out, below_then hB hB.size hB1⟩
      | false =>
        rw [hp] at hPx
        have HJ : Hd (∀ y ∈ xs.take (j + 1), p y = false) := ⟨fun y hy => by
          rw [List.take_add_one, hx.out] at hy
          rcases List.mem_append.1 hy with hy | hy
          · exact hJ.out y hy
          · simp at hy; rw [hy]; exact hp⟩
        clear hp hJ
        go_wp2_with (go_at_call 51; (with_reducible refine hPx.mono ?_); rintro e w1 ⟨rfl, hB1⟩; have hC1 := below_then hB hB.size hB1)
        go_roundw
        case rel => exact ⟨j + 1, by omega, by go_num, HJ, hC1⟩
        case measure => simp [intOf]; omega
    · have HI := hd_ (show Ix51 xs p (-1) from .inl ⟨rfl, fun x hx => hJ.out x (by rwa [List.take_of_length_le (by omega)])⟩)
      clear hJ
      go_wp2
      go_ret
      exact ⟨-1, rfl, HI.out, hB⟩
theorem delf51  (xs : List Int) (p : Int → Bool) (b c base : Nat) (ok : Nat → Prop) (w : World) (hl : xs.length ≤ 100000) (hR : (Kd.int .i64).R 3 w base ok (.slice (some ⟨b, 0, none⟩) xs.length c) xs) (hP : ∀ x ∈ xs, ∀ W, Ste (fun k => k = b) w W → Calls Tryz.prog 51 #[.int .i64 x] W fun e w' => e = .returned (.bool (p x)) ∧ Below W.heap.size W w') :
    Calls Tryz.prog 50 #[.slice (some ⟨b, 0, none⟩) xs.length c, .func (.func 51) #[] #[]] w fun e w' => e = .returned (.slice (some ⟨b, 0, none⟩) (xs.filter (fun x => !p x)).length c) ∧ (Kd.int .i64).R 3 w' base ok (.slice (some ⟨b, 0, none⟩) (xs.filter (fun x => !p x)).length c) (xs.filter (fun x => !p x)) ∧ Ste (fun k => k = b) w w' := by
  have hcl := fun (W : World) (ys : List Int) (hRw : (Kd.int .i64).R 3 W base ok (.slice (some ⟨b, 0, none⟩) ys.length c) ys) j x (hx : ys[j]? = some x) => int_cell hRw hx
  have hix := index51  xs p b c w hl (fun W hB j x hx => (hcl W xs (Kd.R_below hR hB) j x hx).1) (fun x hx W hB => hP x hx W (Ste.of_below hB))
  have hcap : xs.length ≤ c := (Kd.R_reads' hR).2.1
  replace hcl := hd_ hcl
  replace hP := hd_ hP
  replace hR := hd_ hR
  generalize hfl : xs.filter (fun x => !p x) = fs at *
  replace hfl := hd_ hfl
  go_enter Tryz.func50, Tryz.ntmps50
  go_wp2_with (go_at_call 79; (with_reducible refine hix.mono ?_); rintro e w1 ⟨i0, rfl, hI, hB1⟩; rcases hI with ⟨rfl, hI⟩ | ⟨j0, rfl, hj1, hj0, hI, x0, hx0, hp0⟩)
  · go_ret
    have hff : fs = xs := by rw [← hfl.out]; exact List.filter_eq_self.2 (fun x hx => by rw [hI x hx]; rfl)
    rw [hff]
    exact ⟨rfl, Kd.R_below hR.out hB1, Ste.of_below hB1⟩
  · have hR1 := Kd.R_below hR.out hB1
    have hA0 := hd_ (show xs.take j0 = (xs.take (j0 + 1)).filter (fun x => !p x) by
      rw [filter_next hx0, List.filter_eq_self.2 (fun x hx => by rw [hI x hx]; rfl), hp0]; simp)
    clear hI hx0 hp0 hix
    go_wp2
    go_loopw [5, 6, 7] (fun iv jv _ wr => ∃ (i j : Nat) (ys : List Int), iv = .int .i64 i ∧ jv = .int .i64 j ∧ i < j ∧ j ≤ xs.length ∧ Hd (ys.length = xs.length) ∧ Hd (ys.take i = (xs.take j).filter (fun x => !p x)) ∧ Hd (ys.drop j = xs.drop j) ∧ (Kd.int .i64).R 3 wr base ok (.slice (some ⟨b, 0, none⟩) xs.length c) ys ∧ Ste (fun k => k = b) w wr) (fun _ jv _ _ => xs.length - (intOf jv).toNat)
    case atStart => exact ⟨j0, j0 + 1, xs, rfl, by go_num, by omega, by omega, ⟨rfl⟩, hA0, ⟨rfl⟩, hR1, Ste.of_below hB1⟩
    case round =>
      obtain ⟨i, j, ys, rfl, rfl, hij, hjn, hlen, hA, hD, hRy, hS⟩ := hrel
      by_cases hlt : j < xs.length
      · obtain ⟨x, hx⟩ := get_some hlt
        have hyx := drop_get hD.out hx
        have y0 := (hcl.out wr ys (by rw [hlen.out]; exact hRy) j x hyx).1
        have hPx := hP.out x (List.mem_of_getElem? hx) wr hS
        have hFN := hd_ (filter_next (p := fun x => !p x) hx)
        have hDM := hd_ (drop_more hD.out)
        have hDS := hd_ (drop_set hD.out (show i < j + 1 by omega) x)
        have hTS := hd_ (set_take x (show i < ys.length by rw [hlen.out]; omega))
        have hSL : Hd ((ys.set i x).length = xs.length) := ⟨by rw [List.length_set, hlen.out]⟩
        obtain ⟨yi, hyi⟩ := get_some (xs := ys) (j := i) (by rw [hlen.out]; omega)
        replace hyi := hd_ hyi
        clear hx hyx hD
        cases hp : p x with
        | true =>
          rw [hp] at hPx
          have hA2 := hd_ (show ys.take i = (xs.take (j + 1)).filter (fun x => !p x) by rw [hFN.out, ← hA.out, hp]; simp)
          clear hp
          go_wp2_with (go_at_call 51; (with_reducible refine hPx.mono ?_); rintro e w2 ⟨rfl, hB2⟩; have hR2 := Kd.R_below hRy hB2; have hS2 := hS.below hB2)
          go_roundw
          case rel => exact ⟨i, j + 1, ys, rfl, by go_num, by omega, by omega, hlen, hA2, hDM, hR2, hS2⟩
          case measure => simp [intOf]; omega
        | false =>
          rw [hp] at hPx
          have hA2 := hd_ (show (ys.set i x).take (i + 1) = (xs.take (j + 1)).filter (fun x => !p x) by rw [hTS.out, hFN.out, ← hA.out, hp]; simp)
          clear hp
          go_wp2_with (go_at_call 51; (with_reducible refine hPx.mono ?_); rintro e w2 ⟨rfl, hB2⟩; have hR2 := Kd.R_below hRy hB2; have hS2 := hS.below hB2; have hci := hcl.out w2 ys (by rw [hlen.out]; exact hR2) i yi hyi.out; have yc := hci.1; have yf := hci.2)
          have hR3 := Kd.R_putn hR2 (i : Int) x
          rw [Int.toNat_natCast] at hR3
          have hS3 := hS2.trans (setCell_ste w2 b i (.int .i64 x)) (fun k hk => .inl hk)
          go_roundw
          case rel => exact ⟨i + 1, j + 1, ys.set i x, by go_num, by go_num, by omega, by omega, hSL, hA2, hDS, hR3, hS3⟩
          case measure => simp [intOf]; omega
      · obtain rfl : j = xs.length := by omega
        have hclr : ∀ ty, (Builtin.clear_ #[32] ty #[.slice (some ⟨b, i, none⟩) (xs.length - i) (c - i)]).run Tryz.prog wr = .ok (.tuple #[]) (wr.setCells b i (List.replicate (xs.length - i) (.int .i64 0))) := fun ty =>
          Lib.run_clear_slice wr _ _ ty _ Tryz.underlying32 (fun W => Tryz.zeroValue3 W) rfl rfl b i _ _ (by omega) (fun t ht => by
            obtain ⟨y, hy⟩ := get_some (xs := ys) (j := i + t) (by rw [hlen.out]; omega)
            rw [(hcl.out wr ys (by rw [hlen.out]; exact hRy) (i + t) y hy).1]; rfl) (fun t ht => by
            obtain ⟨y, hy⟩ := get_some (xs := ys) (j := i + t) (by rw [hlen.out]; omega)
            exact (hcl.out wr ys (by rw [hlen.out]; exact hRy) (i + t) y hy).2)
        have hRt := Kd.R_take hRy (m := i) (by rw [hlen.out]; omega)
        have hfi : Hd (fs = ys.take i ∧ fs.length = i) := ⟨by
          have h1 : fs = ys.take i := by rw [hA.out, ← hfl.out, List.take_of_length_le (Nat.le_refl _)]
          exact ⟨h1, by rw [h1, List.length_take, hlen.out]; omega⟩⟩
        clear hRy hA hD hlen hA0
        go_wp2
        go_ret
        obtain ⟨hf1, hf2⟩ := hfi.out
        rw [← hf1] at hRt
        rw [← hf2] at hRt ⊢
        refine ⟨rfl, Kd.R_of_own (own_pasts rfl _ _ _ (by have := Kd.own_of_R hRt; exact this) (by omega)) hRt.1, hS.trans (setCells_ste b _ _ _) (fun k hk => .inl hk)⟩
/-- What IndexFunc says. -/
def IxP (xs : List Nat) (p : Nat → Bool) (i : Int) : Prop := (i = -1 ∧ ∀ x ∈ xs, p x = false) ∨ ∃ j : Nat, i = j ∧ ((j : Int) == -1) = false ∧ j < xs.length ∧ (∀ x ∈ xs.take j, p x = false) ∧ ∃ x, xs[j]? = some x ∧ p x = true
theorem indexP (xb : Nat) (xs : List Nat) (p : Nat → Bool) (b c : Nat) (w : World) (hl : xs.length ≤ 100000)
    (hcell : ∀ W, Below w.heap.size w W → ∀ j x, xs[j]? = some x → W.cell? ⟨b, j, none⟩ = some (.pointer (some ⟨x, 0, none⟩))) (hP : ∀ x ∈ xs, ∀ W, Below w.heap.size w W → Calls Tryz.prog 132 #[.pointer (some ⟨x, 0, none⟩), .pointer (some ⟨xb, 0, none⟩)] W fun e w' => e = .returned (.bool (p x)) ∧ Below W.heap.size W w') :
    Calls Tryz.prog 159 #[.slice (some ⟨b, 0, none⟩) xs.length c, .func (.func 132) #[] #[.pointer (some ⟨xb, 0, none⟩)]] w fun e w' => ∃ i : Int, e = .returned (.int .i64 i) ∧ IxP xs p i ∧ Below w.heap.size w w' := by
  replace hcell := hd_ hcell
  replace hP := hd_ hP
  go_enter Tryz.func159, Tryz.ntmps159
  go_wp2
  go_loopw [5, 8] (fun _ iv wr => ∃ j : Nat, j ≤ xs.length ∧ iv = .int .i64 j ∧ Hd (∀ x ∈ xs.take j, p x = false) ∧ Below w.heap.size w wr) (fun _ iv _ => xs.length - (intOf iv).toNat)
  case atStart => exact ⟨0, Nat.zero_le _, rfl, ⟨by simp⟩, Below.refl _ _⟩
  case round =>
    obtain ⟨j, hj, rfl, hJ, hB⟩ := hrel
    by_cases hlt : j < xs.length
    · obtain ⟨x, hx⟩ := get_some hlt
      have y0 := hcell.out wr hB j x hx
      have hPx := hP.out x (List.mem_of_getElem? hx) wr hB
      replace hx := hd_ hx
      cases hp : p x with
      | true =>
        rw [hp] at hPx
        have HI := hd_ (show IxP xs p j from .inr ⟨j, rfl, by simp, hlt, hJ.out, x, hx.out, hp⟩)
        clear hp hJ
        go_wp2_with (go_at_call 132; (with_reducible refine hPx.mono ?_); rintro e w1 ⟨rfl, hB1⟩)
        go_ret
        exact ⟨j, rfl, HI.out, below_then hB hB.size hB1⟩
      | false =>
        rw [hp] at hPx
        have HJ : Hd (∀ y ∈ xs.take (j + 1), p y = false) := ⟨fun y hy => by
          rw [List.take_add_one, hx.out] at hy
          rcases List.mem_append.1 hy with hy | hy
          · exact hJ.out y hy
          · simp at hy; rw [hy]; exact hp⟩
        clear hp hJ
        go_wp2_with (go_at_call 132; (with_reducible refine hPx.mono ?_); rintro e w1 ⟨rfl, hB1⟩; have hC1 := below_then hB hB.size hB1)
        go_roundw
        case rel => exact ⟨j + 1, by omega, by go_num, HJ, hC1⟩
        case measure => simp [intOf]; omega
    · have HI := hd_ (show IxP xs p (-1) from .inl ⟨rfl, fun x hx => hJ.out x (by rwa [List.take_of_length_le (by omega)])⟩)
      clear hJ
      go_wp2
      go_ret
      exact ⟨-1, rfl, HI.out, hB⟩
theorem delfP (xb : Nat) (xs : List Nat) (p : Nat → Bool) (b c base : Nat) (ok : Nat → Prop) (w : World) (hl : xs.length ≤ 100000) (hR : KdP.R 198 w base ok (.slice (some ⟨b, 0, none⟩) xs.length c) xs) (hP : ∀ x ∈ xs, ∀ W, Ste (fun k => k = b) w W → Calls Tryz.prog 132 #[.pointer (some ⟨x, 0, none⟩), .pointer (some ⟨xb, 0, none⟩)] W fun e w' => e = .returned (.bool (p x)) ∧ Below W.heap.size W w') :
    Calls Tryz.prog 130 #[.slice (some ⟨b, 0, none⟩) xs.length c, .func (.func 132) #[] #[.pointer (some ⟨xb, 0, none⟩)]] w fun e w' => e = .returned (.slice (some ⟨b, 0, none⟩) (xs.filter (fun x => !p x)).length c) ∧ KdP.R 198 w' base ok (.slice (some ⟨b, 0, none⟩) (xs.filter (fun x => !p x)).length c) (xs.filter (fun x => !p x)) ∧ Ste (fun k => k = b) w w' := by
  have hcl := fun (W : World) (ys : List Nat) (hRw : KdP.R 198 W base ok (.slice (some ⟨b, 0, none⟩) ys.length c) ys) j x (hx : ys[j]? = some x) => ptr_cell hRw hx
  have hix := indexP xb xs p b c w hl (fun W hB j x hx => (hcl W xs (Kd.R_below hR hB) j x hx).1) (fun x hx W hB => hP x hx W (Ste.of_below hB))
  have hcap : xs.length ≤ c := (Kd.R_reads' hR).2.1
  replace hcl := hd_ hcl
  replace hP := hd_ hP
  replace hR := hd_ hR
  generalize hfl : xs.filter (fun x => !p x) = fs at *
  replace hfl := hd_ hfl
  go_enter Tryz.func130, Tryz.ntmps130
  go_wp2_with (go_at_call 159; (with_reducible refine hix.mono ?_); rintro e w1 ⟨i0, rfl, hI, hB1⟩; rcases hI with ⟨rfl, hI⟩ | ⟨j0, rfl, hj1, hj0, hI, x0, hx0, hp0⟩)
  · go_ret
    have hff : fs = xs := by rw [← hfl.out]; exact List.filter_eq_self.2 (fun x hx => by rw [hI x hx]; rfl)
    rw [hff]
    exact ⟨rfl, Kd.R_below hR.out hB1, Ste.of_below hB1⟩
  · have hR1 := Kd.R_below hR.out hB1
    have hA0 := hd_ (show xs.take j0 = (xs.take (j0 + 1)).filter (fun x => !p x) by
      rw [filter_next hx0, List.filter_eq_self.2 (fun x hx => by rw [hI x hx]; rfl), hp0]; simp)
    clear hI hx0 hp0 hix
    go_wp2
    go_loopw [5, 6, 7] (fun iv jv _ wr => ∃ (i j : Nat) (ys : List Nat), iv = .int .i64 i ∧ jv = .int .i64 j ∧ i < j ∧ j ≤ xs.length ∧ Hd (ys.length = xs.length) ∧ Hd (ys.take i = (xs.take j).filter (fun x => !p x)) ∧ Hd (ys.drop j = xs.drop j) ∧ KdP.R 198 wr base ok (.slice (some ⟨b, 0, none⟩) xs.length c) ys ∧ Ste (fun k => k = b) w wr) (fun _ jv _ _ => xs.length - (intOf jv).toNat)
    case atStart => exact ⟨j0, j0 + 1, xs, rfl, by go_num, by omega, by omega, ⟨rfl⟩, hA0, ⟨rfl⟩, hR1, Ste.of_below hB1⟩
    case round =>
      obtain ⟨i, j, ys, rfl, rfl, hij, hjn, hlen, hA, hD, hRy, hS⟩ := hrel
      by_cases hlt : j < xs.length
      · obtain ⟨x, hx⟩ := get_some hlt
        have hyx := drop_get hD.out hx
        have y0 := (hcl.out wr ys (by rw [hlen.out]; exact hRy) j x hyx).1
        have hPx := hP.out x (List.mem_of_getElem? hx) wr hS
        have hFN := hd_ (filter_next (p := fun x => !p x) hx)
        have hDM := hd_ (drop_more hD.out)
        have hDS := hd_ (drop_set hD.out (show i < j + 1 by omega) x)
        have hTS := hd_ (set_take x (show i < ys.length by rw [hlen.out]; omega))
        have hSL : Hd ((ys.set i x).length = xs.length) := ⟨by rw [List.length_set, hlen.out]⟩
        obtain ⟨yi, hyi⟩ := get_some (xs := ys) (j := i) (by rw [hlen.out]; omega)
        replace hyi := hd_ hyi
        clear hx hyx hD
        cases hp : p x with
        | true =>
          rw [hp] at hPx
          have hA2 := hd_ (show ys.take i = (xs.take (j + 1)).filter (fun x => !p x) by rw [hFN.out, ← hA.out, hp]; simp)
          clear hp
          go_wp2_with (go_at_call 132; (with_reducible refine hPx.mono ?_); rintro e w2 ⟨rfl, hB2⟩; have hR2 := Kd.R_below hRy hB2; have hS2 := hS.below hB2)
          go_roundw
          case rel => exact ⟨i, j + 1, ys, rfl, by go_num, by omega, by omega, hlen, hA2, hDM, hR2, hS2⟩
          case measure => simp [intOf]; omega
        | false =>
          rw [hp] at hPx
          have hA2 := hd_ (show (ys.set i x).take (i + 1) = (xs.take (j + 1)).filter (fun x => !p x) by rw [hTS.out, hFN.out, ← hA.out, hp]; simp)
          clear hp
          go_wp2_with (go_at_call 132; (with_reducible refine hPx.mono ?_); rintro e w2 ⟨rfl, hB2⟩; have hR2 := Kd.R_below hRy hB2; have hS2 := hS.below hB2; have hci := hcl.out w2 ys (by rw [hlen.out]; exact hR2) i yi hyi.out; have yc := hci.1; have yf := hci.2)
          have hR3 := Kd.R_putn hR2 (i : Int) x
          rw [Int.toNat_natCast] at hR3
          have hS3 := hS2.trans (setCell_ste w2 b i (.pointer (some ⟨x, 0, none⟩))) (fun k hk => .inl hk)
          go_roundw
          case rel => exact ⟨i + 1, j + 1, ys.set i x, by go_num, by go_num, by omega, by omega, hSL, hA2, hDS, hR3, hS3⟩
          case measure => simp [intOf]; omega
      · obtain rfl : j = xs.length := by omega
        have hclr : ∀ ty, (Builtin.clear_ #[79] ty #[.slice (some ⟨b, i, none⟩) (xs.length - i) (c - i)]).run Tryz.prog wr = .ok (.tuple #[]) (wr.setCells b i (List.replicate (xs.length - i) (.pointer none))) := fun ty =>
          Lib.run_clear_slice wr _ _ ty _ Tryz.underlying79 (fun W => Tryz.zeroValue198 W) rfl rfl b i _ _ (by omega) (fun t ht => by
            obtain ⟨y, hy⟩ := get_some (xs := ys) (j := i + t) (by rw [hlen.out]; omega)
            rw [(hcl.out wr ys (by rw [hlen.out]; exact hRy) (i + t) y hy).1]; rfl) (fun t ht => by
            obtain ⟨y, hy⟩ := get_some (xs := ys) (j := i + t) (by rw [hlen.out]; omega)
            exact (hcl.out wr ys (by rw [hlen.out]; exact hRy) (i + t) y hy).2)
        have hRt := Kd.R_take hRy (m := i) (by rw [hlen.out]; omega)
        have hfi : Hd (fs = ys.take i ∧ fs.length = i) := ⟨by
          have h1 : fs = ys.take i := by rw [hA.out, ← hfl.out, List.take_of_length_le (Nat.le_refl _)]
          exact ⟨h1, by rw [h1, List.length_take, hlen.out]; omega⟩⟩
        clear hRy hA hD hlen hA0
        go_wp2
        go_ret
        obtain ⟨hf1, hf2⟩ := hfi.out
        rw [← hf1] at hRt
        rw [← hf2] at hRt ⊢
        refine ⟨rfl, Kd.R_of_own (own_pasts rfl _ _ _ (by have := Kd.own_of_R hRt; exact this) (by omega)) hRt.1, hS.trans (setCells_ste b _ _ _) (fun k hk => .inl hk)⟩
end Go.Proofs.YtgopddjmmoohdaaGreatDoor

/- slices.Clone at pointers, steps, operations. -/
set_option linter.unusedSimpArgs false
set_option linter.unusedVariables false
set_option maxRecDepth 100000
set_option maxHeartbeats 3200000
namespace Go.Proofs.YtgopddjmmoohdaaGreatDoor
open Go.RowKit Go.Proofs.YtgopddjmmoohdaaGreatDoorW.PrintWords Go.Proofs.YtgopddjmmoohdaaGreatDoorW.PrintLast Go.Proofs.YtgopddjmmoohdaaGreatDoor.PPlaySilent

theorem R_emptyB {α : Type} {d : Kd α} {e base g : Nat} {ok : Nat → Prop} {w : World} (hg : w.heap[g]? = some (.cells #[] e (0, 0))) (hb : base ≤ g) (ho : ok g) : d.R e w base ok (.slice (some ⟨g, 0, none⟩) 0 0) [] :=
  ⟨fun k hk => by rw [← Option.some.inj (show some g = some k from hk)]; exact ho, [], ⟨by simp, .inr ⟨g, 0, #[], rfl, hb, hg, Nat.le_refl _, by unfold maxLen; omega, by simp, by simp⟩⟩, by simp [Reps]⟩
theorem info39 : (Tryz.prog.info? 39).map (fun i => (i.zero, i.size, i.bytes)) = some (some (.agg #[.int .i64 0, .int .i64 0, .int .i64 0, .int .i64 0, .int .i64 0, .string ⟨#[]⟩]), 6, 56) := by kernel_rfl
theorem cloneP (xs : List Nat) (A : Option Addr) (c : Nat) (w : World) (h : KdP.C w A xs.length xs) (hl : xs.length ≤ 1000000) :
    Calls Tryz.prog 131 #[.slice A xs.length c] w fun e w' => ∃ A' c', e = .returned (.slice A' xs.length c') ∧ xs.length ≤ c' ∧ KdP.R 198 w' w.heap.size (fun _ => True) (.slice A' xs.length c') xs ∧ Below w.heap.size w w' := by
  have qn : ∀ (w : World) (a : Option Addr) (n c n' c' : Nat), (binOp .eql 79 (.slice a n c) (.slice none n' c')).run Tryz.prog w = .ok (.bool a.isNone) w := fun w a n c n' c' => Lib.run_eql_slice_nil w _ _ a n c n' c' Tryz.underlying79
  cases A with
  | none =>
    have hx : xs = [] := by
      cases xs with
      | nil => rfl
      | cons a r => obtain ⟨ad, h1, _⟩ := h.2.2 (by simp); cases h1
    subst hx
    clear h
    go_enter Tryz.func131, Tryz.ntmps131
    go_wp2
    go_ret
    exact ⟨none, 0, rfl, Nat.le_refl _, Kd.R_nil _ _ _ _ _, Below.refl _ _⟩
  | some ad =>
    have hb1 := below_alloc (Below.refl w.heap.size w) (.cells #[] 198)
    have hC := Kd.C_below h hb1
    have hE : KdP.R 198 (w.alloc (.cells #[] 198)) w.heap.size (fun _ => True) (.slice (some ⟨w.heap.size, 0, none⟩) 0 0) [] := R_emptyB (alloc_new' rfl) (Nat.le_refl _) trivial
    clear h
    go_enter Tryz.func131, Tryz.ntmps131
    go_wp2_with (at_builtin; refine Kd.R_append_rows KdP (Rr := KdP.K (w.alloc (.cells #[] 198))) (w0 := w) w.heap.size rfl (.tmp 5) (.tmp 6) 79 198 (.pointer none) 8 rfl Tryz.underlying79 info198 rfl (by decide) (by decide) (.slice (some ⟨w.heap.size, 0, none⟩) 0 0) [] xs (some ad) xs.length c (fun _ => True) (fun _ => False) rfl rfl hE hC (fun _ _ h => h) (fun _ h => h.elim) (fun _ _ => trivial) hb1 hb1.size (by simp; omega) ?_; intro v1 w1 hR1 hB1 hg1 hat1)
    rw [List.nil_append] at hR1
    obtain ⟨A5, c5, rfl, hl5, -⟩ := Kd.R_reads hR1
    go_ret
    exact ⟨A5, c5, rfl, hl5, hR1, hB1⟩
theorem binop_ptr {y p : Nat} {w : World} {cy cp : Array Value} {ty tp : TypeId} (hy : w.heap[y]? = some (.cells cy ty (0, 0))) (hp : w.heap[p]? = some (.cells cp tp (0, 0))) : (binOp .eql 198 (.pointer (some ⟨y, 0, none⟩)) (.pointer (some ⟨p, 0, none⟩))).run Tryz.prog w = .ok (.bool (y == p)) w := by
  have h := run_underlying (P := Tryz.prog) Tryz.underlying198 w
  have he : (Op.equal 198 (.pointer (some ⟨y, 0, none⟩)) (.pointer (some ⟨p, 0, none⟩))).run Tryz.prog w = .ok (y == p) w := by
    unfold Op.equal Op.maxDepth
    rw [Op.equalIn.eq_def]
    by_cases e : y = p
    · subst e
      simp [go_sem, h, run_sameAddr_same]
    · have hs := run_sameAddr_other (P := Tryz.prog) (a := ⟨y, 0, none⟩) (b := ⟨p, 0, none⟩) (hne := fun h => e (congrArg Addr.block h)) (ha := hy) (hb := hp)
      simp [go_sem, h, hs, e]
  simp [binOp, go_sem, he]
theorem kill1_any (xb p y : Nat) (w : World) {cy cp : Array Value} {ty tp : TypeId} (h : w.heap[xb]? = some (.cells #[.pointer (some ⟨p, 0, none⟩)] 198 (0, 0))) (hy : w.heap[y]? = some (.cells cy ty (0, 0))) (hp : w.heap[p]? = some (.cells cp tp (0, 0))) :
    Calls Tryz.prog 132 #[.pointer (some ⟨y, 0, none⟩), .pointer (some ⟨xb, 0, none⟩)] w fun e w' => e = .returned (.bool (y == p)) ∧ Below w.heap.size w w' := by
  have z0 := (blk_cell h 0).trans rfl
  have hb := binop_ptr hy hp
  clear h hy hp
  generalize (y == p) = r at *
  go_enter Tryz.func132, Tryz.ntmps132
  go_wp2
  go_ret
  exact ⟨rfl, Below.refl _ _⟩
end Go.Proofs.YtgopddjmmoohdaaGreatDoor

/- listen: Kill. -/
set_option linter.unusedSimpArgs false
set_option linter.unusedVariables false
set_option maxRecDepth 100000
set_option maxHeartbeats 3200000
namespace Go.Proofs.YtgopddjmmoohdaaGreatDoor
open Go.RowKit Go.Proofs.YtgopddjmmoohdaaGreatDoorW.PrintWords Go.Proofs.YtgopddjmmoohdaaGreatDoorW.PrintLast Go.Proofs.YtgopddjmmoohdaaGreatDoor.PPlaySilent

theorem LiX.setrem {own : Nat → Nat} {w0 w : World} {L : Nat} {ps : List Nat} {ls : List Ls} {cnt : Nat} {psA : List Nat} {ib mb : Nat} {va : Value} {g : List (Int × Value)} {rows : Int → List Nat} (h : LiX own w0 w L ps ls cnt psA ib mb va g rows) {i p : Nat} {s : Ls} (hs : ls[i]? = some s) (hp : ps[i]? = some p) :
    LiX own w0 (w.setCell ⟨p, 7, none⟩ (.bool true)) L ps (ls.set i { s with rem := true }) cnt psA ib mb va g rows ∧ Ste (fun k => own k ≠ 0) w (w.setCell ⟨p, 7, none⟩ (.bool true)) := by
  obtain ⟨p', hp', ho, hc⟩ := h.ent i s hs
  obtain rfl : p = p' := Option.some.inj (hp.symm.trans hp')
  have hst := setCell_ste w p 7 (.bool true)
  have hne : ∀ {k c : Nat}, own k = c → c ≠ 5 + 2 * i → ¬ k = p := fun hk hc e => hc (by rw [← hk, e]; exact ho)
  have hSt : Ste (fun k => own k ≠ 0) w (w.setCell ⟨p, 7, none⟩ (.bool true)) := hst.mono (fun k hk => .inl (by rw [show k = p from hk, ho]; omega))
  refine ⟨⟨h.pl, fun k hk => ⟨(h.lo k hk).1, Nat.lt_of_lt_of_le (h.lo k hk).2 hst.size⟩, hSt.base h.base h.base.size (fun k hk => (h.lo k hk).1), h.oi, h.om, hst.blk h.head (hne h.pl (by omega)), hst.blk h.ids (hne h.oi (by omega)), R_ste h.all hst (fun k hk => hne hk (by omega)), h.map.ste hst (hne h.om (by omega)), h.nd, fun n => (h.at_ n).ste hst (fun k hk => hne hk (by omega)), by rw [List.length_set]; exact h.pn, fun j t hj => ?_⟩, hSt⟩
  rw [List.getElem?_set] at hj
  split at hj
  · rename_i e
    subst e
    split at hj
    · cases hj
      exact ⟨p, hp, ho, blk_put hc 7 (.bool true) rfl⟩
    · cases hj
  · rename_i e
    obtain ⟨q, hq, hqo, hqc⟩ := h.ent j t hj
    exact ⟨q, hq, hqo, hst.blk hqc (hne hqo (by omega))⟩
theorem idxL_kill {ls : List Ls} {i : Nat} {s : Ls} (hs : ls[i]? = some s) (n : Int) : idxL (ls.set i { s with rem := true }) n = if n = s.node then (idxL ls n).filter (fun j => j != i) else idxL ls n := by
  have hlt := (List.getElem?_eq_some_iff.1 hs).1
  unfold idxL
  rw [List.length_set]
  by_cases e : n = s.node
  · rw [if_pos e, List.filter_filter]
    refine List.filter_congr (fun j hj => ?_)
    rw [List.getElem?_set]
    by_cases ej : i = j
    · subst ej; rw [if_pos rfl, if_pos hlt]; simp
    · rw [if_neg ej]; have : (j != i) = true := by simpa using Ne.symm ej
      rw [this, Bool.true_and]
  · rw [if_neg e]
    refine List.filter_congr (fun j hj => ?_)
    rw [List.getElem?_set]
    by_cases ej : i = j
    · subst ej; rw [if_pos rfl, if_pos hlt, hs]; simp [Ne.symm e]
    · rw [if_neg ej]
/-- Places are told apart. -/
theorem LiC.inj {own : Nat → Nat} {w0 w : World} {L : Nat} {ps : List Nat} {ls : List Ls} (h : LiC own w0 w L ps ls) {i j : Nat} (hi : i < ls.length) (hj : j < ls.length) (he : ps.getD i 0 = ps.getD j 0) : i = j := by
  obtain ⟨p, hp, ho, -⟩ := h.ent i _ (List.getElem?_eq_getElem hi)
  obtain ⟨q, hq, hqo, -⟩ := h.ent j _ (List.getElem?_eq_getElem hj)
  rw [List.getD_eq_getElem?_getD, List.getD_eq_getElem?_getD, hp, hq] at he
  have : p = q := he
  subst this
  omega
theorem ptsL_filter {own : Nat → Nat} {w0 w : World} {L : Nat} {ps : List Nat} {ls : List Ls} (h : LiC own w0 w L ps ls) {i p : Nat} (hi : i < ls.length) (hp : ps[i]? = some p) : ∀ (xs : List Nat), (∀ j ∈ xs, j < ls.length) → (ptsL ps xs).filter (fun y => !(y == p)) = ptsL ps (xs.filter (fun j => j != i))
  | [], _ => rfl
  | j :: r, hx => by
    have ih := ptsL_filter h hi hp r (fun k hk => hx k (List.mem_cons_of_mem _ hk))
    have hjl := hx j (by simp)
    have hpi : ps.getD i 0 = p := by rw [List.getD_eq_getElem?_getD, hp]; rfl
    show (ps.getD j 0 :: ptsL ps r).filter _ = _
    rw [List.filter_cons, List.filter_cons]
    by_cases e : j = i
    · subst e
      rw [hpi]
      simp only [beq_self_eq_true, Bool.not_true, bne_self_eq_false, Bool.false_eq_true, if_false]
      exact ih
    · have h1 : (ps.getD j 0 == p) = false := by
        rw [← hpi]
        exact beq_eq_false_iff_ne.2 (fun he => e (h.inj hjl hi he))
      have h2 : (j != i) = true := by simpa using e
      rw [h1, h2]
      simp only [Bool.not_false, if_true]
      rw [ih]; rfl
/-- Kill: the lists then, and whether one was removed. -/
def killR (ls : List Ls) (id : Int) : List Ls × Bool := match lsF ls id with
  | none => (ls, false)
  | some s => if s.rem = true then (ls, false) else (ls.set (id - 1).toNat { s with rem := true }, true)
def KillPost (own : Nat → Nat) (w0 w : World) (L : Nat) (ps : List Nat) (r : List Ls × Bool) (e : Ending) (w' : World) : Prop := e = .returned (.bool r.2) ∧ ∃ own', LiC own' w0 w' L ps r.1 ∧ LiStep own own' w w'
theorem kill_rows {own : Nat → Nat} {w0 w : World} {L : Nat} {ps : List Nat} {ls : List Ls} (h : LiC own w0 w L ps ls) {i p : Nat} {s : Ls} (hs : ls[i]? = some s) (hp : ps[i]? = some p) (n : Int) :
    rowsU (fun n => ptsL ps (idxL ls n)) s.node ((ptsL ps (idxL ls s.node)).filter (fun y => !(y == p))) n = ptsL ps (idxL (ls.set i { s with rem := true }) n) := by
  rw [idxL_kill hs]
  unfold rowsU
  by_cases e : n = s.node
  · rw [if_pos e, if_pos e, ptsL_filter h (List.getElem?_eq_some_iff.1 hs).1 hp _ (fun j hj => idxL_lt hj), e]
  · rw [if_neg e, if_neg e]
theorem kill_any (own : Nat → Nat) (w0 w : World) (L : Nat) (ps : List Nat) (ls : List Ls) (id : Int) (h : LiC own w0 w L ps ls) :
    Calls Tryz.prog 82 #[.pointer (some ⟨L, 0, none⟩), .int .i64 id] w (KillPost own w0 w L ps (killR ls id)) := by
  have hg := lget_any own w0 w L ps ls id h
  have hbo := fun X => below_alloc (Below.refl w.heap.size w) X
  have hno : Hd (∀ W, killR ls id = (ls, false) → Below w.heap.size w W → KillPost own w0 w L ps (killR ls id) (.returned (.bool false)) W) := ⟨fun W he hB => by
    rw [he]; exact ⟨rfl, own, h.below hB, LiStep.same hB⟩⟩
  cases hn : lsF ls id with
  | none =>
    have HK : Hd (killR ls id = (ls, false)) := ⟨by unfold killR; rw [hn]⟩
    rw [show lsP ps ls id = .pointer none by unfold lsP; rw [hn]] at hg
    generalize killR ls id = kr at *
    clear hn h
    go_enter Tryz.func82, Tryz.ntmps82
    go_wp2_with (go_at_call 129; (with_reducible refine hg.mono ?_); rintro e w1 ⟨rfl, hw⟩; obtain rfl := hw.symm)
    go_ret
    exact hno.out _ HK.out (hbo _)
  | some s =>
    obtain ⟨j, hid, hj, hx⟩ := lsF_some hn
    obtain ⟨p, hp, hpo, hpc⟩ := h.ent j s hx
    have HK0 : Hd (killR ls id = if s.rem = true then (ls, false) else (ls.set j { s with rem := true }, true)) := ⟨by unfold killR; rw [hn]; simp only; rw [hid, show (((j + 1 : Nat) : Int) - 1).toNat = j by omega]⟩
    rw [show lsP ps ls id = .pointer (some ⟨p, 0, none⟩) by unfold lsP; rw [hn]; simp only; rw [hid, show (((j + 1 : Nat) : Int) - 1).toNat = j by omega, List.getD_eq_getElem?_getD, hp]; rfl] at hg
    have z7 : ∀ X, (w.alloc X).cell? ⟨p, 7, none⟩ = some (.bool s.rem) := fun X => blk_cell (blk_alloc hpc X) 7
    have f7 := fun X => blk_frozen (blk_alloc hpc X) 7
    have zx : (w.alloc (.cells #[.pointer (some ⟨p, 0, none⟩)] 198)).cell? ⟨w.heap.size, 0, none⟩ = some (.pointer (some ⟨p, 0, none⟩)) := blk_cell (blk_new w _) 0
    cases hrm : s.rem with
    | true =>
      have HK := hd_ (HK0.out.trans (if_pos hrm))
      simp only [hrm] at z7
      generalize killR ls id = kr at *
      clear hn h HK0 hid hx hp hpo hpc hrm f7
      go_enter Tryz.func82, Tryz.ntmps82
      go_wp2_with (go_at_call 129; (with_reducible refine hg.mono ?_); rintro e w1 ⟨rfl, hw⟩; obtain rfl := hw.symm)
      go_ret
      exact hno.out _ HK.out (hbo _)
    | false =>
      have HK := hd_ (HK0.out.trans (if_neg (by rw [hrm]; simp)))
      simp only [hrm] at z7
      generalize hkr : killR ls id = kr at *
      have hne : ls ≠ [] := fun e => by rw [e] at hj; simp at hj
      obtain ⟨ib, mb, va, g, hX⟩ := h.x hne
      have hXa := hX.setrem hx hp
      have hbA := below_alloc (Below.refl _ (w.setCell ⟨p, 7, none⟩ (.bool true))) (.cells #[.pointer (some ⟨p, 0, none⟩)] 198)
      have hrw := hd_ (kill_rows h hx hp)
      have hkeys : Hd (∀ m, ptsL ps (idxL ls m) ≠ [] → 1 ≤ m) := ⟨keys_pos h.nod⟩
      have hnod1 : Hd (1 ≤ s.node) := ⟨h.nod s (List.mem_of_getElem? hx)⟩
      have hent := hd_ (fun y (hy : y ∈ ptsL ps (idxL ls s.node)) => (by
        obtain ⟨i, hi, rfl⟩ := List.mem_map.1 hy
        obtain ⟨q, hq, hqo, hqc⟩ := h.ent i _ (List.getElem?_eq_getElem (idxL_lt hi))
        exact ⟨_, by rw [List.getD_eq_getElem?_getD, hq]; exact hqc⟩ : ∃ cs, w.heap[y]? = some (.cells cs 201 (0, 0))))
      have hfin : Hd (∀ own' W, LiC own' w0 W L ps (ls.set j { s with rem := true }) → LiStep own own' w W → KillPost own w0 w L ps kr (.returned (.bool true)) W) := ⟨fun own' W h1 h2 => by rw [HK.out]; exact ⟨rfl, own', h1, h2⟩⟩
      have hdl : Hd (∀ t ∈ ls.set j { s with rem := true }, 1 ≤ t.node) := ⟨fun t ht => by
        rcases List.mem_or_eq_of_mem_set ht with ht | rfl
        · exact h.nod t ht
        · exact hnod1.out⟩
      have hl512 : Hd ((ls.set j { s with rem := true }).length ≤ 512 ∧ (ls.set j { s with rem := true }).length = ls.length ∧ ls.set j { s with rem := true } ≠ []) := ⟨by simp only [List.length_set]; exact ⟨h.len, trivial, fun e => hne (by have := congrArg List.length e; simpa using this)⟩⟩
      have hil := hd_ (show (ptsL ps (idxL ls s.node)).length ≤ 512 by simp only [ptsL, List.length_map]; exact Nat.le_trans (idxL_len ls s.node) h.len)
      have hplt := blk_lt hpc
      have hpos : Hd (0 < (ptsL ps (idxL ls s.node)).length) := ⟨by
        have : j ∈ idxL ls s.node := by unfold idxL; rw [List.mem_filter]; exact ⟨by simpa using hj, by rw [hx]; simp [hrm]⟩
        simp only [ptsL, List.length_map]
        exact List.length_pos_of_mem this⟩
      have hpcA : ((w.setCell ⟨p, 7, none⟩ (.bool true)).alloc (.cells #[.pointer (some ⟨p, 0, none⟩)] 198)).heap[p]? = some (.cells (LsC ((j + 1 : Nat) : Int) { s with rem := true }) 201 (0, 0)) := alloc_at (blk_put hpc 7 (.bool true) (by rfl)) _
      have hxbA : ((w.setCell ⟨p, 7, none⟩ (.bool true)).alloc (.cells #[.pointer (some ⟨p, 0, none⟩)] 198)).heap[w.heap.size]? = some (.cells #[.pointer (some ⟨p, 0, none⟩)] 198 (0, 0)) := alloc_new' (by simp)
      have hszA : ((w.setCell ⟨p, 7, none⟩ (.bool true)).alloc (.cells #[.pointer (some ⟨p, 0, none⟩)] 198)).heap.size = w.heap.size + 1 := by simp
      have hST : LiStep own own w ((w.setCell ⟨p, 7, none⟩ (.bool true)).alloc (.cells #[.pointer (some ⟨p, 0, none⟩)] 198)) := ⟨hXa.2.below hbA, fun k hk => .inl hk⟩
      have hentA : Hd (∀ y ∈ ptsL ps (idxL ls s.node), ∃ cs, ((w.setCell ⟨p, 7, none⟩ (.bool true)).alloc (.cells #[.pointer (some ⟨p, 0, none⟩)] 198)).heap[y]? = some (.cells cs 201 (0, 0))) := ⟨fun y hy => by
        obtain ⟨cs, hcs⟩ := hent.out y hy
        by_cases e : y = p
        · exact ⟨_, by rw [e]; exact hpcA⟩
        · exact ⟨cs, alloc_at ((Below.heap_setCell _ _ _ y e).trans hcs) _⟩⟩
      replace hXa := hXa.1.below hbA
      clear hn h HK0 hid hx hp hpo hpc hrm hX hne hj hno HK hkr hent hbA
      go_enter Tryz.func82, Tryz.ntmps82
      go_wp2_with (go_at_call 129; (with_reducible refine hg.mono ?_); rintro e w1 ⟨rfl, hw⟩; obtain rfl := hw.symm)
      generalize hxb : w.heap.size = xb at *
      generalize ((w.setCell ⟨p, 7, none⟩ (.bool true)).alloc (.cells #[.pointer (some ⟨p, 0, none⟩)] 198)) = wA at *
      obtain ⟨idv, hidv⟩ : ∃ idv : Int, idv = ((j + 1 : Nat) : Int) := ⟨_, rfl⟩
      rw [← hidv] at hpcA
      clear hidv
      have hRr := hXa.rowR s.node
      have hrv0 : ∃ rv, rowV g s.node = rv := ⟨_, rfl⟩
      obtain ⟨rv, hrv⟩ := hrv0
      have hRr' : KdP.R 198 wA w0.heap.size (fun k => own k = 6 + 2 * s.node.toNat) rv (ptsL ps (idxL ls s.node)) := by rw [← hrv]; exact hRr
      obtain ⟨Ar, cr, rfl, hcr, hCr⟩ := Kd.R_reads hRr'
      clear hRr'
      refine start_ (n := 13) (S := (fun W_ => (W_.heap[L]? = some (.cells #[.pointer (some ⟨ib, 0, none⟩), va, .map (some mb)] 82 (0, 0)) ∧ W_.heap[xb]? = some (.cells #[.pointer (some ⟨p, 0, none⟩)] 198 (0, 0))) ∧ W_.heap[p]? = some (.cells (LsC idv { s with rem := true }) 201 (0, 0)) ∧ MapI W_ mb g)) (ds := []) (bm 13 0) (by kernel_rfl) rfl (by kernel_rfl) ⟨⟨hXa.head, hxbA⟩, hpcA, hXa.map.below (below_drew (Below.refl _ wA))⟩ (fun hHeld => ?_)
      refine pu_ 0 (some 23) (bm 13 1) ?_
      refine pu_ 1 (some 24) (bm 13 3) ?_
      refine pu_ 2 (some 25) (bm 13 7) ?_
      refine ta_ 3 (some 26) (bm 13 15) hHeld (fun _ hSw => (blk_cell hSw.1.1 2).trans rfl) ?_
      refine ta_ 4 (some 27) (bm 13 31) hHeld (fun _ hSw => (blk_cell hSw.1.2 0).trans rfl) ?_
      refine pu_ 5 (some 28) (bm 13 63) ?_
      refine pu_ 6 (some 29) (bm 13 127) ?_
      refine tb_ 7 (some 30) (bm 13 255) hHeld ?_ (hy := by intro w' hSw; have z8 : w'.cell? ⟨p, 8, none⟩ = some (.int .i64 s.node) := blk_cell hSw.2.1 8; go_simp; with_reducible rfl)
      refine tb_ 8 (some 31) (bm 13 511) hHeld ?_ (hy := by intro w' hSw; have hz8 : (Instr.lookup 80 (.map (some mb)) (.int .i64 s.node) false).run Tryz.prog w' = .ok (rowV g s.node) w' := hSw.2.2.lookup (P := Tryz.prog) (t := 80) Tryz.underlying80 Tryz.underlying3 (Tryz.zeroValue79 w') s.node; (try rw [hrv] at hz8); go_simp; with_reducible rfl)
      refine pu_ 10 (some 33) (bm 13 1535) ?_
      refine one_ (i := 9) (N := (some 32)) (bm 13 2047) rfl rfl (by kernel_rfl) (by decide) (fun K hK => ?_)
      refine goes_ Tryz.func131 (by kernel_rfl) rfl #[.slice Ar (ptsL ps (idxL ls s.node)).length cr] (by rfl) rfl rfl (by try simp only [List.map_toArray, List.map_cons, List.map_nil]; first | done | rfl) ?_
      refine (cloneP _ Ar cr _ (Kd.C_below hCr (below_drew (Below.refl _ _))) (by have := hil.out; omega)).mono ?_
      rintro e w5 ⟨A5, c5, rfl, hl5, hR5, hB5⟩
      refine ⟨_, rfl, ?_⟩
      refine hK.out _ _ ⟨⟨blk_below hHeld.1.1 hB5, blk_below hHeld.1.2 hB5⟩, blk_below hHeld.2.1 hB5, hHeld.2.2.below hB5⟩ (fun hHeld => ?_)
      clear hK K
      refine norm_ (a' := ?_) ?_ ?_
      rotate_left
      · show Act.put _ (some 32) _ = _
        simp only [Act.put, List.setIfInBounds_toArray, List.set_cons_zero, List.set_cons_succ]
        rfl
      refine one_ (i := 11) (N := (some 34)) (bm 13 4095) rfl rfl (by kernel_rfl) (by decide) (fun K hK => ?_)
      obtain ⟨b5, cc5, e5, hb5, hbs5, -⟩ := Kd.R_form hR5 hpos.out
      simp only [Value.slice.injEq, true_and] at e5
      obtain ⟨rfl, rfl⟩ := e5
      have hA5 : Below wA.heap.size wA w5 := below_then (below_drew (Below.refl _ wA)) (Nat.le_refl _) hB5
      have hbs5' : wA.heap.size ≤ b5 := hb5
      refine goes_ Tryz.func130 (by kernel_rfl) rfl #[.slice (some ⟨b5, 0, none⟩) (ptsL ps (idxL ls s.node)).length c5, .func (.func 132) #[] #[.pointer (some ⟨xb, 0, none⟩)]] (by rfl) rfl rfl (by try simp only [List.map_toArray, List.map_cons, List.map_nil]; first | done | rfl) ?_
      refine (delfP xb (ptsL ps (idxL ls s.node)) (fun y => y == p) b5 c5 wA.heap.size (fun k => k = b5) w5 (by have := hil.out; omega) (Kd.R_mono (Kd.R_tight rfl hR5) (fun k hk => (Option.some.inj hk))) (fun y hy W hS => ?_)).mono ?_
      · obtain ⟨cs, hcs⟩ := hentA.out y hy
        have hyl := blk_lt hcs
        have hpl := blk_lt hpcA
        have hxl := blk_lt hxbA
        exact kill1_any xb p y W (hS.blk (blk_below hxbA hA5) (by omega)) (hS.blk (blk_below hcs hA5) (by omega)) (hS.blk (blk_below hpcA hA5) (by omega))
      rintro e w6 ⟨rfl, hR6, hS6⟩
      refine ⟨_, rfl, ?_⟩
      refine hK.out _ _ ⟨⟨hS6.blk hHeld.1.1 (by have := blk_lt hXa.head; omega), hS6.blk hHeld.1.2 (by have := blk_lt hxbA; omega)⟩, hS6.blk hHeld.2.1 (by have := blk_lt hpcA; omega), hHeld.2.2.ste hS6 (by have := (hXa.lo mb (by rw [hXa.om]; decide)).2; omega)⟩ (fun hHeld => ?_)
      clear hK K
      refine norm_ (a' := ?_) ?_ ?_
      rotate_left
      · show Act.put _ (some 34) _ = _
        simp only [Act.put, List.setIfInBounds_toArray, List.set_cons_zero, List.set_cons_succ]
        rfl
      refine pu_ 12 (some 6) (bm 13 8191) ?_
      refine done_ (by kernel_rfl) ?_
      have h16 : Ste (fun k => own k = 6 + 2 * s.node.toNat) wA w6.drew := ((Ste.of_below hA5).trans hS6 (fun k hk => .inr (by have : k = b5 := hk; omega))).below (below_drew (Below.refl _ _))
      have hne6 : ∀ {k c : Nat}, own k = c → c ≠ 6 + 2 * s.node.toNat → ¬ own k = 6 + 2 * s.node.toNat := fun hk hc e => hc (hk.symm.trans e)
      have hL6 : w6.drew.heap[L]? = _ := h16.blk hXa.head (hne6 hXa.pl (by omega))
      have hxb6 : w6.drew.heap[xb]? = some (.cells #[.pointer (some ⟨p, 0, none⟩)] 198 (0, 0)) := hHeld.1.2
      have hp6 : w6.drew.heap[p]? = some (.cells (LsC idv { s with rem := true }) 201 (0, 0)) := hHeld.2.1
      have hM6 : MapI w6.drew mb g := hHeld.2.2.below (below_drew (Below.refl _ _))
      have hnd6 := hXa.nd
      generalize hfs : (ptsL ps (idxL ls s.node)).filter (fun y => !(y == p)) = fs at *
      replace hfs := hd_ hfs
      clear hHeld hR5 hB5 hA5 hCr hRr hrv hentA hpos hne6
      by_cases hfe : fs = []
      · have hfl : fs.length = 0 := by rw [hfe]; rfl
        have hq0 : ((fs.length : Int) == 0) = true := by rw [hfl]; rfl
        obtain ⟨es, cl, hup, hMu⟩ := hM6.delete (P := Tryz.prog) (t := 80) Tryz.underlying80 Tryz.underlying3 s.node 0 3
        replace hfe := hd_ hfe
        clear hfl
        go_wp2
        refine start_ (n := 9) (S := (fun W_ => W_.heap[L]? = some (.cells #[.pointer (some ⟨ib, 0, none⟩), va, .map (some mb)] 82 (0, 0)) ∧ W_.heap[xb]? = some (.cells #[.pointer (some ⟨p, 0, none⟩)] 198 (0, 0)) ∧ W_.heap[p]? = some (.cells (LsC idv { s with rem := true }) 201 (0, 0)))) (ds := [8]) (bm 9 0) (by kernel_rfl) rfl (by kernel_rfl) ⟨hL6, hxb6, hp6⟩ (fun hHeld => ?_)
        refine pu_ 0 (some 38) (bm 9 1) ?_
        refine pu_ 1 (some 39) (bm 9 3) ?_
        refine pu_ 2 (some 40) (bm 9 7) ?_
        refine ta_ 3 (some 41) (bm 9 15) hHeld (fun _ hSw => (blk_cell hSw.1 2).trans rfl) ?_
        refine ta_ 4 (some 42) (bm 9 31) hHeld (fun _ hSw => (blk_cell hSw.2.1 0).trans rfl) ?_
        refine pu_ 5 (some 43) (bm 9 63) ?_
        refine pu_ 6 (some 44) (bm 9 127) ?_
        refine tb_ 7 (some 45) (bm 9 255) hHeld ?_ (hy := by intro w' hSw; have z8 : w'.cell? ⟨p, 8, none⟩ = some (.int .i64 s.node) := blk_cell hSw.2.2 8; go_simp; with_reducible rfl)
        refine last_ (i := 8) (N := none) (bm 9 511) rfl rfl (by kernel_rfl) (by decide) (fun K hK => ?_)
        refine value_ (w1 := w6.drew.putObj mb (.map es cl)) (v := .tuple #[]) (by rfl) rfl ?_ ?_
        · have hz8 := hup
          go_simp
        refine hK.out _ _ ?_
        clear hK K
        refine norm_ (a' := ?_) ?_ ?_
        rotate_left
        · show Act.put _ none _ = _
          rfl
        refine done_ (by kernel_rfl) ?_
        obtain ⟨ownC, hoC, hSC, hXc⟩ := hXa.rowp (n := s.node) (v1 := .slice (some ⟨b5, 0, none⟩) fs.length c5) (xs := fs) (g' := delG g s.node) (w1 := w6.drew) (w' := w6.drew.putObj mb (.map es cl)) hnod1.out hkeys.out (Kd.R_below (Kd.R_lower hR6 hXa.base.size) (below_drew (Below.refl _ _))) (h16.mono (fun k hk => .inl hk)) (.inr ⟨b5, rfl, hbs5'⟩) (putObj_ste _) hMu (delG_keys s.node g hnd6).1 (fun m => by rw [getG_del _ _ _ hnd6, if_pos hfe.out])
        have hSC' : LiStep own ownC wA (w6.drew.putObj mb (.map es cl)) := ⟨hSC, ownN_new hoC⟩
        have hXf : LiC ownC w0 (w6.drew.putObj mb (.map es cl)) L ps (ls.set j { s with rem := true }) := LiX.c (ib := ib) (mb := mb) (va := va) (g := delG g s.node) (rows := rowsU (fun n => ptsL ps (idxL ls n)) s.node fs) (by rw [hl512.out.2.1]; exact hXc) hl512.out.2.2 (fun n => hrw.out n) hl512.out.1 hdl.out
        clear hR6 hMu hoC hSC hXc hXa hS6 h16 hL6 hxb6 hp6 hM6
        go_wp2
        go_ret
        exact hfin.out ownC _ hXf (hST.trans hSC')
      · have hq0 : ((fs.length : Int) == 0) = false := by
          have := List.length_pos_iff.2 hfe
          simp; omega
        obtain ⟨es, cl, hup, hMu⟩ := hM6.update (P := Tryz.prog) (t := 80) Tryz.underlying80 Tryz.underlying3 s.node (.slice (some ⟨b5, 0, none⟩) fs.length c5)
        replace hfe := hd_ hfe
        go_wp2
        refine start_ (n := 10) (S := (fun W_ => W_.heap[L]? = some (.cells #[.pointer (some ⟨ib, 0, none⟩), va, .map (some mb)] 82 (0, 0)) ∧ W_.heap[xb]? = some (.cells #[.pointer (some ⟨p, 0, none⟩)] 198 (0, 0)) ∧ W_.heap[p]? = some (.cells (LsC idv { s with rem := true }) 201 (0, 0)))) (ds := [9]) (bm 10 0) (by kernel_rfl) rfl (by kernel_rfl) ⟨hL6, hxb6, hp6⟩ (fun hHeld => ?_)
        refine pu_ 0 (some 46) (bm 10 1) ?_
        refine pu_ 1 (some 47) (bm 10 3) ?_
        refine pu_ 2 (some 48) (bm 10 7) ?_
        refine ta_ 3 (some 49) (bm 10 15) hHeld (fun _ hSw => (blk_cell hSw.1 2).trans rfl) ?_
        refine ta_ 4 (some 50) (bm 10 31) hHeld (fun _ hSw => (blk_cell hSw.2.1 0).trans rfl) ?_
        refine pu_ 5 (some 51) (bm 10 63) ?_
        refine pu_ 6 (some 52) (bm 10 127) ?_
        refine tb_ 7 (some 53) (bm 10 255) hHeld ?_ (hy := by intro w' hSw; have z8 : w'.cell? ⟨p, 8, none⟩ = some (.int .i64 s.node) := blk_cell hSw.2.2 8; go_simp; with_reducible rfl)
        refine pu_ 8 (some 54) (bm 10 511) ?_
        refine last_ (i := 9) (N := none) (bm 10 1023) rfl rfl (by kernel_rfl) (by decide) (fun K hK => ?_)
        refine skip_ (w1 := w6.drew.putObj mb (.map es cl)) (by rfl) rfl ?_ ?_
        · have hz8 := hup
          go_simp
        refine hK.out _ _ ?_
        clear hK K
        refine done_ (by kernel_rfl) ?_
        obtain ⟨ownC, hoC, hSC, hXc⟩ := hXa.rowp (n := s.node) (v1 := .slice (some ⟨b5, 0, none⟩) fs.length c5) (xs := fs) (g' := updG g s.node (.slice (some ⟨b5, 0, none⟩) fs.length c5)) (w1 := w6.drew) (w' := w6.drew.putObj mb (.map es cl)) hnod1.out hkeys.out (Kd.R_below (Kd.R_lower hR6 hXa.base.size) (below_drew (Below.refl _ _))) (h16.mono (fun k hk => .inl hk)) (.inr ⟨b5, rfl, hbs5'⟩) (putObj_ste _) hMu (updG_keys s.node _ g hnd6).1 (fun m => by rw [getG_upd, if_neg hfe.out])
        have hSC' : LiStep own ownC wA (w6.drew.putObj mb (.map es cl)) := ⟨hSC, ownN_new hoC⟩
        have hXf : LiC ownC w0 (w6.drew.putObj mb (.map es cl)) L ps (ls.set j { s with rem := true }) := LiX.c (ib := ib) (mb := mb) (va := va) (g := updG g s.node (.slice (some ⟨b5, 0, none⟩) fs.length c5)) (rows := rowsU (fun n => ptsL ps (idxL ls n)) s.node fs) (by rw [hl512.out.2.1]; exact hXc) hl512.out.2.2 (fun n => hrw.out n) hl512.out.1 hdl.out
        clear hR6 hMu hoC hSC hXc hXa hS6 h16 hL6 hxb6 hp6 hM6
        go_wp2
        go_ret
        exact hfin.out ownC _ hXf (hST.trans hSC')
end Go.Proofs.YtgopddjmmoohdaaGreatDoor
