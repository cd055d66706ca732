/- OpTexts: whether an operation is right, its text, its text read again; the law's call returns true. -/
import Derived.Test.YtmjedjhgomlfiaaGreatDoorOpParse
import Derived.Test.YtmjedjhgomlfiaaGreatDoorROp
import Derived.Lib.ItoaLen
import Derived.Test.YtmjedjhgomlfiaaGreatDoorRText
import Derived.Test.YtmjedjhgomlfiaaGreatDoorOpAwake
import Derived.Deep.RegionWith
import Derived.Deep.MidRow
namespace Go.Proofs.YtmjedjhgomlfiaaGreatDoor
open Go.RowKit Go.Proofs.YtmjedjhgomlfiaaGreatDoorW.PrintWords Go.Lib

def OpV.nums (x : OpV) : List Int := [x.a, x.b, x.c, x.d]
/-- The number at place i may stand. -/
def numOk (k : Int) (i : Nat) (n : Int) : Bool := !((decide (1000000 < n) || decide (n < -1000000)) || (decide (k ≤ (i : Int)) && !decide (n = 0)))
/-- The numbers from place i on may stand. -/
def numsOk (k : Int) : Nat → List Int → Bool
  | _, [] => true
  | i, n :: r => numOk k i n && numsOk k (i + 1) r
/-- The word may stand. -/
def wordOk (x : OpV) : Bool := decide (x.s = ⟨#[]⟩) || (wordedW x.code && rightW x.s.data.toList)
def rightO (x : OpV) : Bool := there x.code && (wordOk x && numsOk (numbersW x.code) 0 x.nums)

theorem list_any (x : OpV) (w : World) : Calls Tryz.prog 27 #[x.val] w fun e w' => e = .returned (.agg #[.int .i64 x.a, .int .i64 x.b, .int .i64 x.c, .int .i64 x.d]) ∧ Below w.heap.size w w' := by
  simp only [OpV.val]
  go_enter Tryz.func27, Tryz.ntmps27
  go_wp2
  refine bodyPost_ret (results_cell_row rfl _ _ _ _ _ _ _ rfl (heap_alloc2_new _ _ _) Tryz.underlying68 rfl (by kernel_rfl)) rfl ?_
  exact ⟨rfl, ((Below.refl w.heap.size w).alloc (Nat.le_refl _) _).alloc (by simp) _⟩

theorem index92 (a b c d : Int) (i : Nat) (n : Int) (hi : i < 4) (h : ([a, b, c, d] : List Int)[i]? = some n) (W : World) :
    (Instr.index 68 (.agg #[.int .i64 a, .int .i64 b, .int .i64 c, .int .i64 d]) (.int .i64 (i : Int))).run Tryz.prog W = .ok (.int .i64 n) W := by
  refine run_index_cell W 68 3 4 _ .i64 i _ Tryz.underlying68 hi (by kernel_rfl) (fun off h => run_part_cell W Tryz.underlying3 rfl h) ?_
  have : i = 0 ∨ i = 1 ∨ i = 2 ∨ i = 3 := by omega
  rcases this with rfl | rfl | rfl | rfl <;> simp at h <;> subst h <;> rfl

set_option maxRecDepth 100000 in
set_option maxHeartbeats 3200000 in
theorem oright_any (x : OpV) (w : World) (hO : LayO w) : Calls Tryz.prog 25 #[x.val] w fun e w' => e = .returned (.bool (rightO x)) ∧ Below w.heap.size w w' := by
  have hth := fun W => there_any x.code W
  have hwo := fun W h => worded_any x.code W h
  have hri := fun W => right_any x.s W
  have hli := fun W => list_any x W
  simp only [OpV.val] at hli ⊢
  have hnu := fun W h => numbers_any x.code W h
  have hbo := fun X => (Below.refl w.heap.size w).alloc (Nat.le_refl _) X
  have hX0 := fun X => heap_alloc_new w X
  cases hc : there x.code with
  | false =>
    have HR : Hid (rightO x = false) := ⟨by rw [rightO, hc]; rfl⟩
    rw [hc] at hth
    clear hc
    go_enter Tryz.func25, Tryz.ntmps25
    go_wp2_with (go_at_call 47; refine (hth _).mono ?_; rintro e w1 ⟨rfl, rfl⟩)
    go_ret
    exact ⟨by rw [HR.out]; rfl, hbo _⟩
  | true =>
    rw [hc] at hth
    cases hw : wordOk x with
    | false =>
      have HR : Hid (rightO x = false) := ⟨by rw [rightO, hc, hw]; rfl⟩
      rw [wordOk, Bool.or_eq_false_iff, decide_eq_false_iff_not, Bool.and_eq_false_iff] at hw
      obtain ⟨hs, hw⟩ := hw
      have he : x.s.toList.isEmpty = false := by
        cases h : x.s.toList.isEmpty with
        | false => rfl
        | true => exact absurd (toList_inj (a := x.s) (b := ⟨#[]⟩) ((List.isEmpty_iff.1 h).trans (ByteArray.toList_eq ⟨#[]⟩).symm)) hs
      clear hs hc
      cases hwd : wordedW x.code with
      | false =>
        rw [hwd] at hwo
        clear hw hwd
        go_enter Tryz.func25, Tryz.ntmps25
        go_wp2_with (first
          | (go_at_call 47; refine (hth _).mono ?_; rintro e w1 ⟨rfl, rfl⟩)
          | (go_at_call 30; refine (hwo _ (hO.below (hbo _))).mono ?_; rintro e w1 ⟨rfl, rfl⟩))
        go_ret
        exact ⟨by rw [HR.out]; rfl, hbo _⟩
      | true =>
        have hr : rightW x.s.data.toList = false := by simpa [hwd] using hw
        rw [hwd] at hwo
        rw [hr] at hri
        clear hw hwd hr
        go_enter Tryz.func25, Tryz.ntmps25
        go_wp2_with (first
          | (go_at_call 47; refine (hth _).mono ?_; rintro e w1 ⟨rfl, rfl⟩)
          | (go_at_call 30; refine (hwo _ (hO.below (hbo _))).mono ?_; rintro e w1 ⟨rfl, rfl⟩)
          | (go_at_call 48; refine (hri _).mono ?_; rintro e w2 ⟨rfl, hB2⟩))
        go_ret
        exact ⟨by rw [HR.out]; rfl, below_then (hbo _) (hbo _).size hB2⟩
    | true =>
      have HR : Hid (rightO x = numsOk (numbersW x.code) 0 x.nums) := ⟨by rw [rightO, hc, hw]; rfl⟩
      clear hc
      cases he : x.s.toList.isEmpty with
      | true =>
        clear hw
        go_enter Tryz.func25, Tryz.ntmps25
        go_wp2_with (first
          | (go_at_call 47; refine (hth _).mono ?_; rintro e w1 ⟨rfl, rfl⟩)
          | (go_at_call 27; refine (hli _).mono ?_; rintro e w3 ⟨rfl, hB3⟩; have hC3 := below_then (hbo _) (hbo _).size hB3; have hX3 := (hB3.block _ (blk_lt (hX0 _))).trans (hX0 _)))
        have hO3 := hO.below hC3
        have hk := hnu w3 hO3
        have hx0 : w3.cell? ⟨w.heap.size, 0, none⟩ = some (.int .i64 x.code) := blk_cell hX3 0
        go_loopw [27] (fun v wr => ∃ i : Nat, i ≤ 4 ∧ v = .int .i64 i ∧ wr = w3 ∧ Hid (numsOk (numbersW x.code) 0 x.nums = numsOk (numbersW x.code) i (x.nums.drop i))) (fun v _ => 4 - (intOf v).toNat)
        case atStart => exact ⟨0, by omega, rfl, rfl, ⟨rfl⟩⟩
        case round =>
          obtain ⟨i, hi, rfl, rfl, HN⟩ := hrel
          by_cases hlt : i < 4
          · obtain ⟨n, hn⟩ : ∃ n, x.nums[i]? = some n := ⟨_, List.getElem?_eq_getElem (by show i < 4; exact hlt)⟩
            have hix := index92 x.a x.b x.c x.d i n hlt hn
            have HD : Hid (numsOk (numbersW x.code) i (x.nums.drop i) = (numOk (numbersW x.code) i n && numsOk (numbersW x.code) (i + 1) (x.nums.drop (i + 1)))) := ⟨by
              have h := List.getElem?_eq_some_iff.1 hn
              rw [List.drop_eq_getElem_cons h.1, h.2, numsOk]⟩
            clear hn
            generalize numbersW x.code = k at *
            by_cases a1 : 1000000 < n
            · have HB2 : Hid (numsOk k 0 x.nums = false) := ⟨by rw [HN.out, HD.out, numOk, decide_eq_true a1]; rfl⟩
              go_wp2_with (go_at_call 28; refine hk.mono ?_; rintro e w4 ⟨rfl, rfl⟩)
              go_ret
              exact ⟨by rw [HR.out, HB2.out]; rfl, hC3⟩
            · by_cases a2 : n < -1000000
              · have HB2 : Hid (numsOk k 0 x.nums = false) := ⟨by rw [HN.out, HD.out, numOk, decide_eq_true a2, Bool.or_true]; rfl⟩
                go_wp2_with (go_at_call 28; refine hk.mono ?_; rintro e w4 ⟨rfl, rfl⟩)
                go_ret
                exact ⟨by rw [HR.out, HB2.out]; rfl, hC3⟩
              · by_cases a3 : k ≤ (i : Int)
                · by_cases a4 : n = 0
                  · have HG : Hid (numsOk k 0 x.nums = numsOk k (i + 1) (x.nums.drop (i + 1))) := ⟨by rw [HN.out, HD.out, numOk, decide_eq_false a1, decide_eq_false a2, decide_eq_true a4]; simp⟩
                    subst a4
                    go_wp2_with (go_at_call 28; refine hk.mono ?_; rintro e w4 ⟨rfl, rfl⟩)
                    go_roundw
                    case rel => exact ⟨i + 1, by omega, by go_num, trivial, HG⟩
                    case measure => simp [intOf]; omega
                  · have HB2 : Hid (numsOk k 0 x.nums = false) := ⟨by rw [HN.out, HD.out, numOk, decide_eq_true a3, decide_eq_false a4]; simp⟩
                    have a5 : (n == 0) = false := by rw [beq_eq_false_iff_ne]; exact a4
                    clear a4
                    go_wp2_with (go_at_call 28; refine hk.mono ?_; rintro e w4 ⟨rfl, rfl⟩)
                    go_ret
                    exact ⟨by rw [HR.out, HB2.out]; rfl, hC3⟩
                · have HG : Hid (numsOk k 0 x.nums = numsOk k (i + 1) (x.nums.drop (i + 1))) := ⟨by rw [HN.out, HD.out, numOk, decide_eq_false a1, decide_eq_false a2, decide_eq_false a3]; simp⟩
                  go_wp2_with (go_at_call 28; refine hk.mono ?_; rintro e w4 ⟨rfl, rfl⟩)
                  go_roundw
                  case rel => exact ⟨i + 1, by omega, by go_num, trivial, HG⟩
                  case measure => simp [intOf]; omega
          · obtain rfl : i = 4 := by omega
            have HB2 : Hid (numsOk (numbersW x.code) 0 x.nums = true) := ⟨by rw [HN.out]; rfl⟩
            go_wp2
            go_ret
            exact ⟨by rw [HR.out, HB2.out]; rfl, hC3⟩
      | false =>
        have hw2 : wordedW x.code = true ∧ rightW x.s.data.toList = true := by
          have hs : ¬ x.s = ⟨#[]⟩ := by
            intro h; rw [h, ByteArray.toList_eq] at he; simp at he
          rw [wordOk, decide_eq_false hs, Bool.false_or, Bool.and_eq_true] at hw
          exact hw
        rw [hw2.1] at hwo
        rw [hw2.2] at hri
        clear hw hw2
        go_enter Tryz.func25, Tryz.ntmps25
        go_wp2_with (first
          | (go_at_call 47; refine (hth _).mono ?_; rintro e w1 ⟨rfl, rfl⟩)
          | (go_at_call 30; refine (hwo _ (hO.below (hbo _))).mono ?_; rintro e w1 ⟨rfl, rfl⟩)
          | (go_at_call 48; refine (hri _).mono ?_; rintro e w2 ⟨rfl, hB2⟩; have hC2 := below_then (hbo _) (hbo _).size hB2; have hX2 := (hB2.block _ (blk_lt (hX0 _))).trans (hX0 _))
          | (refine gate_ (.load 38 (.tmp 1)) rfl ?_; refine wpList_load_row rfl 38 (.tmp 1) rfl _ rfl _ _ _ _ hX2 Tryz.underlying38 rfl info38 ?_)
          | (go_at_call 27; refine (hli _).mono ?_; rintro e w3 ⟨rfl, hB3⟩; have hC3 := below_then hC2 hC2.size hB3; have hX3 := (hB3.block _ (blk_lt hX2)).trans hX2))
        have hO3 := hO.below hC3
        have hk := hnu w3 hO3
        have hx0 : w3.cell? ⟨w.heap.size, 0, none⟩ = some (.int .i64 x.code) := blk_cell hX3 0
        go_loopw [27] (fun v wr => ∃ i : Nat, i ≤ 4 ∧ v = .int .i64 i ∧ wr = w3 ∧ Hid (numsOk (numbersW x.code) 0 x.nums = numsOk (numbersW x.code) i (x.nums.drop i))) (fun v _ => 4 - (intOf v).toNat)
        case atStart => exact ⟨0, by omega, rfl, rfl, ⟨rfl⟩⟩
        case round =>
          obtain ⟨i, hi, rfl, rfl, HN⟩ := hrel
          by_cases hlt : i < 4
          · obtain ⟨n, hn⟩ : ∃ n, x.nums[i]? = some n := ⟨_, List.getElem?_eq_getElem (by show i < 4; exact hlt)⟩
            have hix := index92 x.a x.b x.c x.d i n hlt hn
            have HD : Hid (numsOk (numbersW x.code) i (x.nums.drop i) = (numOk (numbersW x.code) i n && numsOk (numbersW x.code) (i + 1) (x.nums.drop (i + 1)))) := ⟨by
              have h := List.getElem?_eq_some_iff.1 hn
              rw [List.drop_eq_getElem_cons h.1, h.2, numsOk]⟩
            clear hn
            generalize numbersW x.code = k at *
            by_cases a1 : 1000000 < n
            · have HB2 : Hid (numsOk k 0 x.nums = false) := ⟨by rw [HN.out, HD.out, numOk, decide_eq_true a1]; rfl⟩
              go_wp2_with (go_at_call 28; refine hk.mono ?_; rintro e w4 ⟨rfl, rfl⟩)
              go_ret
              exact ⟨by rw [HR.out, HB2.out]; rfl, hC3⟩
            · by_cases a2 : n < -1000000
              · have HB2 : Hid (numsOk k 0 x.nums = false) := ⟨by rw [HN.out, HD.out, numOk, decide_eq_true a2, Bool.or_true]; rfl⟩
                go_wp2_with (go_at_call 28; refine hk.mono ?_; rintro e w4 ⟨rfl, rfl⟩)
                go_ret
                exact ⟨by rw [HR.out, HB2.out]; rfl, hC3⟩
              · by_cases a3 : k ≤ (i : Int)
                · by_cases a4 : n = 0
                  · have HG : Hid (numsOk k 0 x.nums = numsOk k (i + 1) (x.nums.drop (i + 1))) := ⟨by rw [HN.out, HD.out, numOk, decide_eq_false a1, decide_eq_false a2, decide_eq_true a4]; simp⟩
                    subst a4
                    go_wp2_with (go_at_call 28; refine hk.mono ?_; rintro e w4 ⟨rfl, rfl⟩)
                    go_roundw
                    case rel => exact ⟨i + 1, by omega, by go_num, trivial, HG⟩
                    case measure => simp [intOf]; omega
                  · have HB2 : Hid (numsOk k 0 x.nums = false) := ⟨by rw [HN.out, HD.out, numOk, decide_eq_true a3, decide_eq_false a4]; simp⟩
                    have a5 : (n == 0) = false := by rw [beq_eq_false_iff_ne]; exact a4
                    clear a4
                    go_wp2_with (go_at_call 28; refine hk.mono ?_; rintro e w4 ⟨rfl, rfl⟩)
                    go_ret
                    exact ⟨by rw [HR.out, HB2.out]; rfl, hC3⟩
                · have HG : Hid (numsOk k 0 x.nums = numsOk k (i + 1) (x.nums.drop (i + 1))) := ⟨by rw [HN.out, HD.out, numOk, decide_eq_false a1, decide_eq_false a2, decide_eq_false a3]; simp⟩
                  go_wp2_with (go_at_call 28; refine hk.mono ?_; rintro e w4 ⟨rfl, rfl⟩)
                  go_roundw
                  case rel => exact ⟨i + 1, by omega, by go_num, trivial, HG⟩
                  case measure => simp [intOf]; omega
          · obtain rfl : i = 4 := by omega
            have HB2 : Hid (numsOk (numbersW x.code) 0 x.nums = true) := ⟨by rw [HN.out]; rfl⟩
            go_wp2
            go_ret
            exact ⟨by rw [HR.out, HB2.out]; rfl, hC3⟩
end Go.Proofs.YtmjedjhgomlfiaaGreatDoor

namespace Go.Proofs.YtmjedjhgomlfiaaGreatDoor
open Go.RowKit Go.Proofs.YtmjedjhgomlfiaaGreatDoorW.PrintWords Go.Lib Ref01 Ref19

theorem rnumbers_ge (c : Int) : ∀ m, towncrierref19_Numbers.f (3 + m) c = some (numbersW c)
  | 0 => rnumbers_f c
  | m + 1 => towncrierref19_Numbers.mono c (3 + m) _ (rnumbers_ge c m)
theorem right_f2 (s : ByteArray) : towncrierref01_Right.f (s.size + 2) s = some (rightW s.data.toList) := by
  have hsz : s.size = s.data.toList.length := Lib.size_eq s
  unfold rightW
  rw [towncrierref01_Right.f, ← hsz]
  by_cases h1 : 1 ≤ s.size
  · rw [if_neg (by omega), towncrierref01_Right.j0]
    by_cases h8 : s.size ≤ 8
    · rw [if_neg (by simp; omega)]
      have h0 := right_l0 s h8 s.size 0 (by omega) (s.size + 1) (by omega)
      rw [show ((0 : Nat) : Int) = 0 from rfl, List.drop_zero] at h0
      rw [h0]
      simp [h1, h8]
    · rw [if_pos (by simp; omega)]
      simp [h8]
  · rw [if_pos (by omega), towncrierref01_Right.j0, if_pos rfl]
    simp [h1]
theorem right_ge (s : ByteArray) : ∀ m, towncrierref01_Right.f (s.size + 2 + m) s = some (rightW s.data.toList)
  | 0 => right_f2 s
  | m + 1 => towncrierref01_Right.mono s (s.size + 2 + m) _ (right_ge s m)

theorem oright_l0 (x : OpV) : ∀ (m i : Nat), i + m = 4 → towncrierref19_Right.l0 (x.s.size + 3 + m + 1) x.nums i x.code x.a x.b x.c x.d x.s = some (numsOk (numbersW x.code) i (x.nums.drop i) && wordOk x)
  | 0, i, h => by
    obtain rfl : i = 4 := by omega
    rw [towncrierref19_Right.l0, if_neg (by omega), rworded_f, Option.bind_some, show x.s.size + 3 + 0 = x.s.size + 2 + 1 from rfl, right_ge, Option.bind_some]
    have e : numsOk (numbersW x.code) 4 (x.nums.drop 4) = true := rfl
    rw [e, Bool.true_and, wordOk]
    by_cases hs : x.s = ⟨#[]⟩
    · rw [if_pos (by rw [hs]; exact ByteArray.toList_eq _), decide_eq_true hs]; rfl
    · rw [if_neg (fun q => hs (toList_inj (q.trans (ByteArray.toList_eq ⟨#[]⟩).symm))), decide_eq_false hs, Bool.false_or]
      cases wordedW x.code <;> simp
  | m + 1, i, h => by
    have hi : i < 4 := by omega
    obtain ⟨n, hn⟩ : ∃ n, x.nums[i]? = some n := ⟨_, List.getElem?_eq_getElem (by show i < 4; exact hi)⟩
    have hr : rd x.nums (i : Int) = n := by simp [rd, hn]
    have hD : x.nums.drop i = n :: x.nums.drop (i + 1) := by
      have h := List.getElem?_eq_some_iff.1 hn
      rw [List.drop_eq_getElem_cons h.1, h.2]
    have hw : wrap64 ((i : Int) + 1) = ((i + 1 : Nat) : Int) := by rw [IntWalk.wrap64_in _ (by omega)]; omega
    have hnum := rnumbers_ge x.code (x.s.size + m + 1)
    rw [show 3 + (x.s.size + m + 1) = x.s.size + 3 + (m + 1) by omega] at hnum
    have ih := oright_l0 x m (i + 1) (by omega)
    rw [show x.s.size + 3 + m + 1 = x.s.size + 3 + (m + 1) by omega] at ih
    rw [towncrierref19_Right.l0, if_pos (by omega), if_pos (by omega), if_pos (by show (i : Int) < (4 : Nat); omega), hr, hnum, Option.bind_some, hw, ih, hD, numsOk, numOk]
    by_cases a2 : n < -1000000
    · rw [if_pos a2, decide_eq_true a2]; simp
    · rw [if_neg a2, decide_eq_false a2]
      by_cases a1 : 1000000 < n
      · rw [if_pos (by omega), decide_eq_true a1]; simp
      · rw [if_neg (by omega), decide_eq_false a1]
        by_cases a3 : numbersW x.code ≤ (i : Int)
        · rw [if_pos (by omega), decide_eq_true a3]
          by_cases a4 : n = 0
          · rw [if_pos a4, decide_eq_true a4]; simp
          · rw [if_neg a4, decide_eq_false a4]; simp
        · rw [if_neg (by omega), decide_eq_false a3]; simp
theorem named_ne (c : Int) : (nameW c).toList = [] ↔ there c = false := by
  cases hc : there c with
  | true =>
    obtain ⟨j, rfl, h1, h2⟩ := there_nat hc
    have : ∀ j : Fin 18, 1 ≤ j.val → (nameW (j.val : Int)).toList.isEmpty = false := by decide +kernel
    have := this ⟨j, h2⟩ h1
    constructor
    · intro h; rw [h] at this; cases this
    · intro h; cases h
  | false =>
    rw [nameW, hc]
    exact ⟨fun _ => rfl, fun _ => ByteArray.toList_eq _⟩
theorem oright_f (x : OpV) : towncrierref19_Right.f (x.s.size + 8) x.code x.a x.b x.c x.d x.s = some (rightO x) := by
  rw [towncrierref19_Right.f, rname_f, Option.bind_some, rightO]
  cases hc : there x.code with
  | false => rw [if_pos ((named_ne _).2 hc)]; rfl
  | true =>
    rw [if_neg (fun h => by rw [(named_ne _).1 h] at hc; cases hc)]
    have := oright_l0 x 4 0 (by decide)
    rw [Bool.true_and, Bool.and_comm]
    exact this
theorem roright_any (x : OpV) (w : World) : Calls Tryz.prog 33 #[x.val] w fun e w' => e = .returned (.bool (rightO x)) ∧ Below w.heap.size w w' :=
  towncrierref19_Right.calls _ _ _ _ _ _ _ _ w (oright_f x)
end Go.Proofs.YtmjedjhgomlfiaaGreatDoor

namespace Go.Proofs.YtmjedjhgomlfiaaGreatDoor
open Go.RowKit Go.Proofs.YtmjedjhgomlfiaaGreatDoorW.PrintWords Go.Lib

/-- A number's text. -/
def numT (n : Int) : ByteArray := ofL (itoa n)
/-- The word that stands for an operation's. -/
def lastT (x : OpV) : List ByteArray := if wordedW x.code = true then [if x.s.toList.isEmpty = true then ⟨#[45]⟩ else x.s] else []
/-- The words of an operation. -/
def wordsO (x : OpV) : List ByteArray := nameW x.code :: ((x.nums.take (numbersW x.code).toNat).map numT ++ lastT x)

theorem R_one (W : World) (base : Nat) (hb : base ≤ W.heap.size) (x : ByteArray) : Kd.string.R 9 (W.alloc (.cells #[.string x] 9)) base (fun _ => True) (.slice (some ⟨W.heap.size, 0, none⟩) 1 1) [x] := by
  refine Kd.R_of_own ?_ (fun _ _ => trivial)
  have h := World.ownsRow_lit (base := base) (e := 9) (size := 1) W #[.string x] 1 hb (by decide) rfl
  simpa [encs] using h

theorem numsOk_all {k : Int} : ∀ {l : List Int} {i : Nat}, numsOk k i l = true → ∀ n ∈ l, -1000000 ≤ n ∧ n ≤ 1000000
  | [], i, _, n, hn => absurd hn (by simp)
  | m :: r, i, h, n, hn => by
    rw [numsOk, Bool.and_eq_true] at h
    rcases List.mem_cons.1 hn with e | e
    · subst e
      have := h.1
      simp [numOk] at this
      omega
    · exact numsOk_all h.2 n e
theorem rightO_parts {x : OpV} (h : rightO x = true) : there x.code = true ∧ wordOk x = true ∧ numsOk (numbersW x.code) 0 x.nums = true := by
  simp [rightO] at h
  exact h
theorem name_size (c : Int) : (nameW c).size ≤ 30 := by
  cases hc : there c with
  | false => rw [nameW, hc, if_neg (by decide)]; decide
  | true =>
    obtain ⟨j, rfl, h1, h2⟩ := there_nat hc
    have : ∀ j : Fin 18, (nameW (j.val : Int)).size ≤ 30 := by decide +kernel
    exact this ⟨j, h2⟩
theorem numT_size {n : Int} (h0 : -1000000 ≤ n) (h1 : n ≤ 1000000) : (numT n).size ≤ 30 := by
  have := itoa_length_le n (by omega) (by omega)
  rw [numT, ofL_size]
  omega
theorem word_size {x : OpV} (h : wordOk x = true) : x.s.size ≤ 30 := by
  rw [wordOk, Bool.or_eq_true, decide_eq_true_eq, Bool.and_eq_true] at h
  rcases h with h | h
  · rw [h]; decide
  · have := h.2
    simp [rightW] at this
    have h9 := Lib.size_eq x.s
    rw [Array.length_toList] at h9
    omega
theorem wordsO_size {x : OpV} (h : rightO x = true) : ∀ y ∈ wordsO x, y.size ≤ 30 := by
  obtain ⟨h1, h2, h3⟩ := rightO_parts h
  intro y hy
  rw [wordsO] at hy
  rcases List.mem_cons.1 hy with e | hy
  · rw [e]; exact name_size _
  · rcases List.mem_append.1 hy with hy | hy
    · obtain ⟨n, hn, rfl⟩ := List.mem_map.1 hy
      have := numsOk_all h3 n (List.mem_of_mem_take hn)
      exact numT_size this.1 this.2
    · rw [lastT] at hy
      by_cases hw : wordedW x.code = true
      · rw [if_pos hw] at hy
        simp at hy
        rw [hy]
        split
        · decide
        · exact word_size h2
      · rw [if_neg hw] at hy; simp at hy
theorem wordsO_length (x : OpV) : (wordsO x).length ≤ 6 := by
  rw [wordsO, List.length_cons, List.length_append, List.length_map, List.length_take]
  have : x.nums.length = 4 := rfl
  have : (lastT x).length ≤ 1 := by rw [lastT]; split <;> simp
  omega
theorem wordsO_join {x : OpV} (h : rightO x = true) : (Lib.join ((wordsO x).map (·.data.toList)) [32]).length ≤ 4294967296 := by
  have h1 := join_short 30 (wordsO x) (wordsO_size h)
  have h2 := wordsO_length x
  have h3 : (wordsO x).length * (30 + 1) ≤ 6 * (30 + 1) := Nat.mul_le_mul_right _ h2
  omega

set_option maxRecDepth 100000 in
set_option maxHeartbeats 3200000 in
theorem otext_any (x : OpV) (w : World) (hO : LayO w) : Calls Tryz.prog 12 #[x.val] w fun e w' => e = .returned (.tuple #[.string (if rightO x = true then joined (wordsO x) else ⟨#[]⟩), .int .i64 (if rightO x = true then 0 else 7)]) ∧ Below w.heap.size w w' := by
  have hri := fun W h => oright_any x W h
  have hli := fun W => list_any x W
  simp only [OpV.val] at hri hli ⊢
  have hbo := fun X => (Below.refl w.heap.size w).alloc (Nat.le_refl _) X
  have hX0 := fun X => heap_alloc_new w X
  cases hr : rightO x with
  | false =>
    rw [hr] at hri
    clear hr
    go_enter Tryz.func12, Tryz.ntmps12
    go_wp2_with (go_at_call 25; refine (hri _ (hO.below (hbo _))).mono ?_; rintro e w1 ⟨rfl, hB1⟩)
    go_ret2
    exact ⟨rfl, below_then (hbo _) (hbo _).size hB1⟩
  | true =>
    have hsz := wordsO_join hr
    have hln := wordsO_length x
    have hnm := fun W h => name_any x.code W h
    have hnu := fun W h => numbers_any x.code W h
    have hwo := fun W h => worded_any x.code W h
    obtain ⟨hth, hwk, hns⟩ := rightO_parts hr
    obtain ⟨n1, n4⟩ := numbersW_range hth
    obtain ⟨n, hn⟩ : ∃ n : Nat, numbersW x.code = n := ⟨(numbersW x.code).toNat, by omega⟩
    have hall := numsOk_all hns
    have hw0 : Hid (wordsO x = nameW x.code :: ((x.nums.take n).map numT ++ lastT x)) := ⟨by rw [wordsO, hn, Int.toNat_natCast]⟩
    rw [hr] at hri
    rw [hn] at hnu n1 n4
    clear hth hwk hns hn hr
    have hjn := fun A c W hA hc => join_any (wordsO x) A c W hA hc (by omega) hsz
    clear hsz
    generalize hnam : nameW x.code = nam at *
    clear hnam
    go_enter Tryz.func12, Tryz.ntmps12
    go_wp2_with (first
      | (go_at_call 25; refine (hri _ (hO.below (hbo _))).mono ?_; rintro e w1 ⟨rfl, hB1⟩; have hC1 := below_then (hbo _) (hbo _).size hB1; have hX1 := (hB1.block _ (blk_lt (hX0 _))).trans (hX0 _); have hx0 : w1.cell? ⟨w.heap.size, 0, none⟩ = some (.int .i64 x.code) := blk_cell hX1 0)
      | (go_at_call 26; refine (hnm _ (hO.below hC1)).mono ?_; rintro e w2 ⟨rfl, rfl⟩; have hC2 := hC1.alloc hC1.size (.cells #[.string nam] 9); have hX2 := (heap_alloc_old w2 (.cells #[.string nam] 9) (blk_lt hX1)).trans hX1; have hR2 := R_one w2 w.heap.size hC1.size nam)
      | (refine gate_ (.load 38 (.tmp 1)) rfl ?_; refine wpList_load_row rfl 38 (.tmp 1) rfl _ rfl _ _ _ _ hX2 Tryz.underlying38 rfl info38 ?_)
      | (go_at_call 27; refine (hli _).mono ?_; rintro e w3 ⟨rfl, hB3⟩; have hC3 := below_then hC2 hC2.size hB3; have hX3 := (hB3.block _ (blk_lt hX2)).trans hX2; have hR3 := Kd.R_below hR2 hB3; have hC4 := hC3.alloc hC3.size (.cells #[.int .i64 x.a, .int .i64 x.b, .int .i64 x.c, .int .i64 x.d] 68); have hX4 := (heap_alloc_old w3 (.cells #[.int .i64 x.a, .int .i64 x.b, .int .i64 x.c, .int .i64 x.d] 68) (blk_lt hX3)).trans hX3; have hR4 := Kd.R_alloc hR3 (.cells #[.int .i64 x.a, .int .i64 x.b, .int .i64 x.c, .int .i64 x.d] 68); have hA4 := heap_alloc_new w3 (.cells #[.int .i64 x.a, .int .i64 x.b, .int .i64 x.c, .int .i64 x.d] 68); have hx4 : (w3.alloc (.cells #[.int .i64 x.a, .int .i64 x.b, .int .i64 x.c, .int .i64 x.d] 68)).cell? ⟨w.heap.size, 0, none⟩ = some (.int .i64 x.code) := blk_cell hX4 0)
      | (go_at_call 28; refine (hnu _ (hO.below hC4)).mono ?_; rintro e w5 ⟨rfl, rfl⟩))
    go_loopw [22, 4] (fun iv lv wr => ∃ (i : Nat) (v0 : Value), i ≤ n ∧ iv = .int .i64 i ∧ v0 = lv ∧ wr.heap[w.heap.size]? = some (.cells #[.int .i64 x.code, .int .i64 x.a, .int .i64 x.b, .int .i64 x.c, .int .i64 x.d, .string x.s] 38 (0, 0)) ∧ wr.heap[w3.heap.size]? = some (.cells #[.int .i64 x.a, .int .i64 x.b, .int .i64 x.c, .int .i64 x.d] 68 (0, 0))
      ∧ Kd.string.R 9 wr w.heap.size (fun _ => True) v0 (nam :: (x.nums.take i).map numT) ∧ Below w.heap.size w wr) (fun iv _ _ => n - (intOf iv).toNat)
    case atStart => exact ⟨0, _, Nat.zero_le _, rfl, rfl, hX4, hA4, hR4, hC4⟩
    case round =>
      obtain ⟨i, v, hi, rfl, rfl, hX, hA, hR, hB⟩ := hrel
      by_cases hlt : i < n
      · obtain ⟨m, hm⟩ : ∃ m, x.nums[i]? = some m := ⟨_, List.getElem?_eq_getElem (by show i < 4; omega)⟩
        have hcm : wr.cell? ⟨w3.heap.size, i, none⟩ = some (.int .i64 m) := by
          rw [blk_cell hA]
          have : i = 0 ∨ i = 1 ∨ i = 2 ∨ i = 3 := by omega
          rcases this with rfl | rfl | rfl | rfl <;> simp [OpV.nums] at hm <;> subst hm <;> rfl
        have hmb := hall m (List.mem_of_getElem? hm)
        have htx := text_any m (by omega) (by omega) wr (hO.below hB).lay.pow
        have HE : Hid (nam :: (x.nums.take (i + 1)).map numT = (nam :: (x.nums.take i).map numT) ++ [numT m]) := ⟨by rw [take_snoc _ _ _ hm, List.map_append]; rfl⟩
        have hll : (nam :: (x.nums.take i).map numT).length ≤ 5 := by
          rw [List.length_cons, List.length_map, List.length_take]
          have : x.nums.length = 4 := rfl
          omega
        generalize (nam :: (x.nums.take i).map numT) = ls at *
        clear hm hmb
        go_wp2_with (first
          | (go_at_call 29; refine htx.mono ?_; rintro e w5 ⟨rfl, hB5⟩; have hC5 := below_then hB hB.size hB5; have hX5 := (hB5.block _ (blk_lt hX)).trans hX; have hA5 := (hB5.block _ (blk_lt hA)).trans hA; have hR5 := Kd.R_below hR hB5)
          | (at_builtin; refine Kd.R_append Kd.string (w0 := w) w.heap.size rfl (.tmp 26) (.tmp 29) 59 9 (.string ⟨#[]⟩) 16 rfl Tryz.underlying59 info9 rfl (by decide) (by omega) v ls (numT m) [.string (numT m)] (fun _ => True) (fun _ => False) rfl rfl rfl (fun _ hk => hk.elim) (fun _ _ => trivial) hR5 hC5 hC5.size (by omega) ?_; intro v1 w7 hR7 hB7 hg7 hat7; have hX7 := blk_grown hX5 hg7 (Kd.R_ne hR5 hX5 (by decide)); have hA7 := blk_grown hA5 hg7 (Kd.R_ne hR5 hA5 (by decide)); clear hg7 hat7))
        go_roundw
        case rel => exact ⟨i + 1, v1, by omega, by go_num, rfl, hX7, hA7, by rw [HE.out]; exact hR7, hB7⟩
        case measure => simp [intOf]; omega
      · obtain rfl : i = n := by omega
        have hx0 : wr.cell? ⟨w.heap.size, 0, none⟩ = some (.int .i64 x.code) := blk_cell hX 0
        have hx5 : wr.cell? ⟨w.heap.size, 5, none⟩ = some (.string x.s) := blk_cell hX 5
        cases hb : wordedW x.code with
        | false =>
          have HW : Hid (wordsO x = nam :: (x.nums.take i).map numT) := ⟨by rw [hw0.out, lastT, hb, if_neg (by decide), List.append_nil]⟩
          rw [hb] at hwo
          rw [← HW.out] at hR
          obtain ⟨A, cp, rfl, hcp, hCC⟩ := Kd.R_reads hR
          have hj := hjn A cp wr hCC hcp
          have hk := hwo wr (hO.below hB)
          clear hb hwo hjn
          go_wp2_with (first
            | (go_at_call 30; refine hk.mono ?_; rintro e w5 ⟨rfl, rfl⟩)
            | (go_at_call 31; refine hj.mono ?_; rintro e w6 ⟨rfl, hB6⟩))
          go_ret2
          exact ⟨rfl, below_then hB hB.size hB6⟩
        | true =>
          cases he : x.s.toList.isEmpty with
          | true =>
            have HW : Hid (wordsO x = (nam :: (x.nums.take i).map numT) ++ [(⟨#[45]⟩ : ByteArray)]) := ⟨by rw [hw0.out, lastT, hb, if_pos rfl, he]; rfl⟩
            rw [hb] at hwo
            have hk := hwo wr (hO.below hB)
            have hll : (nam :: (x.nums.take i).map numT).length ≤ 5 := by
              rw [List.length_cons, List.length_map, List.length_take]
              have : x.nums.length = 4 := rfl
              omega
            generalize (nam :: (x.nums.take i).map numT) = ls at *
            clear hb hwo
            go_wp2_with (first
              | (go_at_call 30; refine hk.mono ?_; rintro e w5 ⟨rfl, rfl⟩)
              | (at_builtin; refine Kd.R_append Kd.string (w0 := w) w.heap.size rfl (.tmp 41) (.tmp 42) 59 9 (.string ⟨#[]⟩) 16 rfl Tryz.underlying59 info9 rfl (by decide) (by omega) v ls (⟨#[45]⟩ : ByteArray) [.string (⟨#[45]⟩ : ByteArray)] (fun _ => True) (fun _ => False) rfl rfl rfl (fun _ hk => hk.elim) (fun _ _ => trivial) hR hB hB.size (by omega) ?_; intro v1 w7 hR7 hB7 hg7 hat7; rw [← HW.out] at hR7; obtain ⟨A, cp, rfl, hcp, hCC⟩ := Kd.R_reads hR7; have hj := hjn A cp w7 hCC hcp)
              | (go_at_call 31; refine hj.mono ?_; rintro e w6 ⟨rfl, hB6⟩))
            go_ret2
            exact ⟨rfl, below_then hB7 hB7.size hB6⟩
          | false =>
            have HW : Hid (wordsO x = (nam :: (x.nums.take i).map numT) ++ [x.s]) := ⟨by rw [hw0.out, lastT, hb, if_pos rfl, he]; rfl⟩
            rw [hb] at hwo
            have hk := hwo wr (hO.below hB)
            have hll : (nam :: (x.nums.take i).map numT).length ≤ 5 := by
              rw [List.length_cons, List.length_map, List.length_take]
              have : x.nums.length = 4 := rfl
              omega
            generalize (nam :: (x.nums.take i).map numT) = ls at *
            clear hb hwo
            go_wp2_with (first
              | (go_at_call 30; refine hk.mono ?_; rintro e w5 ⟨rfl, rfl⟩)
              | (at_builtin; refine Kd.R_append Kd.string (w0 := w) w.heap.size rfl (.tmp 48) (.tmp 51) 59 9 (.string ⟨#[]⟩) 16 rfl Tryz.underlying59 info9 rfl (by decide) (by omega) v ls x.s [.string x.s] (fun _ => True) (fun _ => False) rfl rfl rfl (fun _ hk => hk.elim) (fun _ _ => trivial) hR hB hB.size (by omega) ?_; intro v1 w7 hR7 hB7 hg7 hat7; rw [← HW.out] at hR7; obtain ⟨A, cp, rfl, hcp, hCC⟩ := Kd.R_reads hR7; have hj := hjn A cp w7 hCC hcp)
              | (go_at_call 31; refine hj.mono ?_; rintro e w6 ⟨rfl, hB6⟩))
            go_ret2
            exact ⟨rfl, below_then hB7 hB7.size hB6⟩
end Go.Proofs.YtmjedjhgomlfiaaGreatDoor

namespace Go.Proofs.YtmjedjhgomlfiaaGreatDoor
open Go.RowKit Go.Proofs.YtmjedjhgomlfiaaGreatDoorW.PrintWords Go.Lib

theorem joined_snoc (ls : List ByteArray) (y : ByteArray) (h : ls ≠ []) : joined (ls ++ [y]) = joined ls ++ (⟨#[32]⟩ : ByteArray) ++ y := by
  have hk : 0 < ls.length := List.length_pos_iff.2 h
  have hy : ((ls ++ [y]).map (·.data.toList))[ls.length]? = some y.data.toList := by simp
  have hj := join_take _ _ _ hy hk
  have e1 : ((ls ++ [y]).map (·.data.toList)).take (ls.length + 1) = (ls ++ [y]).map (·.data.toList) := List.take_of_length_le (by simp)
  have e2 : ((ls ++ [y]).map (·.data.toList)).take ls.length = ls.map (·.data.toList) := by simp
  rw [e1, e2] at hj
  apply toList_inj
  rw [ByteArray.toList_eq, ByteArray.toList_eq, ByteArray.data_append, ByteArray.data_append, Array.toList_append, Array.toList_append, joined, joined, data_ofL, data_ofL, hj]
  simp
theorem joined_one (y : ByteArray) : joined [y] = y := by
  apply toList_inj
  rw [ByteArray.toList_eq, ByteArray.toList_eq, joined, data_ofL]
  simp [Lib.join_one]

set_option maxRecDepth 100000 in
set_option maxHeartbeats 3200000 in
theorem rotext_any (x : OpV) (w : World) : Calls Tryz.prog 16 #[x.val] w fun e w' => e = .returned (.tuple #[.string (if rightO x = true then joined (wordsO x) else ⟨#[]⟩), .int .i64 (if rightO x = true then 0 else 7)]) ∧ Below w.heap.size w w' := by
  have hri := fun W => roright_any x W
  simp only [OpV.val] at hri ⊢
  have hbo := fun X => (Below.refl w.heap.size w).alloc (Nat.le_refl _) X
  have hX0 := fun X => heap_alloc_new w X
  cases hr : rightO x with
  | false =>
    rw [hr] at hri
    clear hr
    go_enter Tryz.func16, Tryz.ntmps16
    go_wp2_with (go_at_call 33; refine (hri _).mono ?_; rintro e w1 ⟨rfl, hB1⟩)
    go_ret2
    exact ⟨rfl, below_then (hbo _) (hbo _).size hB1⟩
  | true =>
    have hnm := fun W => rname_any x.code W
    have hnu := fun W => rnumbers_any x.code W
    have hwo := fun W => rworded_any x.code W
    obtain ⟨hth, hwk, hns⟩ := rightO_parts hr
    have hss := word_size hwk
    have hnsz := name_size x.code
    obtain ⟨n1, n4⟩ := numbersW_range hth
    obtain ⟨n, hn⟩ : ∃ n : Nat, numbersW x.code = n := ⟨(numbersW x.code).toNat, by omega⟩
    have hall := numsOk_all hns
    have hw0 : Hid (wordsO x = nameW x.code :: ((x.nums.take n).map numT ++ lastT x)) := ⟨by rw [wordsO, hn, Int.toNat_natCast]⟩
    rw [hr] at hri
    rw [hn] at hnu n1 n4
    clear hth hwk hns hn hr
    generalize hnam : nameW x.code = nam at *
    clear hnam
    go_enter Tryz.func16, Tryz.ntmps16
    go_wp2_with (first
      | (go_at_call 33; refine (hri _).mono ?_; rintro e w1 ⟨rfl, hB1⟩; have hC1 := below_then (hbo _) (hbo _).size hB1; have hX1 := (hB1.block _ (blk_lt (hX0 _))).trans (hX0 _); have hx0 : w1.cell? ⟨w.heap.size, 0, none⟩ = some (.int .i64 x.code) := blk_cell hX1 0)
      | (go_at_call 34; refine (hnm _).mono ?_; rintro e w2 ⟨rfl, hB2⟩; have hC2 := below_then hC1 hC1.size hB2; have hX2 := (hB2.block _ (blk_lt hX1)).trans hX1; have q1 : w2.cell? ⟨w.heap.size, 1, none⟩ = some (.int .i64 x.a) := blk_cell hX2 1; have q2 : w2.cell? ⟨w.heap.size, 2, none⟩ = some (.int .i64 x.b) := blk_cell hX2 2; have q3 : w2.cell? ⟨w.heap.size, 3, none⟩ = some (.int .i64 x.c) := blk_cell hX2 3; have q4 : w2.cell? ⟨w.heap.size, 4, none⟩ = some (.int .i64 x.d) := blk_cell hX2 4))
    have hC3 := hC2.alloc hC2.size (.cells #[.int .i64 x.a, .int .i64 x.b, .int .i64 x.c, .int .i64 x.d] 3)
    have hX3 := (heap_alloc_old w2 (.cells #[.int .i64 x.a, .int .i64 x.b, .int .i64 x.c, .int .i64 x.d] 3) (blk_lt hX2)).trans hX2
    have hA3 := heap_alloc_new w2 (.cells #[.int .i64 x.a, .int .i64 x.b, .int .i64 x.c, .int .i64 x.d] 3)
    go_loopw [6, 4] (fun iv lv wr => ∃ (i : Nat) (cur : ByteArray), i ≤ n ∧ iv = .int .i64 i ∧ lv = .string cur ∧ wr.heap[w.heap.size]? = some (.cells #[.int .i64 x.code, .int .i64 x.a, .int .i64 x.b, .int .i64 x.c, .int .i64 x.d, .string x.s] 38 (0, 0)) ∧ wr.heap[w2.heap.size]? = some (.cells #[.int .i64 x.a, .int .i64 x.b, .int .i64 x.c, .int .i64 x.d] 3 (0, 0))
      ∧ Hid (cur = joined (nam :: (x.nums.take i).map numT)) ∧ cur.size ≤ 31 * (i + 1) ∧ Below w.heap.size w wr) (fun iv _ _ => n - (intOf iv).toNat)
    case atStart => exact ⟨0, nam, Nat.zero_le _, rfl, rfl, hX3, hA3, ⟨(joined_one nam).symm⟩, by omega, hC3⟩
    case round =>
      obtain ⟨i, cur, hi, rfl, rfl, hX, hA, HJ, hcs, hB⟩ := hrel
      have hx0 : wr.cell? ⟨w.heap.size, 0, none⟩ = some (.int .i64 x.code) := blk_cell hX 0
      by_cases hlt : i < n
      · obtain ⟨m, hm⟩ : ∃ m, x.nums[i]? = some m := ⟨_, List.getElem?_eq_getElem (by show i < 4; omega)⟩
        have hcm : ∀ W : World, W.heap[w2.heap.size]? = some (.cells #[.int .i64 x.a, .int .i64 x.b, .int .i64 x.c, .int .i64 x.d] 3 (0, 0)) → W.cell? ⟨w2.heap.size, i, none⟩ = some (.int .i64 m) := fun W hW => by
          rw [blk_cell hW]
          have : i = 0 ∨ i = 1 ∨ i = 2 ∨ i = 3 := by omega
          rcases this with rfl | rfl | rfl | rfl <;> simp [OpV.nums] at hm <;> subst hm <;> rfl
        have hmb := hall m (List.mem_of_getElem? hm)
        have hts := numT_size hmb.1 hmb.2
        have htx := fun W => rtext_any m (by omega) (by omega) W
        have HE : Hid (joined (nam :: (x.nums.take (i + 1)).map numT) = cur ++ (⟨#[32]⟩ : ByteArray) ++ numT m) := ⟨by
          rw [take_snoc _ _ _ hm, List.map_append, HJ.out]
          exact joined_snoc (nam :: (x.nums.take i).map numT) (numT m) (by simp)⟩
        have hsz32 : (⟨#[32]⟩ : ByteArray).size = 1 := rfl
        have hsum : (cur ++ (⟨#[32]⟩ : ByteArray) ++ numT m).size = cur.size + 1 + (numT m).size := by rw [ByteArray.size_append, ByteArray.size_append, hsz32]
        have hsum1 : (cur ++ (⟨#[32]⟩ : ByteArray)).size = cur.size + 1 := by rw [ByteArray.size_append, hsz32]
        change ∀ W, Calls Tryz.prog 36 #[.int .i64 m] W fun e w' => e = .returned (.string (numT m)) ∧ Below W.heap.size W w' at htx
        generalize numT m = tm at *
        clear hm hmb
        go_wp2_with (first
          | (go_at_call 35; refine (hnu _).mono ?_; rintro e w4 ⟨rfl, hB4⟩; have hC4 := below_then hB hB.size hB4; have hX4 := (hB4.block _ (blk_lt hX)).trans hX; have hA4 := (hB4.block _ (blk_lt hA)).trans hA; have hm4 := hcm _ hA4)
          | (go_at_call 36; refine (htx _).mono ?_; rintro e w5 ⟨rfl, hB5⟩; have hC5 := below_then hC4 hC4.size hB5; have hX5 := (hB5.block _ (blk_lt hX4)).trans hX4; have hA5 := (hB5.block _ (blk_lt hA4)).trans hA4))
        go_roundw
        case rel => exact ⟨i + 1, _, by omega, by go_num, rfl, hX5, hA5, ⟨HE.out.symm⟩, by omega, hC5⟩
        case measure => simp [intOf]; omega
      · obtain rfl : i = n := by omega
        have hx5 : ∀ W : World, W.heap[w.heap.size]? = some (.cells #[.int .i64 x.code, .int .i64 x.a, .int .i64 x.b, .int .i64 x.c, .int .i64 x.d, .string x.s] 38 (0, 0)) → W.cell? ⟨w.heap.size, 5, none⟩ = some (.string x.s) := fun W hW => blk_cell hW 5
        have hy0 : ∀ W : World, W.heap[w.heap.size]? = some (.cells #[.int .i64 x.code, .int .i64 x.a, .int .i64 x.b, .int .i64 x.c, .int .i64 x.d, .string x.s] 38 (0, 0)) → W.cell? ⟨w.heap.size, 0, none⟩ = some (.int .i64 x.code) := fun W hW => blk_cell hW 0
        have hsz32 : (⟨#[32]⟩ : ByteArray).size = 1 := rfl
        have hsum1 : (cur ++ (⟨#[32]⟩ : ByteArray)).size = cur.size + 1 := by rw [ByteArray.size_append, hsz32]
        have hsz2 : (⟨#[32, 45]⟩ : ByteArray).size = 2 := rfl
        cases hb : wordedW x.code with
        | false =>
          have HW : Hid (joined (wordsO x) = cur) := ⟨by rw [hw0.out, lastT, hb, if_neg (by decide), List.append_nil, HJ.out]⟩
          rw [hb] at hwo
          clear hb
          go_wp2_with (first
            | (go_at_call 35; refine (hnu _).mono ?_; rintro e w4 ⟨rfl, hB4⟩; have hC4 := below_then hB hB.size hB4; have hX4 := (hB4.block _ (blk_lt hX)).trans hX; have hm4 := hy0 _ hX4; have hs4 := hx5 _ hX4)
                  | (go_at_call 37; refine (hwo _).mono ?_; rintro e w5 ⟨rfl, hB5⟩; have hC5 := below_then hC4 hC4.size hB5; have hX5 := (hB5.block _ (blk_lt hX4)).trans hX4; have hm5 := hy0 _ hX5; have hs5 := hx5 _ hX5; clear hB4)
                  | (go_at_call 37; refine (hwo _).mono ?_; rintro e w6 ⟨rfl, hB6⟩; have hC6 := below_then hC5 hC5.size hB6; have hX6 := (hB6.block _ (blk_lt hX5)).trans hX5; have hm6 := hy0 _ hX6; have hs6 := hx5 _ hX6))
          go_ret2
          exact ⟨by rw [HW.out]; rfl, hC6⟩
        | true =>
          cases he : x.s.toList.isEmpty with
          | true =>
            have HW : Hid (joined (wordsO x) = cur ++ (⟨#[32, 45]⟩ : ByteArray)) := ⟨by
              rw [hw0.out, lastT, hb, if_pos rfl, he]
              have := joined_snoc (nam :: (x.nums.take i).map numT) ⟨#[45]⟩ (by simp)
              rw [← HJ.out] at this
              refine this.trans ?_
              apply toList_inj
              rw [ByteArray.toList_eq, ByteArray.toList_eq, ByteArray.data_append, ByteArray.data_append, ByteArray.data_append, Array.toList_append, Array.toList_append, Array.toList_append]
              simp⟩
            rw [hb] at hwo
            clear hb
            go_wp2_with (first
              | (go_at_call 35; refine (hnu _).mono ?_; rintro e w4 ⟨rfl, hB4⟩; have hC4 := below_then hB hB.size hB4; have hX4 := (hB4.block _ (blk_lt hX)).trans hX; have hm4 := hy0 _ hX4; have hs4 := hx5 _ hX4)
                  | (go_at_call 37; refine (hwo _).mono ?_; rintro e w5 ⟨rfl, hB5⟩; have hC5 := below_then hC4 hC4.size hB5; have hX5 := (hB5.block _ (blk_lt hX4)).trans hX4; have hm5 := hy0 _ hX5; have hs5 := hx5 _ hX5; clear hB4)
                  | (go_at_call 37; refine (hwo _).mono ?_; rintro e w6 ⟨rfl, hB6⟩; have hC6 := below_then hC5 hC5.size hB6; have hX6 := (hB6.block _ (blk_lt hX5)).trans hX5; have hm6 := hy0 _ hX6; have hs6 := hx5 _ hX6))
            go_ret2
            exact ⟨by rw [HW.out]; rfl, hC6⟩
          | false =>
            have HW : Hid (joined (wordsO x) = cur ++ (⟨#[32]⟩ : ByteArray) ++ x.s) := ⟨by
              rw [hw0.out, lastT, hb, if_pos rfl, he, HJ.out]
              exact joined_snoc (nam :: (x.nums.take i).map numT) x.s (by simp)⟩
            rw [hb] at hwo
            clear hb
            go_wp2_with (first
              | (go_at_call 35; refine (hnu _).mono ?_; rintro e w4 ⟨rfl, hB4⟩; have hC4 := below_then hB hB.size hB4; have hX4 := (hB4.block _ (blk_lt hX)).trans hX; have hm4 := hy0 _ hX4; have hs4 := hx5 _ hX4)
                  | (go_at_call 37; refine (hwo _).mono ?_; rintro e w5 ⟨rfl, hB5⟩; have hC5 := below_then hC4 hC4.size hB5; have hX5 := (hB5.block _ (blk_lt hX4)).trans hX4; have hm5 := hy0 _ hX5; have hs5 := hx5 _ hX5; clear hB4)
                  | (go_at_call 37; refine (hwo _).mono ?_; rintro e w6 ⟨rfl, hB6⟩; have hC6 := below_then hC5 hC5.size hB6; have hX6 := (hB6.block _ (blk_lt hX5)).trans hX5; have hm6 := hy0 _ hX6; have hs6 := hx5 _ hX6))
            go_ret2
            exact ⟨by rw [HW.out]; rfl, hC6⟩
end Go.Proofs.YtmjedjhgomlfiaaGreatDoor

namespace Go.Proofs.YtmjedjhgomlfiaaGreatDoor
open Go.RowKit Go.Proofs.YtmjedjhgomlfiaaGreatDoorW.PrintWords Go.Lib

theorem own_word {y : ByteArray} (h : ∀ b ∈ y.data.toList, b ≠ 32) (hn : y.data.toList ≠ []) : words y = [y] := by
  rw [words_W, W_free h hn, ofL_data]
theorem decDigits_free : ∀ (u : Nat), (∀ b ∈ decDigits u, b ≠ 32) ∧ decDigits u ≠ [] := by
  intro u
  induction u using Nat.strongRecOn with
  | ind u ih =>
    rw [decDigits]
    have hd : ∀ k : Nat, k < 10 → UInt8.ofNat (48 + k) ≠ 32 := by decide
    by_cases h : u < 10
    · rw [dif_pos h]
      refine ⟨fun b hb => ?_, by simp⟩
      rw [List.mem_singleton] at hb; subst hb; exact hd u h
    · rw [dif_neg h]
      refine ⟨fun b hb => ?_, by simp⟩
      rcases List.mem_append.1 hb with hb | hb
      · exact (ih (u / 10) (by omega)).1 b hb
      · rw [List.mem_singleton] at hb; subst hb; exact hd (u % 10) (by omega)
theorem numT_word (n : Int) : words (numT n) = [numT n] := by
  refine own_word ?_ ?_
  · rw [numT, data_ofL, itoa]
    split
    · intro b hb
      rcases List.mem_cons.1 hb with h | h
      · subst h; decide
      · exact (decDigits_free _).1 b h
    · exact (decDigits_free _).1
  · rw [numT, data_ofL, itoa]
    split
    · simp
    · exact (decDigits_free _).2
theorem name_word {c : Int} (h : there c = true) : words (nameW c) = [nameW c] := by
  obtain ⟨j, rfl, h1, h2⟩ := there_nat h
  have k1 : ∀ j : Fin 18, 1 ≤ j.val → (nameW (j.val : Int)).data.toList.all (fun b => b != 32) = true ∧ (nameW (j.val : Int)).data.toList.isEmpty = false := by decide +kernel
  obtain ⟨a1, a2⟩ := k1 ⟨j, h2⟩ h1
  refine own_word (fun b hb => ?_) (fun hn => ?_)
  · have := List.all_eq_true.1 a1 b hb
    simpa using this
  · rw [show ((⟨j, h2⟩ : Fin 18).val : Int) = (j : Int) from rfl, hn] at a2
    cases a2
theorem right_free {s : List UInt8} (h : rightW s = true) : (∀ b ∈ s, okB b = true) ∧ s ≠ [] := by
  rw [rightW, Bool.and_eq_true, Bool.and_eq_true, decide_eq_true_eq] at h
  refine ⟨fun b hb => List.all_eq_true.1 h.2.2 b hb, fun hn => ?_⟩
  rw [hn] at h
  simp at h
theorem okB_32 : okB 32 = false := by decide
theorem okB_45 : okB 45 = false := by decide
theorem right_word {s : ByteArray} (h : rightW s.data.toList = true) : words s = [s] := by
  obtain ⟨h1, h2⟩ := right_free h
  refine own_word (fun b hb he => ?_) h2
  have := h1 b hb
  rw [he, okB_32] at this
  cases this
theorem right_minus {s : ByteArray} (h : rightW s.data.toList = true) : s ≠ ⟨#[45]⟩ := by
  intro he
  have := (right_free h).1 45 (by rw [he]; simp)
  rw [okB_45] at this
  cases this
theorem empty_iff (s : ByteArray) : s.toList.isEmpty = true ↔ s = ⟨#[]⟩ := by
  constructor
  · intro h
    exact toList_inj ((List.isEmpty_iff.1 h).trans (ByteArray.toList_eq ⟨#[]⟩).symm)
  · intro h; rw [h, ByteArray.toList_eq]; rfl
theorem wordOk_cases {x : OpV} (h : wordOk x = true) : x.s = ⟨#[]⟩ ∨ (wordedW x.code = true ∧ rightW x.s.data.toList = true) := by
  rw [wordOk, Bool.or_eq_true, decide_eq_true_eq, Bool.and_eq_true] at h
  exact h
theorem wordsO_words {x : OpV} (h : rightO x = true) : ∀ y ∈ wordsO x, words y = [y] := by
  obtain ⟨h1, h2, h3⟩ := rightO_parts h
  intro y hy
  rw [wordsO] at hy
  rcases List.mem_cons.1 hy with e | hy
  · rw [e]; exact name_word h1
  · rcases List.mem_append.1 hy with hy | hy
    · obtain ⟨n, hn, rfl⟩ := List.mem_map.1 hy
      exact numT_word n
    · rw [lastT] at hy
      by_cases hw : wordedW x.code = true
      · rw [if_pos hw] at hy
        simp only [List.mem_singleton] at hy
        rw [hy]
        by_cases he : x.s.toList.isEmpty = true
        · rw [if_pos he]; exact own_word (by simp) (by simp)
        · rw [if_neg he]
          rcases wordOk_cases h2 with h | h
          · exact absurd ((empty_iff _).2 h) he
          · exact right_word h.2
      · rw [if_neg hw] at hy; simp at hy
theorem split_text {x : OpV} (h : rightO x = true) : words (joined (wordsO x)) = wordsO x := words_joined _ (wordsO_words h)

theorem numsW_map : ∀ l : List Int, (∀ n ∈ l, -1000000 ≤ n ∧ n ≤ 1000000) → numsW (l.map numT) = some l
  | [], _ => rfl
  | n :: r, h => by
    rw [List.map_cons, numsW, numT, data_ofL, wordNum_itoa n (h n (by simp)), if_pos rfl]
    have := numsW_map r (fun m hm => h m (by simp [hm]))
    rw [this]; rfl
theorem numsOk_zero {k : Int} : ∀ {l : List Int} {i : Nat}, numsOk k i l = true → ∀ (j : Nat) (n : Int), l[j]? = some n → k ≤ ((i + j : Nat) : Int) → n = 0
  | [], i, _, j, n, hn, _ => by simp at hn
  | m :: r, i, h, j, n, hn, hk => by
    rw [numsOk, Bool.and_eq_true] at h
    rcases j with _ | j
    · simp at hn
      subst hn
      have h1 := h.1
      simp [numOk] at h1
      omega
    · exact numsOk_zero h.2 j n (by simpa using hn) (by omega)
theorem take_nums {x : OpV} {k : Int} (h : numsOk k 0 x.nums = true) (n : Nat) (hn : k = n) (h1 : 1 ≤ n) (h4 : n ≤ 4) :
    (x.nums.take n).getD 0 0 = x.a ∧ (x.nums.take n).getD 1 0 = x.b ∧ (x.nums.take n).getD 2 0 = x.c ∧ (x.nums.take n).getD 3 0 = x.d := by
  have hz := fun j m hm hk => numsOk_zero h j m hm hk
  have z1 : k ≤ 1 → x.b = 0 := fun hk => hz 1 x.b rfl (by simpa using hk)
  have z2 : k ≤ 2 → x.c = 0 := fun hk => hz 2 x.c rfl (by simpa using hk)
  have z3 : k ≤ 3 → x.d = 0 := fun hk => hz 3 x.d rfl (by simpa using hk)
  have : n = 1 ∨ n = 2 ∨ n = 3 ∨ n = 4 := by omega
  rcases this with rfl | rfl | rfl | rfl
  · exact ⟨rfl, (z1 (by omega)).symm, (z2 (by omega)).symm, (z3 (by omega)).symm⟩
  · exact ⟨rfl, rfl, (z2 (by omega)).symm, (z3 (by omega)).symm⟩
  · exact ⟨rfl, rfl, rfl, (z3 (by omega)).symm⟩
  · exact ⟨rfl, rfl, rfl, rfl⟩
theorem parse_text {x : OpV} (h : rightO x = true) : parseW (wordsO x) = (x, 0) := by
  obtain ⟨h1, h2, h3⟩ := rightO_parts h
  obtain ⟨m1, m4⟩ := numbersW_range h1
  obtain ⟨n, hn⟩ : ∃ n : Nat, numbersW x.code = n := ⟨(numbersW x.code).toNat, by omega⟩
  have hcn : codeW (nameW x.code) = x.code := by
    obtain ⟨j, hj, h1', h2'⟩ := there_nat h1
    have : ∀ j : Fin 18, 1 ≤ j.val → codeW (nameW (j.val : Int)) = (j.val : Int) := by decide +kernel
    rw [hj]
    exact this ⟨j, h2'⟩ h1'
  have hc0 : x.code ≠ 0 := by
    obtain ⟨j, hj, h1', h2'⟩ := there_nat h1
    omega
  have hlen4 : x.nums.length = 4 := rfl
  have hlm : ((x.nums.take n).map numT).length = n := by rw [List.length_map, List.length_take]; omega
  have hln : (wordsO x).length = allW x.code := by
    rw [wordsO, allW, hn, Int.toNat_natCast, List.length_cons, List.length_append, hlm, lastT]
    by_cases hw : wordedW x.code = true
    · rw [if_pos hw, if_pos hw]; simp
    · rw [if_neg hw, if_neg hw]; simp
  have htk : ((x.nums.take n).map numT ++ lastT x).take n = (x.nums.take n).map numT := by
    rw [List.take_append_of_le_length (by omega), List.take_of_length_le (by omega)]
  have hns := numsW_map (x.nums.take n) (fun m hm => numsOk_all h3 m (List.mem_of_mem_take hm))
  obtain ⟨t0, t1, t2, t3⟩ := take_nums h3 n hn (by omega) (by omega)
  have hP : parseW (wordsO x) = tailW x.code (x.nums.take n) ((wordsO x).getD (allW x.code - 1) ByteArray.empty) := by
    rw [show parseW (wordsO x) = parseW (nameW x.code :: ((x.nums.take (numbersW x.code).toNat).map numT ++ lastT x)) from rfl]
    rw [parseW, hcn, if_neg hc0]
    rw [show (nameW x.code :: ((x.nums.take (numbersW x.code).toNat).map numT ++ lastT x)) = wordsO x from rfl, hln, if_neg (by simp), hn, Int.toNat_natCast, htk, hns]
  rw [hP, tailW, t0, t1, t2, t3]
  by_cases hw : wordedW x.code = true
  · have hlast : (wordsO x).getD (allW x.code - 1) ByteArray.empty = if x.s.toList.isEmpty = true then ⟨#[45]⟩ else x.s := by
      rw [allW, if_pos hw, hn, Int.toNat_natCast, wordsO, hn, Int.toNat_natCast, lastT, if_pos hw, show n + 1 + 1 - 1 = n + 1 from rfl]
      simp only [List.getD, List.getElem?_cons_succ]
      rw [List.getElem?_append_right (by omega), hlm, Nat.sub_self]
      rfl
    rw [hlast]
    by_cases he : x.s.toList.isEmpty = true
    · rw [if_pos he, if_neg (by simp)]
      have := (empty_iff _).1 he
      rw [← this]
    · rw [if_neg he]
      rcases wordOk_cases h2 with h | h
      · exact absurd ((empty_iff _).2 h) he
      · rw [if_pos ⟨hw, right_minus h.2⟩, if_pos h.2]
  · rw [if_neg (fun q => hw q.1)]
    rcases wordOk_cases h2 with h | h
    · rw [← h]
    · exact absurd h.1 hw
end Go.Proofs.YtmjedjhgomlfiaaGreatDoor

set_option linter.unusedSimpArgs false
namespace Go.Proofs.YtmjedjhgomlfiaaGreatDoor
open Go.RowKit Go.Proofs.YtmjedjhgomlfiaaGreatDoorW.PrintWords Go.Lib

end Go.Proofs.YtmjedjhgomlfiaaGreatDoor
