/- The Go function audit.Within answers whether one list of pairs comes of another one by leaving out, and writes nothing that was there. -/
import Derived.Test.YtmjedjhgomlfiaaProg
import Derived.WalkKit
import Derived.Below
import Derived.Deep.QuietTactic
import Derived.BigQuiet
import Derived.Test.YtmjedjhgomlfiaaWWords
import Derived.Test.YtmjedjhgomlfiaaEqArr
namespace Go.Proofs.Ytmjedjhgomlfiaa
open Go.RowKit Go.Proofs.YtmjedjhgomlfiaaW.PrintWords

theorem hide_ {p : Prop} (h : p) : Hid p := h
def kPair : Kd (Int × Int) := Kd.pair (Kd.int .i64) (Kd.int .i64)
def wstep (a : List (Int × Int)) (x : Int × Int) : List (Int × Int) :=
  match a with
  | y :: r => if y = x then r else y :: r
  | [] => []
def within (a b : List (Int × Int)) : Bool := (b.foldl wstep a).isEmpty

theorem pair_at {w : World} {A : Option Addr} {n : Nat} {xs : List (Int × Int)} (h : kPair.C w A n xs) (i : Nat) (hi : i < n) :
    ∃ ad x y, A = some ad ∧ Hid (xs[i]? = some (x, y)) ∧ w.cell? (ad.add (i * 2)) = some (.int .i64 x) ∧ w.cell? ⟨(ad.add (i * 2)).block, (ad.add (i * 2)).off + 1, none⟩ = some (.int .i64 y) := by
  obtain ⟨ad, c, hA, hl, hK, hc⟩ := Kd.C_get h (0, 0) (i : Int) (by omega) (by omega)
  obtain ⟨c0, c1, rfl, h0, h1⟩ := hK
  have h0' : c0 = [.int .i64 (xs.getD i (0, 0)).1] := h0
  have h1' : c1 = [.int .i64 (xs.getD i (0, 0)).2] := h1
  subst h0' h1'
  have hl : xs.length = n := h.1
  refine ⟨ad, _, _, hA, ?_, hc 0 _ rfl, by rw [← add_field _ _ _ (by omega)]; exact hc 1 _ rfl⟩
  show xs[i]? = some _
  rw [List.getD_eq_getElem?_getD, List.getElem?_eq_getElem (by omega)]
  rfl

theorem pair_tail {w : World} {ad : Addr} {x : Int × Int} {r : List (Int × Int)} {c : Nat} (h : kPair.C w (some ad) (x :: r).length (x :: r)) (hc : (x :: r).length ≤ c) :
    kPair.C w (if c = 1 then some ad else some ⟨ad.block, ad.off + 2, none⟩) r.length r := by
  have h1 := Kd.C_drop h (m := 1) (by simp) hc
  have e : (if c = 1 then some ad else (some ad).map fun a : Addr => a.add (1 * kPair.sz)) = (if c = 1 then some ad else some ⟨ad.block, ad.off + 2, none⟩) := by
    split
    · rfl
    · rfl
  rw [e] at h1
  simpa using h1
theorem fold_at {a b : List (Int × Int)} {j : Nat} {x : Int × Int} {rem : List (Int × Int)} (h : rem = (b.take j).foldl wstep a) (hx : b[j]? = some x) : wstep rem x = (b.take (j + 1)).foldl wstep a := by
  rw [List.take_add_one, hx, h]
  simp

theorem eq_pair (p q x y : Int) (W : World) : (Op.equalIn 10000 24 (.agg #[.int .i64 p, .int .i64 q]) (.agg #[.int .i64 x, .int .i64 y])).run Try.prog W = .ok (decide ((p, q) = (x, y))) W := by
  obtain ⟨i, hi, hs⟩ : ∃ i, Try.prog.info? 3 = some i ∧ i.size = 1 := by
    have h : (Try.prog.info? 3).map (fun i => i.size) = some 1 := by kernel_rfl
    obtain ⟨i, hi, hs⟩ := Option.map_eq_some_iff.1 h
    exact ⟨i, hi, hs⟩
  exact run_equalIn_arr2 (n := 9998) Try.underlying24 Try.underlying3 hi hs p q x y W

set_option maxHeartbeats 400000 in
theorem within_any (a b : List (Int × Int)) (A B : Option Addr) (c d : Nat) (w : World) (ha : kPair.C w A a.length a) (hb : kPair.C w B b.length b) (hac : a.length ≤ c) (hbl : b.length ≤ 4294967296) (hal : a.length ≤ 4294967296):
    Calls Try.prog 7 #[.slice A a.length c, .slice B b.length d] w fun e w' => e = .returned (.bool (within a b)) ∧ Below w.heap.size w w' := by
  go_enter Try.func7, Try.ntmps7
  go_wp2
  go_loopw [0, 9] (fun s i wr => ∃ (j : Nat) (rem : List (Int × Int)) (A' : Option Addr) (c' : Nat), j ≤ b.length ∧ i = .int .i64 j ∧ s = .slice A' rem.length c' ∧ rem.length ≤ c' ∧ rem.length ≤ 4294967296 ∧ kPair.C w A' rem.length rem ∧ rem = (b.take j).foldl wstep a ∧ Below w.heap.size w wr)
    (fun _ i _ => b.length - (intOf i).toNat)
  case atStart => exact ⟨0, a, A, c, Nat.zero_le _, rfl, rfl, hac, hal, ha, rfl, Below.refl _ _⟩
  case round =>
    obtain ⟨j, rem, A', c', hj, rfl, rfl, hc', hrl, hC, hrem, hB⟩ := hrel
    have HR := hide_ hrem
    clear hrem
    by_cases hlt : j < b.length
    · obtain ⟨ad, x, y, rfl, HX, hc0, hc1⟩ := pair_at (Kd.C_below hb hB) j hlt
      rcases hrm : rem with _ | ⟨⟨p, q⟩, r⟩
      · rw [hrm] at hC
        have HRM := hide_ hrm
        clear hrm
        go_wp2
        go_quiet (fail)
        go_wp2
        go_roundw
        case rel => exact ⟨j + 1, [], A', c', by omega, by go_num, rfl, by simp, by simp, hC, by rw [← fold_at HR.out HX.out, HRM.out]; rfl, pw_below_drewN (hB.alloc hB.size _) _⟩
        case measure => simp [intOf]; omega
      · rw [hrm] at hC
        obtain ⟨ad2, p', q', rfl, HP, hc2, hc3⟩ := pair_at (Kd.C_below hC hB) 0 (by simp)
        obtain ⟨rfl, rfl⟩ : p = p' ∧ q = q' := by have := HP.out; simpa using this
        clear HP
        have hb2 := World.block_lt_of_cell? _ _ hc2
        have hb3 := World.block_lt_of_cell? _ _ hc3
        have hc4 : (wr.alloc (.cells #[.int .i64 x, .int .i64 y] 24)).cell? (ad2.add (0 * 2)) = some (.int .i64 p) := by rw [World.cell?_alloc_lt _ _ _ hb2]; exact hc2
        have hc5 : (wr.alloc (.cells #[.int .i64 x, .int .i64 y] 24)).cell? ⟨(ad2.add (0 * 2)).block, (ad2.add (0 * 2)).off + 1, none⟩ = some (.int .i64 q) := by rw [World.cell?_alloc_lt _ _ _ hb3]; exact hc3
        simp only [Nat.zero_mul, Addr.add_zero'] at hc4 hc5
        clear hc2 hc3 hb2 hb3
        have hT := pair_tail hC (by rw [hrm] at hc'; exact hc')
        have hl : r.length + 1 ≤ 4294967296 := by rw [hrm] at hrl; exact hrl
        have hl2 : r.length + 1 ≤ c' := by rw [hrm] at hc'; exact hc'
        by_cases hxy : (p, q) = (x, y)
        all_goals
          have heq : ∀ W : World, (Op.equalIn 10000 24 (.agg #[.int .i64 p, .int .i64 q]) (.agg #[.int .i64 x, .int .i64 y])).run Try.prog W = .ok (decide ((p, q) = (x, y))) W := fun W => eq_pair p q x y W
          simp only [hxy, decide_true, decide_false] at heq
          have HXY := hide_ hxy
          clear hxy
          have HRM := hide_ hrm
          clear hrm
          go_wp2
          go_quiet (fail)
          go_wp2
          go_roundw
          case measure => simp [intOf]; omega
        case rel => exact ⟨j + 1, r, _, _, by omega, by go_num, rfl, by omega, by omega, hT, by rw [← fold_at HR.out HX.out, HRM.out, wstep, if_pos HXY.out], pw_below_drewN (hB.alloc hB.size _) _⟩
        case rel => exact ⟨j + 1, (p, q) :: r, _, _, by omega, by go_num, rfl, hl2, hl, hC, by rw [← fold_at HR.out HX.out, HRM.out, wstep, if_neg HXY.out], pw_below_drewN (hB.alloc hB.size _) _⟩
    · go_wp2
      go_ret
      have hr := HR.out
      rw [List.take_of_length_le (by omega)] at hr
      refine ⟨?_, hB⟩
      rw [within, ← hr]
      cases rem <;> simp <;> omega
end Go.Proofs.Ytmjedjhgomlfiaa
