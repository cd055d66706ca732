/- The reference's Text: the number's own text. -/
import Derived.Test.YtmjedjhgomlfiaaGreatDoorText
import Derived.Test.YtmjedjhgomlfiaaGreatDoorRef01
import Derived.Test.YtmjedjhgomlfiaaGreatDoorNumsAll
import Derived.IntWalk
namespace Go.Proofs.YtmjedjhgomlfiaaGreatDoor
open Go.RowKit Go.Proofs.YtmjedjhgomlfiaaGreatDoorW.PrintWords Ref01 Go.Lib

theorem digit_cut : ∀ d : Fin 10, (⟨#[48, 49, 50, 51, 52, 53, 54, 55, 56, 57]⟩ : ByteArray).extract d.val (d.val + 1) = ofL [UInt8.ofNat (48 + d.val)] := by decide +kernel
theorem ofL_append (a b : List UInt8) : ofL a ++ ofL b = ofL (a ++ b) := by
  apply ByteArray.ext
  rw [ByteArray.data_append]
  simp [ofL]
theorem ofL_size (a : List UInt8) : (ofL a).size = a.length := by rw [Lib.size_eq]; rfl

/-- The loop from the last digit on: u's digits ahead of x. -/
theorem text_l1 : ∀ (u : Nat), u ≤ 9223372036854775807 → ∀ (x : List UInt8), x.length + u ≤ 9223372036854775807 → ∃ k, ∀ k', k ≤ k' → towncrierref01_Text.l1 k' u (ofL ([UInt8.ofNat (48 + u % 10)] ++ x)) = some (ofL (decDigits u ++ x)) := by
  intro u
  induction u using Nat.strongRecOn with
  | ind u ih =>
    intro hu x hx
    by_cases h : u < 10
    · refine ⟨1, fun k' hk => ?_⟩
      obtain ⟨k, rfl⟩ : ∃ k, k' = k + 1 := ⟨k' - 1, by omega⟩
      rw [towncrierref01_Text.l1, if_neg (by omega), decDigits_one h, Nat.mod_eq_of_lt h]
    · obtain ⟨k, hk⟩ := ih (u / 10) (by omega) (by omega) ([UInt8.ofNat (48 + u % 10)] ++ x) (by simp; omega)
      refine ⟨k + 1, fun k' hk' => ?_⟩
      obtain ⟨k2, rfl⟩ : ∃ k2, k' = k2 + 1 := ⟨k' - 1, by omega⟩
      have e1 : wrap64 (Int.tdiv (u : Int) 10) = ((u / 10 : Nat) : Int) := by
        show wrap64 (Int.tdiv (u : Int) ((10 : Nat) : Int)) = _
        rw [IntWalk.up_tdiv (x := u) (y := 10) rfl rfl, IntWalk.wrap64_in _ (by omega)]
      have e2 : Int.tmod ((u / 10 : Nat) : Int) 10 = ((u / 10 % 10 : Nat) : Int) := IntWalk.up_tmod rfl rfl
      have e3 : wrap64 (((u / 10 % 10 : Nat) : Int) + 1) = ((u / 10 % 10 + 1 : Nat) : Int) := by
        rw [IntWalk.wrap64_in _ (by omega)]; omega
      have hcut : (⟨#[48, 49, 50, 51, 52, 53, 54, 55, 56, 57]⟩ : ByteArray).extract (u / 10 % 10) (u / 10 % 10 + 1) = ofL [UInt8.ofNat (48 + u / 10 % 10)] := digit_cut ⟨u / 10 % 10, Nat.mod_lt _ (by decide)⟩
      rw [towncrierref01_Text.l1, if_pos (by omega), e1, e2, e3, if_pos (by omega), if_pos (by omega), if_pos (by omega)]
      simp only [Int.toNat_natCast]
      rw [hcut, ofL_append, if_pos (by rw [ofL_size, ofL_size]; simp; omega)]
      have := hk k2 (by omega)
      have hd : decDigits u = decDigits (u / 10) ++ [UInt8.ofNat (48 + u % 10)] := by
        conv => lhs; rw [decDigits, dif_neg h]
      rw [this, hd]
      simp

/-- The digits of a number, none of 0. -/
def digits0 (u : Nat) : List UInt8 := if u = 0 then [] else decDigits u
theorem digits0_next (u : Nat) (h : u ≠ 0) : digits0 u = digits0 (u / 10) ++ [UInt8.ofNat (48 + u % 10)] := by
  unfold digits0
  rw [if_neg h]
  by_cases h1 : u < 10
  · rw [decDigits_one h1, if_pos (by omega), Nat.mod_eq_of_lt h1]; rfl
  · rw [if_neg (by omega)]
    conv => lhs; rw [decDigits, dif_neg h1]
theorem text_l0 : ∀ (u : Nat), u ≤ 9223372036854775808 → ∀ (x : List UInt8), x.length + u ≤ 9223372036854775808 → x.length ≤ 1000 ∨ x.length + u + 1000 ≤ 9223372036854775808 → ∃ k, ∀ k', k ≤ k' → towncrierref01_Text.l0 k' (-(u : Int)) (ofL x) = some (ofL (45 :: (digits0 u ++ x))) := by
  intro u
  induction u using Nat.strongRecOn with
  | ind u ih =>
    intro hu x hx hxx
    by_cases h : u = 0
    · subst h
      refine ⟨1, fun k' hk => ?_⟩
      obtain ⟨k, rfl⟩ : ∃ k, k' = k + 1 := ⟨k' - 1, by omega⟩
      rw [towncrierref01_Text.l0, if_neg (by omega), if_pos (by rw [ofL_size]; omega)]
      rw [show (⟨#[45]⟩ : ByteArray) = ofL [45] from rfl, ofL_append]
      rfl
    · obtain ⟨k, hk⟩ := ih (u / 10) (by omega) (by omega) ([UInt8.ofNat (48 + u % 10)] ++ x) (by simp; omega) (by simp; omega)
      refine ⟨k + 1, fun k' hk' => ?_⟩
      obtain ⟨k2, rfl⟩ : ∃ k2, k' = k2 + 1 := ⟨k' - 1, by omega⟩
      have e1 : wrap64 (Int.tdiv (-(u : Int)) 10) = -((u / 10 : Nat) : Int) := by
        rw [Int.neg_tdiv, show Int.tdiv (u : Int) 10 = ((u / 10 : Nat) : Int) from IntWalk.up_tdiv (x := u) (y := 10) rfl rfl, IntWalk.wrap64_in _ (by omega)]
      have e2 : wrap64 (-(Int.tmod (-(u : Int)) 10)) = ((u % 10 : Nat) : Int) := by
        rw [Int.neg_tmod, show Int.tmod (u : Int) 10 = ((u % 10 : Nat) : Int) from IntWalk.up_tmod (x := u) (y := 10) rfl rfl, Int.neg_neg, IntWalk.wrap64_in _ (by omega)]
      have e3 : wrap64 (((u % 10 : Nat) : Int) + 1) = ((u % 10 + 1 : Nat) : Int) := by
        rw [IntWalk.wrap64_in _ (by omega)]; omega
      have hcut : (⟨#[48, 49, 50, 51, 52, 53, 54, 55, 56, 57]⟩ : ByteArray).extract (u % 10) (u % 10 + 1) = ofL [UInt8.ofNat (48 + u % 10)] := digit_cut ⟨u % 10, Nat.mod_lt _ (by decide)⟩
      rw [towncrierref01_Text.l0, if_pos (by omega), e1, e2, e3, if_pos (by omega), if_pos (by omega), if_pos (by omega)]
      simp only [Int.toNat_natCast]
      rw [hcut, ofL_append, if_pos (by rw [ofL_size, ofL_size]; simp; omega), hk k2 (by omega), digits0_next u h]
      simp
theorem rtext_f (n : Int) (h0 : -9223372036854775808 ≤ n) (h1 : n ≤ 9223372036854775807) : ∃ k, towncrierref01_Text.f k n = some (ofL (itoa n)) := by
  by_cases hn : n < 0
  · obtain ⟨k, hk⟩ := text_l0 n.natAbs (by omega) [] (by simp; omega) (by simp)
    refine ⟨k, ?_⟩
    have := hk k (Nat.le_refl _)
    rw [show -((n.natAbs : Nat) : Int) = n by omega] at this
    rw [towncrierref01_Text.f, if_pos hn]
    rw [show itoa n = 45 :: (digits0 n.natAbs ++ []) by unfold itoa digits0; rw [if_pos hn, if_neg (by omega)]; simp]
    exact this
  · obtain ⟨u, rfl⟩ : ∃ u : Nat, n = u := ⟨n.toNat, by omega⟩
    obtain ⟨k, hk⟩ := text_l1 u (by omega) [] (by simp; omega)
    refine ⟨k, ?_⟩
    have := hk k (Nat.le_refl _)
    have e2 : Int.tmod (u : Int) 10 = ((u % 10 : Nat) : Int) := IntWalk.up_tmod (x := u) (y := 10) rfl rfl
    have e3 : wrap64 (((u % 10 : Nat) : Int) + 1) = ((u % 10 + 1 : Nat) : Int) := by
      rw [IntWalk.wrap64_in _ (by omega)]; omega
    have hcut : (⟨#[48, 49, 50, 51, 52, 53, 54, 55, 56, 57]⟩ : ByteArray).extract (u % 10) (u % 10 + 1) = ofL [UInt8.ofNat (48 + u % 10)] := digit_cut ⟨u % 10, Nat.mod_lt _ (by decide)⟩
    rw [towncrierref01_Text.f, if_neg hn, e2, e3, if_pos (by omega), if_pos (by omega), if_pos (by omega)]
    simp only [Int.toNat_natCast]
    rw [hcut, show itoa (u : Int) = decDigits u ++ [] by unfold itoa; rw [if_neg hn]; simp]
    exact this
theorem rtext_any (n : Int) (h0 : -9223372036854775808 ≤ n) (h1 : n ≤ 9223372036854775807) (w : World) :
    Calls Tryz.prog 36 #[.int .i64 n] w fun e w' => e = .returned (.string (ofL (itoa n))) ∧ Below w.heap.size w w' := by
  obtain ⟨k, hk⟩ := rtext_f n h0 h1
  exact (towncrierref01_Text.calls k n _ w hk).mono fun e w' h => ⟨h.1, h.2.below⟩
end Go.Proofs.YtmjedjhgomlfiaaGreatDoor
