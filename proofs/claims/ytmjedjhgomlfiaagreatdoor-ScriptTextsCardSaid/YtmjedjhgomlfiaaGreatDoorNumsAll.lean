/- Numbers in plain lists. -/
import Derived.Lib.AtoiTie
import Derived.Lib.ItoaMem
namespace Go.Proofs.YtmjedjhgomlfiaaGreatDoor
open Go.Lib

theorem decFrom_snoc (b : UInt8) : ∀ (l : List UInt8) (acc : Nat), decFrom acc (l ++ [b]) = (decFrom acc l).bind fun m => (digitVal b).map (m * 10 + ·)
  | [], acc => by
    simp only [List.nil_append, decFrom, Option.bind_some]
    cases digitVal b <;> rfl
  | c :: l, acc => by
    simp only [List.cons_append, decFrom]
    cases digitVal c with
    | none => rfl
    | some d => exact decFrom_snoc b l _
theorem digit_of (d : Nat) (h : d < 10) : digitVal (UInt8.ofNat (48 + d)) = some d := by
  have : ∀ d : Fin 10, digitVal (UInt8.ofNat (48 + d.val)) = some d.val := by decide +kernel
  exact this ⟨d, h⟩
theorem decDigits_ne (u : Nat) : decDigits u ≠ [] := by
  rw [decDigits]; split <;> simp
theorem decFrom_decDigits (u : Nat) : decFrom 0 (decDigits u) = some u := by
  induction u using Nat.strongRecOn with
  | ind u ih =>
    by_cases h : u < 10
    · rw [decDigits_one h]
      rw [decFrom, digit_of u h]
      simp [decFrom]
    · rw [decDigits, dif_neg h, decFrom_snoc, ih (u / 10) (by omega), Option.bind_some, digit_of _ (Nat.mod_lt _ (by decide))]
      simp; omega
end Go.Proofs.YtmjedjhgomlfiaaGreatDoor

namespace Go.Proofs.YtmjedjhgomlfiaaGreatDoor
open Go.Lib

/-- The program's answer. -/
def wordNum (s : List UInt8) : Int × Bool := match atoiAll s with
  | .ok n => if -1000000 ≤ n ∧ n ≤ 1000000 ∧ itoa n = s then (n, true) else (0, false)
  | _ => (0, false)
theorem decDigits_len (u : Nat) (h : u ≤ 1000000) : 1 ≤ (decDigits u).length ∧ (decDigits u).length ≤ 7 := by
  rw [decDigits_length]
  have h1 : ∀ k u : Nat, u < 10 ^ (k + 1) → nDigits u ≤ k + 1 := by
    intro k
    induction k with
    | zero => intro u hu; rw [nDigits_small (by simpa using hu)]; exact Nat.le_refl _
    | succ k ih =>
      intro u hu
      by_cases hs : u < 10
      · rw [nDigits_small hs]; omega
      · rw [nDigits_big hs]
        have := ih (u / 10) (by rw [Nat.pow_succ] at hu; omega)
        omega
  refine ⟨?_, h1 6 u (by omega)⟩
  by_cases hs : u < 10
  · rw [nDigits_small hs]; exact Nat.le_refl _
  · rw [nDigits_big hs]; omega
theorem decDigits_head45 (u : Nat) : (decDigits u).head? ≠ some 45 := by
  induction u using Nat.strongRecOn with
  | ind u ih =>
    by_cases h : u < 10
    · rw [decDigits_one h]
      have : ∀ d : Fin 10, UInt8.ofNat (48 + d.val) ≠ 45 := by decide +kernel
      simpa using this ⟨u, h⟩
    · rw [decDigits, dif_neg h]
      have := ih (u / 10) (by omega)
      rw [List.head?_append]
      cases hd : (decDigits (u / 10)).head? with
      | none => exact absurd (List.head?_eq_none_iff.1 hd) (decDigits_ne _)
      | some c => rw [hd] at this; simpa using this
theorem head43 (u : Nat) : (decDigits u).head? ≠ some 43 := by
  induction u using Nat.strongRecOn with
  | ind u ih =>
    by_cases h : u < 10
    · rw [decDigits_one h]
      have : ∀ d : Fin 10, UInt8.ofNat (48 + d.val) ≠ 43 := by decide +kernel
      simpa using this ⟨u, h⟩
    · rw [decDigits, dif_neg h]
      have := ih (u / 10) (by omega)
      rw [List.head?_append]
      cases hd : (decDigits (u / 10)).head? with
      | none => exact absurd (List.head?_eq_none_iff.1 hd) (decDigits_ne _)
      | some c => rw [hd] at this; simpa using this
theorem decNat_decDigits (u : Nat) : decNat (decDigits u) = some u := by
  unfold decNat
  cases h : decDigits u with
  | nil => exact absurd h (decDigits_ne u)
  | cons c t => rw [← h, decFrom_decDigits]; simp [h]
theorem atoi_itoa (n : Int) : atoi (itoa n) = some n := by
  unfold itoa
  split
  · rw [atoi, if_pos (by decide), decNat_decDigits]
    simp; omega
  · rename_i h
    have h45 := decDigits_head45 n.toNat
    have h43 := head43 n.toNat
    have hd := decNat_decDigits n.toNat
    cases hl : decDigits n.toNat with
    | nil => exact absurd hl (decDigits_ne _)
    | cons c t =>
      rw [hl] at h45 h43 hd
      have e1 : ¬ (c == 45) = true := by simpa using h45
      have e2 : ¬ (c == 43) = true := by simpa using h43
      rw [atoi, if_neg e1, if_neg e2, hd]
      simp; omega

theorem itoa_len (n : Int) (h : -1000000 ≤ n ∧ n ≤ 1000000) : (itoa n).length ≤ 18 := by
  unfold itoa
  split
  · have := (decDigits_len n.natAbs (by omega)).2; simp; omega
  · have := (decDigits_len n.toNat (by omega)).2; omega
theorem wordNum_itoa (n : Int) (h : -1000000 ≤ n ∧ n ≤ 1000000) : wordNum (itoa n) = (n, true) := by
  unfold wordNum
  rw [atoiAll_short _ (itoa_len n h), atoi_itoa]
  show (if _ then _ else _) = _
  rw [if_pos ⟨h.1, h.2, rfl⟩]
end Go.Proofs.YtmjedjhgomlfiaaGreatDoor
