/- Decimal numerals, in plain lists: what the numerals' text reads as, and which rows of digits are a number's own text. -/
import Derived.Lib.AtoiTie
import Derived.Lib.ItoaMem
namespace Go.Proofs.YtmjedjhgomlfiaaDoor
open Go.Lib

theorem decFrom_snoc (b : UInt8) : ∀ (l : List UInt8) (acc : Nat), decFrom acc (l ++ [b]) = (decFrom acc l).bind fun m => (digitVal b).map (m * 10 + ·)
  | [], acc => by
    simp only [List.nil_append, decFrom, Option.bind_some]
    cases digitVal b <;> rfl
  | c :: l, acc => by
    simp only [List.cons_append, decFrom]
    cases digitVal c with
    | none => rfl
    | some d => exact decFrom_snoc b l _
theorem digit_of (d : Nat) (h : d < 10) : digitVal (UInt8.ofNat (48 + d)) = some d := by
  have : ∀ d : Fin 10, digitVal (UInt8.ofNat (48 + d.val)) = some d.val := by decide +kernel
  exact this ⟨d, h⟩
theorem of_digit (b : UInt8) (d : Nat) (h : digitVal b = some d) : d < 10 ∧ b = UInt8.ofNat (48 + d) := by
  unfold digitVal at h
  split at h
  · rename_i hb
    injection h with h
    refine ⟨by omega, UInt8.toNat_inj.1 ?_⟩
    rw [show 48 + d = b.toNat by omega]
    simp
  · cases h
theorem decDigits_ne (u : Nat) : decDigits u ≠ [] := by
  rw [decDigits]; split <;> simp
theorem decFrom_decDigits (u : Nat) : decFrom 0 (decDigits u) = some u := by
  induction u using Nat.strongRecOn with
  | ind u ih =>
    by_cases h : u < 10
    · rw [decDigits_one h]
      rw [decFrom, digit_of u h]
      simp [decFrom]
    · rw [decDigits, dif_neg h, decFrom_snoc, ih (u / 10) (by omega), Option.bind_some, digit_of _ (Nat.mod_lt _ (by decide))]
      simp; omega
theorem decDigits_head (u : Nat) (h : 10 ≤ u) : (decDigits u).head? ≠ some 48 := by
  induction u using Nat.strongRecOn with
  | ind u ih =>
    rw [decDigits, dif_neg (by omega)]
    by_cases h2 : u / 10 < 10
    · rw [decDigits_one h2]
      have : ∀ d : Fin 10, 1 ≤ d.val → UInt8.ofNat (48 + d.val) ≠ 48 := by decide +kernel
      simpa using this ⟨u / 10, h2⟩ (by show 1 ≤ u / 10; omega)
    · have := ih (u / 10) (by omega) (by omega)
      rw [List.head?_append]
      cases hd : (decDigits (u / 10)).head? with
      | none => exact absurd (List.head?_eq_none_iff.1 hd) (decDigits_ne _)
      | some c => rw [hd] at this; simpa using this
theorem canon (k : Nat) : ∀ (l : List UInt8) (m : Nat), l.length = k → decFrom 0 l = some m → l ≠ [] → (l.head? ≠ some 48 ∨ l.length = 1) → decDigits m = l := by
  induction k with
  | zero => intro l m hk _ hn; exact absurd (List.length_eq_zero_iff.1 hk) hn
  | succ k ih =>
    intro l m hk hm hn hz
    obtain ⟨l', b, rfl⟩ : ∃ l' b, l = l' ++ [b] := ⟨l.dropLast, l.getLast hn, (List.dropLast_concat_getLast hn).symm⟩
    rw [decFrom_snoc] at hm
    obtain ⟨m', h1, h2⟩ := Option.bind_eq_some_iff.1 hm
    obtain ⟨d, h3, h4⟩ := Option.map_eq_some_iff.1 h2
    obtain ⟨hd, hb⟩ := of_digit b d h3
    by_cases hl : l' = []
    · subst hl
      simp [decFrom] at h1
      subst h1
      have : m = d := by omega
      subst this
      rw [decDigits_one hd, hb]; rfl
    · have hlen : l'.length = k := by simpa using hk
      have hh : (l' ++ [b]).head? = l'.head? := by
        cases l' with
        | nil => exact absurd rfl hl
        | cons c t => rfl
      have hz2 : l'.head? ≠ some 48 := by
        rcases hz with h | h
        · rw [hh] at h; exact h
        · have : l'.length = 0 := by simpa using h
          exact absurd (List.length_eq_zero_iff.1 this) hl
      have hi := ih l' m' hlen h1 hl (.inl hz2)
      have hm0 : m' ≠ 0 := by
        intro h0
        subst h0
        rw [decDigits_one (by decide)] at hi
        apply hz2
        rw [← hi]; rfl
      rw [decDigits, dif_neg (by omega), show m / 10 = m' by omega, show m % 10 = d by omega, hi, hb]
end Go.Proofs.YtmjedjhgomlfiaaDoor
