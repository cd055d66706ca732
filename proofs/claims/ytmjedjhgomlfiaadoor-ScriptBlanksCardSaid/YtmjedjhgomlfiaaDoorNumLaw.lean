/- Which texts tell which number: the program's answer and the reference's, in plain lists; they are the same. -/
import Derived.Test.YtmjedjhgomlfiaaDoorNums
namespace Go.Proofs.YtmjedjhgomlfiaaDoor
open Go.Lib

/-- The program's answer. -/
def wordNum (s : List UInt8) : Int × Bool := match atoiAll s with
  | .ok n => if -1000000 ≤ n ∧ n ≤ 1000000 ∧ itoa n = s then (n, true) else (0, false)
  | _ => (0, false)
/-- What stands behind the sign. -/
def unsigned (s : List UInt8) : List UInt8 := if s.head? = some 45 then s.tail else s
/-- The reference's answer. -/
def refNum (s : List UInt8) : Int × Bool :=
  let t := unsigned s
  if t.length < 1 ∨ 7 < t.length ∨ (1 < t.length ∧ t.head? = some 48) ∨ (s.head? = some 45 ∧ t = [48]) then (0, false)
  else match decFrom 0 t with
    | none => (0, false)
    | some n => if 1000000 < n then (0, false) else (if s.head? = some 45 then -(n : Int) else n, true)

theorem decDigits_len (u : Nat) (h : u ≤ 1000000) : 1 ≤ (decDigits u).length ∧ (decDigits u).length ≤ 7 := by
  rw [decDigits_length]
  have h1 : ∀ k u : Nat, u < 10 ^ (k + 1) → nDigits u ≤ k + 1 := by
    intro k
    induction k with
    | zero => intro u hu; rw [nDigits_small (by simpa using hu)]; exact Nat.le_refl _
    | succ k ih =>
      intro u hu
      by_cases hs : u < 10
      · rw [nDigits_small hs]; omega
      · rw [nDigits_big hs]
        have := ih (u / 10) (by rw [Nat.pow_succ] at hu; omega)
        omega
  refine ⟨?_, h1 6 u (by omega)⟩
  by_cases hs : u < 10
  · rw [nDigits_small hs]; exact Nat.le_refl _
  · rw [nDigits_big hs]; omega
theorem decDigits_head45 (u : Nat) : (decDigits u).head? ≠ some 45 := by
  induction u using Nat.strongRecOn with
  | ind u ih =>
    by_cases h : u < 10
    · rw [decDigits_one h]
      have : ∀ d : Fin 10, UInt8.ofNat (48 + d.val) ≠ 45 := by decide +kernel
      simpa using this ⟨u, h⟩
    · rw [decDigits, dif_neg h]
      have := ih (u / 10) (by omega)
      rw [List.head?_append]
      cases hd : (decDigits (u / 10)).head? with
      | none => exact absurd (List.head?_eq_none_iff.1 hd) (decDigits_ne _)
      | some c => rw [hd] at this; simpa using this
theorem head43 (u : Nat) : (decDigits u).head? ≠ some 43 := by
  induction u using Nat.strongRecOn with
  | ind u ih =>
    by_cases h : u < 10
    · rw [decDigits_one h]
      have : ∀ d : Fin 10, UInt8.ofNat (48 + d.val) ≠ 43 := by decide +kernel
      simpa using this ⟨u, h⟩
    · rw [decDigits, dif_neg h]
      have := ih (u / 10) (by omega)
      rw [List.head?_append]
      cases hd : (decDigits (u / 10)).head? with
      | none => exact absurd (List.head?_eq_none_iff.1 hd) (decDigits_ne _)
      | some c => rw [hd] at this; simpa using this
theorem decNat_decDigits (u : Nat) : decNat (decDigits u) = some u := by
  unfold decNat
  cases h : decDigits u with
  | nil => exact absurd h (decDigits_ne u)
  | cons c t => rw [← h, decFrom_decDigits]; simp [h]
theorem atoi_itoa (n : Int) : atoi (itoa n) = some n := by
  unfold itoa
  split
  · rw [atoi, if_pos (by decide), decNat_decDigits]
    simp; omega
  · rename_i h
    have h45 := decDigits_head45 n.toNat
    have h43 := head43 n.toNat
    have hd := decNat_decDigits n.toNat
    cases hl : decDigits n.toNat with
    | nil => exact absurd hl (decDigits_ne _)
    | cons c t =>
      rw [hl] at h45 h43 hd
      have e1 : ¬ (c == 45) = true := by simpa using h45
      have e2 : ¬ (c == 43) = true := by simpa using h43
      rw [atoi, if_neg e1, if_neg e2, hd]
      simp; omega

theorem itoa_len (n : Int) (h : -1000000 ≤ n ∧ n ≤ 1000000) : (itoa n).length ≤ 18 := by
  unfold itoa
  split
  · have := (decDigits_len n.natAbs (by omega)).2; simp; omega
  · have := (decDigits_len n.toNat (by omega)).2; omega
theorem wordNum_itoa (n : Int) (h : -1000000 ≤ n ∧ n ≤ 1000000) : wordNum (itoa n) = (n, true) := by
  unfold wordNum
  rw [atoiAll_short _ (itoa_len n h), atoi_itoa]
  show (if _ then _ else _) = _
  rw [if_pos ⟨h.1, h.2, rfl⟩]
theorem lone_digit (u : Nat) (h : 1 < (decDigits u).length) : 10 ≤ u := by
  rcases Nat.lt_or_ge u 10 with h1 | h1
  · rw [decDigits_one h1] at h; simp at h
  · exact h1
theorem refNum_itoa (n : Int) (h : -1000000 ≤ n ∧ n ≤ 1000000) : refNum (itoa n) = (n, true) := by
  by_cases hn : n < 0
  · have e : itoa n = 45 :: decDigits n.natAbs := if_pos hn
    have hu : unsigned (itoa n) = decDigits n.natAbs := by rw [e]; rfl
    have hl := decDigits_len n.natAbs (by omega)
    have hh : (itoa n).head? = some 45 := by rw [e]; rfl
    unfold refNum
    rw [hu, hh, if_neg ?_, decFrom_decDigits]
    · show (if _ then _ else _) = _
      rw [if_neg (by omega), if_pos rfl]
      congr 1
      omega
    · rintro (h1 | h1 | h1 | h1)
      · omega
      · omega
      · exact decDigits_head _ (lone_digit _ h1.1) h1.2
      · have h2 := h1.2
        have h3 := decFrom_decDigits n.natAbs
        rw [h2] at h3
        have h4 : decFrom 0 [48] = some 0 := by decide
        rw [h4] at h3
        have := Option.some.inj h3
        omega
  · have e : itoa n = decDigits n.toNat := if_neg hn
    have hh : ¬ (itoa n).head? = some 45 := by rw [e]; exact decDigits_head45 _
    have hu : unsigned (itoa n) = decDigits n.toNat := by rw [unsigned, if_neg hh, e]
    have hl := decDigits_len n.toNat (by omega)
    unfold refNum
    rw [hu, if_neg ?_, decFrom_decDigits]
    · show (if _ then _ else _) = _
      rw [if_neg (by omega), if_neg hh]
      congr 1
      omega
    · rintro (h1 | h1 | h1 | h1)
      · omega
      · omega
      · exact decDigits_head _ (lone_digit _ h1.1) h1.2
      · exact hh h1.1
theorem refNum_true (s : List UInt8) (h : refNum s ≠ (0, false)) : ∃ n : Int, (-1000000 ≤ n ∧ n ≤ 1000000) ∧ itoa n = s := by
  unfold refNum at h
  by_cases hc : (unsigned s).length < 1 ∨ 7 < (unsigned s).length ∨ (1 < (unsigned s).length ∧ (unsigned s).head? = some 48) ∨ (s.head? = some 45 ∧ unsigned s = [48])
  · exact absurd (if_pos hc) h
  · simp only [if_neg hc] at h
    cases hd : decFrom 0 (unsigned s) with
    | none => rw [hd] at h; exact absurd rfl h
    | some m =>
      rw [hd] at h
      by_cases hm : 1000000 < m
      · exact absurd (if_pos hm) h
      · have hl1 : ¬ (unsigned s).length < 1 := fun x => hc (.inl x)
        have hne : unsigned s ≠ [] := fun x => hl1 (by rw [x]; decide)
        have hz : (unsigned s).head? ≠ some 48 ∨ (unsigned s).length = 1 := by
          by_cases h1 : (unsigned s).length = 1
          · exact .inr h1
          · exact .inl (fun x => hc (.inr (.inr (.inl ⟨by omega, x⟩))))
        have hcan := canon _ _ m rfl hd hne hz
        by_cases hs : s.head? = some 45
        · have hm0 : m ≠ 0 := by
            intro x
            subst x
            rw [decDigits_one (by decide)] at hcan
            exact hc (.inr (.inr (.inr ⟨hs, hcan.symm⟩)))
          refine ⟨-(m : Int), by omega, ?_⟩
          rw [show itoa (-(m : Int)) = 45 :: decDigits m by unfold itoa; rw [if_pos (by omega)]; simp, hcan, unsigned, if_pos hs]
          cases s with
          | nil => simp at hs
          | cons c t => simp at hs; rw [hs]; rfl
        · refine ⟨(m : Int), by omega, ?_⟩
          rw [show itoa (m : Int) = decDigits m by unfold itoa; rw [if_neg (by omega)]; simp, hcan, unsigned, if_neg hs]
/-- The two answers are the same. -/
theorem num_same (s : List UInt8) : wordNum s = refNum s := by
  by_cases h : ∃ n : Int, (-1000000 ≤ n ∧ n ≤ 1000000) ∧ itoa n = s
  · obtain ⟨n, hn, rfl⟩ := h
    rw [wordNum_itoa n hn, refNum_itoa n hn]
  · have h1 : refNum s = (0, false) := Classical.byContradiction fun x => h (refNum_true s x)
    rw [h1]
    unfold wordNum
    split
    · rename_i n _
      rw [if_neg (fun x => h ⟨n, ⟨x.1, x.2.1⟩, x.2.2⟩)]
    · rfl
end Go.Proofs.YtmjedjhgomlfiaaDoor
