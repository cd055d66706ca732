/- The reference's Num: refNum. -/
import Derived.Test.YtmjedjhgomlfiaaDoorRef01
import Derived.Test.YtmjedjhgomlfiaaDoorNumLaw
import Derived.Test.YtmjedjhgomlfiaaDoorSplitLaw
import Derived.IntWalk
namespace Go.Proofs.YtmjedjhgomlfiaaDoor
open Go.RowKit Go.Proofs.YtmjedjhgomlfiaaDoorW.PrintWords Ref01 Go.Lib

theorem bt_data (s : ByteArray) (j : Nat) (b : UInt8) (h : s.data.toList[j]? = some b) : bt s (j : Int) = (b.toNat : Int) := by
  have hj := List.getElem?_eq_some_iff.1 h
  have hs : (j : Int).toNat < s.size := by rw [Lib.size_eq]; simpa using hj.1
  rw [← bt_at s j hs, ← hj.2]
  rfl

/-- What the number's loop ends with. -/
def numEnd (neg : Bool) (r : Option Nat) : Int × Bool := match r with
  | none => (0, false)
  | some n => if 1000000 < n then (0, false) else (if neg = true then -(n : Int) else n, true)

theorem num_l0 (t : ByteArray) (neg : Bool) (ht : t.size ≤ 7) : ∀ (m j acc : Nat), j + m = t.size → acc < 10 ^ j → ∀ k, m + 1 ≤ k → towncrierref01_Num.l0 k t neg acc j = some (numEnd neg (decFrom acc (t.data.toList.drop j)))
  | 0, j, acc, h, ha, k, hk => by
    obtain ⟨k, rfl⟩ : ∃ k2, k = k2 + 1 := ⟨k - 1, by omega⟩
    have h7 : (10 : Nat) ^ j ≤ 10 ^ 7 := Nat.pow_le_pow_right (by decide) (by omega)
    rw [towncrierref01_Num.l0, if_neg (by omega), List.drop_eq_nil_of_le (by rw [← Lib.size_eq]; omega), decFrom, numEnd]
    by_cases h1 : 1000000 < acc
    · rw [if_pos (by omega), if_pos h1]
    · rw [if_neg (by omega), if_neg h1]
      cases neg with
      | true => rw [if_pos rfl, if_pos rfl, IntWalk.wrap64_in _ (by omega)]
      | false => rw [if_neg (by decide), if_neg (by decide)]
  | m + 1, j, acc, h, ha, k, hk => by
    obtain ⟨k, rfl⟩ : ∃ k2, k = k2 + 1 := ⟨k - 1, by omega⟩
    have h7 : (10 : Nat) ^ j ≤ 10 ^ 7 := Nat.pow_le_pow_right (by decide) (by omega)
    have hjl : j < t.data.toList.length := by rw [← Lib.size_eq]; omega
    obtain ⟨b, hb⟩ : ∃ b, t.data.toList[j]? = some b := ⟨_, List.getElem?_eq_getElem hjl⟩
    have hd : t.data.toList.drop j = b :: t.data.toList.drop (j + 1) := by
      rw [List.drop_eq_getElem_cons hjl, (List.getElem?_eq_some_iff.1 hb).2]
    rw [towncrierref01_Num.l0, if_pos (by omega), if_pos (by omega), bt_data t j b hb, hd, decFrom]
    unfold digitVal
    have hb8 : b.toNat < 256 := b.toNat_lt
    by_cases h1 : b.toNat < 48
    · rw [if_pos (by omega), if_neg (by omega)]; rfl
    · by_cases h2 : 57 < b.toNat
      · rw [if_neg (by omega), if_pos (by omega), if_neg (by omega)]; rfl
      · rw [if_neg (by omega), if_neg (by omega), if_pos (by omega)]
        have e1 : wrap64 ((wrap64 ((wrap64 ((acc : Int) * 10)) + (wrap64 (b.toNat : Int)))) - 48) = ((acc * 10 + (b.toNat - 48) : Nat) : Int) := by
          rw [IntWalk.wrap64_in ((acc : Int) * 10) (by omega), IntWalk.wrap64_in (b.toNat : Int) (by omega), IntWalk.wrap64_in ((acc : Int) * 10 + (b.toNat : Int)) (by omega), IntWalk.wrap64_in _ (by omega)]
          omega
        rw [e1, IntWalk.wrap64_in ((j : Int) + 1) (by omega), show ((j : Int) + 1) = ((j + 1 : Nat) : Int) by omega]
        exact num_l0 t neg ht m (j + 1) _ (by omega) (by rw [Nat.pow_succ]; omega) k (by omega)

theorem num_j2 (t : ByteArray) (neg b : Bool) (h : b = false → t.size ≤ 7) (k : Nat) (hk : t.size + 2 ≤ k) : towncrierref01_Num.j2 k t neg b = some (if b = true then (0, false) else numEnd neg (decFrom 0 t.data.toList)) := by
  obtain ⟨k, rfl⟩ : ∃ k2, k = k2 + 1 := ⟨k - 1, by omega⟩
  rw [towncrierref01_Num.j2]
  cases b with
  | true => rfl
  | false =>
    rw [if_neg (by decide), if_neg (by decide)]
    have := num_l0 t neg (h rfl) t.size 0 0 (by omega) (by decide) k (by omega)
    simpa using this
/-- The tests ahead of the loop. -/
def numBad (t : List UInt8) (neg : Bool) : Bool := decide (t.length < 1) || decide (7 < t.length) || (decide (1 < t.length) && decide (t.head? = some 48)) || (neg && decide (t = [48]))
theorem num_j1 (t : ByteArray) (neg : Bool) (k : Nat) (hk : t.size + 3 ≤ k) : towncrierref01_Num.j1 k t neg = some (if numBad t.data.toList neg = true then (0, false) else numEnd neg (decFrom 0 t.data.toList)) := by
  obtain ⟨k, rfl⟩ : ∃ k2, k = k2 + 1 := ⟨k - 1, by omega⟩
  have hsz : t.size = t.data.toList.length := Lib.size_eq t
  have h0 : 1 ≤ t.size → ((bt t 0 = 48) ↔ t.data.toList.head? = some 48) := by
    intro h
    cases hl : t.data.toList with
    | nil => rw [hl] at hsz; exact absurd hsz (by simp; intro e; subst e; simp at h)
    | cons c r =>
      have hb := bt_data t 0 c (by rw [hl]; rfl)
      rw [show ((0 : Nat) : Int) = 0 from rfl] at hb
      rw [hb]
      simp
      constructor
      · intro h; apply UInt8.toNat_inj.1; show c.toNat = 48; omega
      · intro h; subst h; rfl
  have h48 : (t.toList == ([48] : List UInt8)) = decide (t.data.toList = [48]) := by
    rw [ByteArray.toList_eq]
    by_cases h : t.data.toList = [48] <;> simp [h]
  have hj := fun (b : Bool) (h : b = false → t.size ≤ 7) => num_j2 t neg b h k (by omega)
  rw [towncrierref01_Num.j1]
  unfold numBad
  by_cases c1 : t.size < 1
  · rw [if_pos (by omega), hj true (by simp)]
    have d1 : t.data.toList.length < 1 := by omega
    simp only [d1, decide_true, Bool.true_or, if_true]
  · rw [if_neg (by omega)]
    have d1 : ¬ t.data.toList.length < 1 := by omega
    by_cases c2 : 7 < t.size
    · rw [if_pos (by omega), hj true (by simp)]
      have d2 : 7 < t.data.toList.length := by omega
      simp only [d2, decide_true, Bool.true_or, Bool.or_true, if_true]
    · rw [if_neg (by omega)]
      have d2 : ¬ 7 < t.data.toList.length := by omega
      have key : (if neg = true then towncrierref01_Num.j2 k t neg (t.toList == ([48] : List UInt8)) else towncrierref01_Num.j2 k t neg false) = some (if (neg && decide (t.data.toList = [48])) = true then (0, false) else numEnd neg (decFrom 0 t.data.toList)) := by
        cases neg with
        | true => rw [if_pos rfl, h48, hj _ (fun _ => by omega)]; rfl
        | false => rw [if_neg (by decide), hj _ (fun _ => by omega)]; rfl
      by_cases c3 : 1 < t.size
      · rw [if_pos (by omega), if_pos (by omega)]
        have d3 : 1 < t.data.toList.length := by omega
        by_cases c4 : bt t 0 = 48
        · have d4 := (h0 (by omega)).1 c4
          rw [if_pos c4, hj true (by simp)]
          simp only [d3, d4, decide_true, Bool.and_self, Bool.true_or, Bool.or_true, if_true]
        · have d4 : ¬ t.data.toList.head? = some 48 := fun h => c4 ((h0 (by omega)).2 h)
          rw [if_neg c4, key]
          simp only [d1, d2, d4, decide_false, Bool.and_false, Bool.or_false, Bool.false_or]
      · have d3 : ¬ 1 < t.data.toList.length := by omega
        rw [if_neg (by omega), key]
        simp only [d1, d2, d3, decide_false, Bool.false_and, Bool.or_false, Bool.false_or]

theorem refNum_bad (s : List UInt8) : refNum s = if numBad (unsigned s) (decide (s.head? = some 45)) = true then (0, false) else numEnd (decide (s.head? = some 45)) (decFrom 0 (unsigned s)) := by
  unfold refNum numBad numEnd
  dsimp only
  cases decFrom 0 (unsigned s) <;> by_cases h : s.head? = some 45
  · simp only [h, decide_true, Bool.true_and, Bool.or_eq_true, Bool.and_eq_true, decide_eq_true_eq, true_and, or_assoc]
  · simp only [h, decide_false, Bool.false_and, Bool.or_eq_true, Bool.and_eq_true, decide_eq_true_eq, false_and, or_assoc, Bool.false_eq_true]
  · simp only [h, decide_true, Bool.true_and, Bool.or_eq_true, Bool.and_eq_true, decide_eq_true_eq, true_and, if_true, or_assoc]
  · simp only [h, decide_false, Bool.false_and, Bool.or_eq_true, Bool.and_eq_true, decide_eq_true_eq, false_and, if_false, or_assoc, Bool.false_eq_true]
theorem rnum_f (s : ByteArray) : ∃ k, towncrierref01_Num.f k s = some (refNum s.data.toList) := by
  refine ⟨s.size + 10, ?_⟩
  have hsz : s.size = s.data.toList.length := Lib.size_eq s
  rw [refNum_bad]
  unfold towncrierref01_Num.f
  cases hl : s.data.toList with
  | nil =>
    have h0 : s.size = 0 := by rw [hsz, hl]; rfl
    rw [if_neg (by omega), show s.size + 10 = (s.size + 9) + 1 from rfl, towncrierref01_Num.j0, if_neg (by decide), num_j1 _ _ _ (by omega), hl]
    rfl
  | cons c r =>
    have h0 : 0 < s.size := by rw [hsz, hl]; simp
    have hb := bt_data s 0 c (by rw [hl]; rfl)
    rw [show ((0 : Nat) : Int) = 0 from rfl] at hb
    rw [if_pos (by omega), if_pos (by omega), hb, show s.size + 10 = (s.size + 9) + 1 from rfl, towncrierref01_Num.j0]
    by_cases hc : c = 45
    · subst hc
      have hx : (s.extract 1 s.size).data.toList = r := by rw [Lib.extract_to_end, hl]; rfl
      have hxs : (s.extract 1 s.size).size ≤ s.size := by rw [Lib.size_eq, hx, hsz, hl]; simp
      rw [if_pos (by decide), if_pos (by omega), num_j1 _ _ _ (by omega), hx]
      rfl
    · have hne : (((c.toNat : Int)) == 45) = false := by
        rw [beq_eq_false_iff_ne]; intro h; apply hc; apply UInt8.toNat_inj.1; show c.toNat = 45; omega
      rw [hne, if_neg (by decide), num_j1 _ _ _ (by omega), hl]
      have hh : ¬ (c :: r).head? = some 45 := by simpa using hc
      simp only [unsigned, hh, if_false, decide_false]
theorem rnum_any (s : ByteArray) (w : World) :
    Calls Tryd.prog 44 #[.string s] w fun e w' => e = .returned (.tuple #[.int .i64 (refNum s.data.toList).1, .bool (refNum s.data.toList).2]) ∧ Below w.heap.size w w' := by
  obtain ⟨k, hk⟩ := rnum_f s
  exact (towncrierref01_Num.calls k s _ _ w hk).mono fun e w' h => ⟨h.1, h.2.below⟩
end Go.Proofs.YtmjedjhgomlfiaaDoor
