/- The reference's Name, Code, Numbers and Worded: what the program says. -/
import Derived.Test.YtmjedjhgomlfiaaGreatDoorRef19
import Derived.Test.YtmjedjhgomlfiaaGreatDoorOpCode
import Derived.IntWalk
namespace Go.Proofs.YtmjedjhgomlfiaaGreatDoor
open Go.RowKit Go.Proofs.YtmjedjhgomlfiaaGreatDoorW.PrintWords Go.Lib Ref19

theorem rname_in : ∀ j : Fin 18, 1 ≤ j.val → towncrierref19_Name.f (j.val : Int) = some (nameW (j.val : Int)) := by decide +kernel
theorem rname_f (c : Int) : towncrierref19_Name.f c = some (nameW c) := by
  cases hc : there c with
  | true =>
    obtain ⟨j, rfl, h1, h2⟩ := there_nat hc
    exact rname_in ⟨j, h2⟩ h1
  | false =>
    rw [nameW, hc, if_neg (by decide)]
    simp only [there, Bool.and_eq_false_iff, decide_eq_false_iff_not] at hc
    rw [towncrierref19_Name.f]
    by_cases h : c < 1
    · rw [if_pos h]; rfl
    · rw [if_neg h, if_pos (by omega)]; rfl
theorem rname_any (c : Int) (w : World) : Calls Tryz.prog 34 #[.int .i64 c] w fun e w' => e = .returned (.string (nameW c)) ∧ Below w.heap.size w w' :=
  towncrierref19_Name.calls c _ w (rname_f c)

theorem rworded_in : ∀ j : Fin 18, 1 ≤ j.val → towncrierref19_Worded.f (j.val : Int) = some (wordedW (j.val : Int)) := by decide +kernel
theorem rworded_f (c : Int) : towncrierref19_Worded.f c = some (wordedW c) := by
  cases hc : there c with
  | true =>
    obtain ⟨j, rfl, h1, h2⟩ := there_nat hc
    exact rworded_in ⟨j, h2⟩ h1
  | false =>
    rw [wordedW, hc, Bool.false_and]
    simp only [there, Bool.and_eq_false_iff, decide_eq_false_iff_not] at hc
    rw [towncrierref19_Worded.f]
    by_cases h : c ≥ 1
    · rw [if_pos h, if_neg (by omega), if_pos (by omega)]; simp; omega
    · rw [if_neg h, if_neg (by omega)]
theorem rworded_any (c : Int) (w : World) : Calls Tryz.prog 37 #[.int .i64 c] w fun e w' => e = .returned (.bool (wordedW c)) ∧ Below w.heap.size w w' :=
  (towncrierref19_Worded.calls c _ w (rworded_f c)).mono fun _ _ h => ⟨h.1, h.2.below⟩

theorem rnumbers_in : ∀ j : Fin 18, 1 ≤ j.val → towncrierref19_Numbers.f 3 (j.val : Int) = some (numbersW (j.val : Int)) := by decide +kernel
theorem rnumbers_f (c : Int) : towncrierref19_Numbers.f 3 c = some (numbersW c) := by
  cases hc : there c with
  | true =>
    obtain ⟨j, rfl, h1, h2⟩ := there_nat hc
    exact rnumbers_in ⟨j, h2⟩ h1
  | false =>
    rw [numbersW, hc, if_neg (by decide)]
    simp only [there, Bool.and_eq_false_iff, decide_eq_false_iff_not] at hc
    have hn : ∀ k : Int, 1 ≤ k → k ≤ 17 → ¬ c = k := fun k h1 h2 h => by omega
    have hb : ∀ k : Int, 1 ≤ k → k ≤ 17 → (c == k) = false := fun k h1 h2 => by rw [beq_eq_false_iff_ne]; exact hn k h1 h2
    simp only [towncrierref19_Numbers.f, towncrierref19_Numbers.j0, towncrierref19_Numbers.j1, hb _ (show (1 : Int) ≤ 11 by decide) (by decide), hb _ (show (1 : Int) ≤ 13 by decide) (by decide),
      if_neg (hn 10 (by decide) (by decide)), if_neg (hn 5 (by decide) (by decide)), if_neg (hn 1 (by decide) (by decide)), if_neg (hn 4 (by decide) (by decide)), if_neg (hn 6 (by decide) (by decide)), if_neg (hn 7 (by decide) (by decide)), if_neg (hn 8 (by decide) (by decide)), if_neg (hn 12 (by decide) (by decide)),
      if_neg (hn 2 (by decide) (by decide)), if_neg (hn 3 (by decide) (by decide)), if_neg (hn 9 (by decide) (by decide)), if_neg (hn 14 (by decide) (by decide)), if_neg (hn 15 (by decide) (by decide)), if_neg (hn 16 (by decide) (by decide)), if_neg (hn 17 (by decide) (by decide))]
    simp
theorem rnumbers_any (c : Int) (w : World) : Calls Tryz.prog 35 #[.int .i64 c] w fun e w' => e = .returned (.int .i64 (numbersW c)) ∧ Below w.heap.size w w' :=
  (towncrierref19_Numbers.calls 3 c _ w (rnumbers_f c)).mono fun _ _ h => ⟨h.1, h.2.below⟩

end Go.Proofs.YtmjedjhgomlfiaaGreatDoor
