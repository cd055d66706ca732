/- Functions printed by print.sh over this seat, taken together. -/
import Derived.Test.YtmjedjhgomlfiaaGreatDoorPScriptTextsx0
import Derived.Test.YtmjedjhgomlfiaaGreatDoorRef01
namespace Go.Proofs.YtmjedjhgomlfiaaGreatDoor.Ref19
open Go.Proofs.YtmjedjhgomlfiaaGreatDoor.Ref01 Go.RowKit Go.Proofs.YtmjedjhgomlfiaaGreatDoorW.PrintWords Go.Proofs.YtmjedjhgomlfiaaGreatDoorW.PrintLast Go.Proofs.YtmjedjhgomlfiaaGreatDoorW.PrintMore
attribute [local go_sem] max2_int min2_int max_two min_two max_three min_three max_four min_four   -- for this text's walks alone
set_option linter.unusedVariables false
set_option linter.unusedSimpArgs false

/-! ### towncrierref19_Name: function 34 -/
def towncrierref19_Name.f (a0 : Int) : Option (ByteArray) := if a0 < 1 then (some (⟨#[]⟩ : ByteArray)) else (if a0 > 17 then (some (⟨#[]⟩ : ByteArray)) else ((some (([(⟨#[109, 97, 107, 101]⟩ : ByteArray), (⟨#[119, 97, 110, 116]⟩ : ByteArray), (⟨#[110, 97, 109, 101]⟩ : ByteArray), (⟨#[97, 112, 112, 101, 110, 100]⟩ : ByteArray), (⟨#[98, 101, 102, 111, 114, 101]⟩ : ByteArray), (⟨#[114, 101, 109, 111, 118, 101]⟩ : ByteArray), (⟨#[97, 116, 116, 97, 99, 104]⟩ : ByteArray), (⟨#[115, 105, 103, 110, 97, 108]⟩ : ByteArray), (⟨#[97, 98, 111, 114, 116]⟩ : ByteArray), (⟨#[108, 105, 115, 116, 101, 110]⟩ : ByteArray), (⟨#[117, 110, 108, 105, 115, 116, 101, 110]⟩ : ByteArray), (⟨#[101, 118, 101, 110, 116]⟩ : ByteArray), (⟨#[115, 101, 110, 100]⟩ : ByteArray), (⟨#[112, 114, 101, 118, 101, 110, 116]⟩ : ByteArray), (⟨#[115, 116, 111, 112]⟩ : ByteArray), (⟨#[115, 116, 111, 112, 110, 111, 119]⟩ : ByteArray), (⟨#[99, 108, 101, 97, 114]⟩ : ByteArray)] : List ByteArray) : List ByteArray)).bind fun y163 => (if 0 ≤ (wrap64 (a0 - 1)) then (if (wrap64 (a0 - 1)) < (y163.length : Int) then (some (rdOf ByteArray.empty y163 (wrap64 (a0 - 1)))) else (none)) else (none))))
set_option maxHeartbeats 8000000 in
set_option maxRecDepth 100000 in
theorem towncrierref19_Name.calls (a0 : Int) (r : ByteArray) (w : World) (h : towncrierref19_Name.f a0 = some r) :
    Calls Tryz.prog 34 #[.int .i64 a0] w fun e w' => e = .returned (.string r) ∧ Below w.heap.size w w' := by
  have HB := Aside0.mk (Below.refl w.heap.size w)
  have H : (if a0 < 1 then (some (⟨#[]⟩ : ByteArray)) else (if a0 > 17 then (some (⟨#[]⟩ : ByteArray)) else ((some (([(⟨#[109, 97, 107, 101]⟩ : ByteArray), (⟨#[119, 97, 110, 116]⟩ : ByteArray), (⟨#[110, 97, 109, 101]⟩ : ByteArray), (⟨#[97, 112, 112, 101, 110, 100]⟩ : ByteArray), (⟨#[98, 101, 102, 111, 114, 101]⟩ : ByteArray), (⟨#[114, 101, 109, 111, 118, 101]⟩ : ByteArray), (⟨#[97, 116, 116, 97, 99, 104]⟩ : ByteArray), (⟨#[115, 105, 103, 110, 97, 108]⟩ : ByteArray), (⟨#[97, 98, 111, 114, 116]⟩ : ByteArray), (⟨#[108, 105, 115, 116, 101, 110]⟩ : ByteArray), (⟨#[117, 110, 108, 105, 115, 116, 101, 110]⟩ : ByteArray), (⟨#[101, 118, 101, 110, 116]⟩ : ByteArray), (⟨#[115, 101, 110, 100]⟩ : ByteArray), (⟨#[112, 114, 101, 118, 101, 110, 116]⟩ : ByteArray), (⟨#[115, 116, 111, 112]⟩ : ByteArray), (⟨#[115, 116, 111, 112, 110, 111, 119]⟩ : ByteArray), (⟨#[99, 108, 101, 97, 114]⟩ : ByteArray)] : List ByteArray) : List ByteArray)).bind fun y163 => (if 0 ≤ (wrap64 (a0 - 1)) then (if (wrap64 (a0 - 1)) < (y163.length : Int) then (some (rdOf ByteArray.empty y163 (wrap64 (a0 - 1)))) else (none)) else (none))))) = some r := h
  clear h
  by_cases c2 : a0 < 1
  · rw [if_pos c2] at H
    have c2b0 : decide (a0 < 1) = true := decide_eq_true c2
    clear c2
    obtain rfl := Option.some.inj H
    go_enter Tryz.func34, Tryz.ntmps34
    go_wp2
    go_ret
    exact ⟨by first | rfl | (simp [errW_none, errW_some] <;> rfl) | (simp [*, errW_none, errW_some] <;> rfl), by repeat (first | (with_reducible first | exact HB.out | apply below_alloc | apply pw_below_drewN | apply below_drew1) | exact HB.out)⟩
  · rw [if_neg c2] at H
    have c2b0 : decide (a0 < 1) = false := decide_eq_false c2
    clear c2
    by_cases c3 : a0 > 17
    · rw [if_pos c3] at H
      have c3b0 : decide (17 < a0) = true := decide_eq_true c3
      clear c3
      obtain rfl := Option.some.inj H
      go_enter Tryz.func34, Tryz.ntmps34
      go_wp2
      go_ret
      exact ⟨by first | rfl | (simp [errW_none, errW_some] <;> rfl) | (simp [*, errW_none, errW_some] <;> rfl), by repeat (first | (with_reducible first | exact HB.out | apply below_alloc | apply pw_below_drewN | apply below_drew1) | exact HB.out)⟩
    · rw [if_neg c3] at H
      have c3b0 : decide (17 < a0) = false := decide_eq_false c3
      clear c3
      obtain ⟨y163, hy163⟩ : ∃ y_ : List ByteArray, y_ = (([(⟨#[109, 97, 107, 101]⟩ : ByteArray), (⟨#[119, 97, 110, 116]⟩ : ByteArray), (⟨#[110, 97, 109, 101]⟩ : ByteArray), (⟨#[97, 112, 112, 101, 110, 100]⟩ : ByteArray), (⟨#[98, 101, 102, 111, 114, 101]⟩ : ByteArray), (⟨#[114, 101, 109, 111, 118, 101]⟩ : ByteArray), (⟨#[97, 116, 116, 97, 99, 104]⟩ : ByteArray), (⟨#[115, 105, 103, 110, 97, 108]⟩ : ByteArray), (⟨#[97, 98, 111, 114, 116]⟩ : ByteArray), (⟨#[108, 105, 115, 116, 101, 110]⟩ : ByteArray), (⟨#[117, 110, 108, 105, 115, 116, 101, 110]⟩ : ByteArray), (⟨#[101, 118, 101, 110, 116]⟩ : ByteArray), (⟨#[115, 101, 110, 100]⟩ : ByteArray), (⟨#[112, 114, 101, 118, 101, 110, 116]⟩ : ByteArray), (⟨#[115, 116, 111, 112]⟩ : ByteArray), (⟨#[115, 116, 111, 112, 110, 111, 119]⟩ : ByteArray), (⟨#[99, 108, 101, 97, 114]⟩ : ByteArray)] : List ByteArray)) := ⟨_, rfl⟩
      replace H : (if 0 ≤ (wrap64 (a0 - 1)) then (if (wrap64 (a0 - 1)) < (y163.length : Int) then (some (rdOf ByteArray.empty y163 (wrap64 (a0 - 1)))) else (none)) else (none)) = some r := by first | (rw [hy163]; with_reducible exact H) | (have H2_ := (Option.bind_some _ _).symm.trans H; rw [hy163]; with_reducible exact H2_) | (have H2_ := (Option.bind_some _ _).symm.trans H; with_reducible exact H2_) | with_reducible exact H | (rw [hy163]; exact H) | exact H
      have Ny163 := Aside0.mk hy163
      clear hy163
      obtain ⟨ji4, hji4⟩ : ∃ j_ : Int, (wrap64 (a0 - 1)) = j_ := ⟨_, rfl⟩
      replace H : (if 0 ≤ (ji4) then (if (ji4) < (y163.length : Int) then (some (rdOf ByteArray.empty y163 (ji4))) else (none)) else (none)) = some r := by first | (rw [hji4] at H; exact H) | (simp only [hji4] at H ⊢; exact H)
      have hji4w : (IntKind.i64.wrap (a0 - 1)) = ji4 := (i64_w _).trans hji4
      by_cases c5 : 0 ≤ (ji4)
      · rw [if_pos c5] at H
        have c5b0 : decide (0 ≤ (ji4)) = true := decide_eq_true c5
        clear c5
        by_cases c6 : (ji4) < (y163.length : Int)
        · rw [if_pos c6] at H
          have c6b0 : decide ((ji4) < (y163.length : Int)) = true := decide_eq_true c6
          clear c6
          obtain rfl := Option.some.inj H
          go_enter Tryz.func34, Tryz.ntmps34
          go_wp2_with (first | ((with_reducible refine gate_dst (N := 9) rfl ?_); refine Kd.R_lit Kd.string _ 9 ?hg (N := 9) ?hd (xs := ([(⟨#[109, 97, 107, 101]⟩ : ByteArray), (⟨#[119, 97, 110, 116]⟩ : ByteArray), (⟨#[110, 97, 109, 101]⟩ : ByteArray), (⟨#[97, 112, 112, 101, 110, 100]⟩ : ByteArray), (⟨#[98, 101, 102, 111, 114, 101]⟩ : ByteArray), (⟨#[114, 101, 109, 111, 118, 101]⟩ : ByteArray), (⟨#[97, 116, 116, 97, 99, 104]⟩ : ByteArray), (⟨#[115, 105, 103, 110, 97, 108]⟩ : ByteArray), (⟨#[97, 98, 111, 114, 116]⟩ : ByteArray), (⟨#[108, 105, 115, 116, 101, 110]⟩ : ByteArray), (⟨#[117, 110, 108, 105, 115, 116, 101, 110]⟩ : ByteArray), (⟨#[101, 118, 101, 110, 116]⟩ : ByteArray), (⟨#[115, 101, 110, 100]⟩ : ByteArray), (⟨#[112, 114, 101, 118, 101, 110, 116]⟩ : ByteArray), (⟨#[115, 116, 111, 112]⟩ : ByteArray), (⟨#[115, 116, 111, 112, 110, 111, 119]⟩ : ByteArray), (⟨#[99, 108, 101, 97, 114]⟩ : ByteArray)] : List ByteArray)) (inner := [.string (⟨#[109, 97, 107, 101]⟩ : ByteArray), .string (⟨#[119, 97, 110, 116]⟩ : ByteArray), .string (⟨#[110, 97, 109, 101]⟩ : ByteArray), .string (⟨#[97, 112, 112, 101, 110, 100]⟩ : ByteArray), .string (⟨#[98, 101, 102, 111, 114, 101]⟩ : ByteArray), .string (⟨#[114, 101, 109, 111, 118, 101]⟩ : ByteArray), .string (⟨#[97, 116, 116, 97, 99, 104]⟩ : ByteArray), .string (⟨#[115, 105, 103, 110, 97, 108]⟩ : ByteArray), .string (⟨#[97, 98, 111, 114, 116]⟩ : ByteArray), .string (⟨#[108, 105, 115, 116, 101, 110]⟩ : ByteArray), .string (⟨#[117, 110, 108, 105, 115, 116, 101, 110]⟩ : ByteArray), .string (⟨#[101, 118, 101, 110, 116]⟩ : ByteArray), .string (⟨#[115, 101, 110, 100]⟩ : ByteArray), .string (⟨#[112, 114, 101, 118, 101, 110, 116]⟩ : ByteArray), .string (⟨#[115, 116, 111, 112]⟩ : ByteArray), .string (⟨#[115, 116, 111, 112, 110, 111, 119]⟩ : ByteArray), .string (⟨#[99, 108, 101, 97, 114]⟩ : ByteArray)]) (ok := fun _ => True) (okp := fun _ => True) ?hr ?hp (fun _ hk => hk) trivial (Below.refl _ _) (Nat.le_refl _) (by simp) ?_; (case hd => rfl); (case hg => rfl); (case hr => first | (go_simp; done) | (go_simp; rfl)); (case hp => exact (Reps.one (show Kd.M Kd.string _ _ _ (⟨#[109, 97, 107, 101]⟩ : ByteArray) [.string (⟨#[109, 97, 107, 101]⟩ : ByteArray)] from rfl) (Reps.one (show Kd.M Kd.string _ _ _ (⟨#[119, 97, 110, 116]⟩ : ByteArray) [.string (⟨#[119, 97, 110, 116]⟩ : ByteArray)] from rfl) (Reps.one (show Kd.M Kd.string _ _ _ (⟨#[110, 97, 109, 101]⟩ : ByteArray) [.string (⟨#[110, 97, 109, 101]⟩ : ByteArray)] from rfl) (Reps.one (show Kd.M Kd.string _ _ _ (⟨#[97, 112, 112, 101, 110, 100]⟩ : ByteArray) [.string (⟨#[97, 112, 112, 101, 110, 100]⟩ : ByteArray)] from rfl) (Reps.one (show Kd.M Kd.string _ _ _ (⟨#[98, 101, 102, 111, 114, 101]⟩ : ByteArray) [.string (⟨#[98, 101, 102, 111, 114, 101]⟩ : ByteArray)] from rfl) (Reps.one (show Kd.M Kd.string _ _ _ (⟨#[114, 101, 109, 111, 118, 101]⟩ : ByteArray) [.string (⟨#[114, 101, 109, 111, 118, 101]⟩ : ByteArray)] from rfl) (Reps.one (show Kd.M Kd.string _ _ _ (⟨#[97, 116, 116, 97, 99, 104]⟩ : ByteArray) [.string (⟨#[97, 116, 116, 97, 99, 104]⟩ : ByteArray)] from rfl) (Reps.one (show Kd.M Kd.string _ _ _ (⟨#[115, 105, 103, 110, 97, 108]⟩ : ByteArray) [.string (⟨#[115, 105, 103, 110, 97, 108]⟩ : ByteArray)] from rfl) (Reps.one (show Kd.M Kd.string _ _ _ (⟨#[97, 98, 111, 114, 116]⟩ : ByteArray) [.string (⟨#[97, 98, 111, 114, 116]⟩ : ByteArray)] from rfl) (Reps.one (show Kd.M Kd.string _ _ _ (⟨#[108, 105, 115, 116, 101, 110]⟩ : ByteArray) [.string (⟨#[108, 105, 115, 116, 101, 110]⟩ : ByteArray)] from rfl) (Reps.one (show Kd.M Kd.string _ _ _ (⟨#[117, 110, 108, 105, 115, 116, 101, 110]⟩ : ByteArray) [.string (⟨#[117, 110, 108, 105, 115, 116, 101, 110]⟩ : ByteArray)] from rfl) (Reps.one (show Kd.M Kd.string _ _ _ (⟨#[101, 118, 101, 110, 116]⟩ : ByteArray) [.string (⟨#[101, 118, 101, 110, 116]⟩ : ByteArray)] from rfl) (Reps.one (show Kd.M Kd.string _ _ _ (⟨#[115, 101, 110, 100]⟩ : ByteArray) [.string (⟨#[115, 101, 110, 100]⟩ : ByteArray)] from rfl) (Reps.one (show Kd.M Kd.string _ _ _ (⟨#[112, 114, 101, 118, 101, 110, 116]⟩ : ByteArray) [.string (⟨#[112, 114, 101, 118, 101, 110, 116]⟩ : ByteArray)] from rfl) (Reps.one (show Kd.M Kd.string _ _ _ (⟨#[115, 116, 111, 112]⟩ : ByteArray) [.string (⟨#[115, 116, 111, 112]⟩ : ByteArray)] from rfl) (Reps.one (show Kd.M Kd.string _ _ _ (⟨#[115, 116, 111, 112, 110, 111, 119]⟩ : ByteArray) [.string (⟨#[115, 116, 111, 112, 110, 111, 119]⟩ : ByteArray)] from rfl) (Reps.one (show Kd.M Kd.string _ _ _ (⟨#[99, 108, 101, 97, 114]⟩ : ByteArray) [.string (⟨#[99, 108, 101, 97, 114]⟩ : ByteArray)] from rfl) (Reps.none _ _))))))))))))))))))); intro v164 w7 ho8 hb hg_ hnew_; clear hg_ hnew_; (first | rw [← Ny163.out] at ho8 | (simp only [Int.reduceToNat] at ho8; rw [← Ny163.out] at ho8)); have n0_ := Aside0.mk (Kd.R_lower ho8 (below_size (by repeat (first | (with_reducible first | exact HB.out | apply below_alloc | apply pw_below_drewN | apply below_drew1) | exact HB.out)))); have n1_ := Aside0.mk (below_step (by repeat (first | (with_reducible first | exact HB.out | apply below_alloc | apply pw_below_drewN | apply below_drew1) | exact HB.out)) hb); clear HB; have HO165 := n0_; have HB := n1_; clear n0_ n1_; clear hb ho8; obtain ⟨Ao9, co9, eo9⟩ := Kd.R_slice HO165.out; subst eo9; have p166 : 0 ≤ ((ji4) : Int) := of_decide_eq_true (by first | (with_reducible assumption) | assumption); have q166 : (ji4) < (y163.length : Int) := of_decide_eq_true (by first | (with_reducible assumption) | assumption); obtain ⟨ad166, e166, hx166_0⟩ := Kd.at_string (Kd.R_reads' HO165.out).2.2 (ji4) p166 q166; cases e166; replace p166 := eq_true p166; replace q166 := eq_true q166))
          go_ret
          exact ⟨by first | rfl | (simp [errW_none, errW_some] <;> rfl) | (simp only [← hji4]; first | rfl | (simp [errW_none, errW_some] <;> rfl)) | (simp [*, errW_none, errW_some] <;> rfl), by repeat (first | (with_reducible first | exact HB.out | apply below_alloc | apply pw_below_drewN | apply below_drew1) | exact HB.out)⟩
        · rw [if_neg c6] at H
          exact absurd H (by simp)
      · rw [if_neg c5] at H
        exact absurd H (by simp)

/-! ### towncrierref19_Numbers: function 35 -/
mutual
def towncrierref19_Numbers.j0 : Nat → Int → Bool → Option (Int)
  | 0, _, _ => none
  | k + 1, x3, x6 => if x6 = true then (some 3) else (if x3 = 1 then (towncrierref19_Numbers.j1 k x3 (x3 == 1)) else (if x3 = 4 then (towncrierref19_Numbers.j1 k x3 (x3 == 4)) else (if x3 = 6 then (towncrierref19_Numbers.j1 k x3 (x3 == 6)) else (if x3 = 7 then (towncrierref19_Numbers.j1 k x3 (x3 == 7)) else (if x3 = 8 then (towncrierref19_Numbers.j1 k x3 (x3 == 8)) else (if x3 = 12 then (towncrierref19_Numbers.j1 k x3 (x3 == 12)) else (towncrierref19_Numbers.j1 k x3 (x3 == 13))))))))
def towncrierref19_Numbers.j1 : Nat → Int → Bool → Option (Int)
  | 0, _, _ => none
  | k + 1, x3, x9 => if x9 = true then (some 2) else (if x3 = 2 then (some 1) else (if x3 = 3 then (some 1) else (if x3 = 9 then (some 1) else (if x3 = 14 then (some 1) else (if x3 = 15 then (some 1) else (if x3 = 16 then (some 1) else (if x3 = 17 then (some 1) else (some 0))))))))
end
def towncrierref19_Numbers.f (k : Nat) (a0 : Int) : Option (Int) := if a0 = 10 then (some 4) else (if a0 = 5 then (towncrierref19_Numbers.j0 k a0 (a0 == 5)) else (towncrierref19_Numbers.j0 k a0 (a0 == 11)))
theorem towncrierref19_Numbers.mono_l : ∀ k, (∀ y0 y1, LeO (towncrierref19_Numbers.j0 k y0 y1) (towncrierref19_Numbers.j0 (k + 1) y0 y1)) ∧ (∀ y0 y1, LeO (towncrierref19_Numbers.j1 k y0 y1) (towncrierref19_Numbers.j1 (k + 1) y0 y1))
  | 0 => ⟨fun _ _ r h => by simp [towncrierref19_Numbers.j0] at h, fun _ _ r h => by simp [towncrierref19_Numbers.j1] at h⟩
  | k + 1 => by
    obtain ⟨ih0, ih1⟩ := towncrierref19_Numbers.mono_l k
    refine ⟨?_, ?_⟩
    · intro y0 y1
      unfold towncrierref19_Numbers.j0
      repeat' first
      | (with_reducible exact ih0 _ _)
      | (with_reducible exact ih1 _ _)
      | (with_reducible exact LeO.refl _)
      | (with_reducible exact LeO.none _)
      | (with_reducible refine LeO.ite ?_ ?_)
      | (with_reducible refine LeO.bind ?_ (fun _ => ?_))
      | exact ih0 _ _
      | exact ih1 _ _
      | exact LeO.none _
      | refine LeO.ite ?_ ?_
      | refine LeO.bind ?_ (fun _ => ?_)
    · intro y0 y1
      unfold towncrierref19_Numbers.j1
      repeat' first
      | (with_reducible exact ih0 _ _)
      | (with_reducible exact ih1 _ _)
      | (with_reducible exact LeO.refl _)
      | (with_reducible exact LeO.none _)
      | (with_reducible refine LeO.ite ?_ ?_)
      | (with_reducible refine LeO.bind ?_ (fun _ => ?_))
      | exact ih0 _ _
      | exact ih1 _ _
      | exact LeO.none _
      | refine LeO.ite ?_ ?_
      | refine LeO.bind ?_ (fun _ => ?_)
theorem towncrierref19_Numbers.mono : ∀ a0 k, LeO (towncrierref19_Numbers.f k a0) (towncrierref19_Numbers.f (k + 1) a0) := by
  intro a0 k
  obtain ⟨ih0, ih1⟩ := towncrierref19_Numbers.mono_l k
  unfold towncrierref19_Numbers.f
  repeat' first
      | (with_reducible exact ih0 _ _)
      | (with_reducible exact ih1 _ _)
      | (with_reducible exact LeO.refl _)
      | (with_reducible exact LeO.none _)
      | (with_reducible refine LeO.ite ?_ ?_)
      | (with_reducible refine LeO.bind ?_ (fun _ => ?_))
      | exact ih0 _ _
      | exact ih1 _ _
      | exact LeO.none _
      | refine LeO.ite ?_ ?_
      | refine LeO.bind ?_ (fun _ => ?_)
set_option maxHeartbeats 8000000 in
set_option maxRecDepth 100000 in
theorem towncrierref19_Numbers.calls (k : Nat) (a0 : Int) (r : Int) (w : World) (h : towncrierref19_Numbers.f k a0 = some r) :
    Calls Tryz.prog 35 #[.int .i64 a0] w fun e w' => e = .returned (.int .i64 r) ∧ Drawn0 w w' := by
  have H : (if a0 = 10 then (some 4) else (if a0 = 5 then (towncrierref19_Numbers.j0 k a0 (a0 == 5)) else (towncrierref19_Numbers.j0 k a0 (a0 == 11)))) = some r := h
  clear h
  by_cases c2 : a0 = 10
  · rw [if_pos c2] at H
    have c2b0 : (a0 == 10) = true := beq_iff_eq.mpr c2
    have c2b1 : (a0 != 10) = false := bne_eq_false_iff_eq.mpr c2
    clear c2
    obtain rfl := Option.some.inj H
    go_enter Tryz.func35, Tryz.ntmps35
    go_wp2
    go_ret
    exact ⟨by first | rfl | (simp; done) | (simp [*]; done), by repeat (first | exact Drawn0.refl _ | apply Drawn0.step)⟩
  · rw [if_neg c2] at H
    have c2b0 : (a0 == 10) = false := beq_eq_false_iff_ne.mpr c2
    have c2b1 : (a0 != 10) = true := bne_iff_ne.mpr c2
    have HC3 := Aside0.mk H
    clear H
    go_enter Tryz.func35, Tryz.ntmps35
    go_upto_if 6 with (fail)
    go_cut [6] (fun v6 wc => ∃ (kq : Nat) (x6_2 : Bool), v6 = .bool x6_2 ∧ Aside0 (towncrierref19_Numbers.j0 kq a0 x6_2 = some r) ∧ Aside0 (kq ≤ k) ∧ Drawn0 w wc)
    case first =>
      have H := HC3.out
      clear HC3
      by_cases c4 : a0 = 5
      · rw [if_pos c4] at H
        have c4b0 : (a0 == 5) = true := beq_iff_eq.mpr c4
        have c4b1 : (a0 != 5) = false := bne_eq_false_iff_eq.mpr c4
        clear c4
        (first | rw [c4b0] | (simp only [i64_w, i32_w]; rw [c4b0]) | skip)
        have H' := Aside0.mk H
        clear H
        go_wp2
        go_meet
        case rel => exact ⟨_, ((a0 == 5)), (by first | rfl | (simp; done) | (simp [*]; done)), H', ⟨by first | omega | exact Nat.le_refl _⟩, by repeat (first | exact Drawn0.refl _ | apply Drawn0.step)⟩
      · rw [if_neg c4] at H
        have c4b0 : (a0 == 5) = false := beq_eq_false_iff_ne.mpr c4
        have c4b1 : (a0 != 5) = true := bne_iff_ne.mpr c4
        (first | rw [c4b0] | (simp only [i64_w, i32_w]; rw [c4b0]) | skip)
        have H' := Aside0.mk H
        clear H
        go_wp2
        go_meet
        case rel => exact ⟨_, ((a0 == 11)), (by first | rfl | (simp; done) | (simp [*]; done)), H', ⟨by first | omega | exact Nat.le_refl _⟩, by repeat (first | exact Drawn0.refl _ | apply Drawn0.step)⟩
    case rest =>
      clear HC3
      try clear c2
      try clear c2b0
      try clear c2b1
      try clear p2
      try clear c3
      try clear c4
      try clear c4b0
      try clear c4b1
      obtain ⟨kq, x6_2, rfl, HA, HJ2, ⟨mc2, rfl⟩⟩ := hcut
      cases kq with
      | zero => exact absurd HA.out (by simp [towncrierref19_Numbers.j0])
      | succ kj2 =>
        have H := HA.out
        clear HA
        simp only [towncrierref19_Numbers.j0] at H
        by_cases c5 : x6_2 = true
        · subst c5
          have H1 : (some 3) = some r := by rw [if_pos rfl] at H; exact H
          clear H
          have H := H1
          clear H1
          obtain rfl := Option.some.inj H
          go_wp2
          go_ret
          exact ⟨by first | rfl | (simp; done) | (simp [*]; done), by repeat (first | exact Drawn0.refl _ | apply Drawn0.step)⟩
        · replace c5 := Bool.eq_false_iff.mpr c5
          subst c5
          have H1 : (if a0 = 1 then (towncrierref19_Numbers.j1 kj2 a0 (a0 == 1)) else (if a0 = 4 then (towncrierref19_Numbers.j1 kj2 a0 (a0 == 4)) else (if a0 = 6 then (towncrierref19_Numbers.j1 kj2 a0 (a0 == 6)) else (if a0 = 7 then (towncrierref19_Numbers.j1 kj2 a0 (a0 == 7)) else (if a0 = 8 then (towncrierref19_Numbers.j1 kj2 a0 (a0 == 8)) else (if a0 = 12 then (towncrierref19_Numbers.j1 kj2 a0 (a0 == 12)) else (towncrierref19_Numbers.j1 kj2 a0 (a0 == 13)))))))) = some r := by rw [if_neg (show ¬ (false = true) by decide)] at H; exact H
          clear H
          have H := H1
          clear H1
          have HC6 := Aside0.mk H
          clear H
          go_upto_if 9 with (fail)
          go_cut [9] (fun v9 wc => ∃ (kq : Nat) (x9_5 : Bool), v9 = .bool x9_5 ∧ Aside0 (towncrierref19_Numbers.j1 kq a0 x9_5 = some r) ∧ Aside0 (kq ≤ kj2) ∧ Drawn0 w wc)
          case first =>
            have H := HC6.out
            clear HC6
            by_cases c7 : a0 = 1
            · rw [if_pos c7] at H
              have c7b0 : (a0 == 1) = true := beq_iff_eq.mpr c7
              have c7b1 : (a0 != 1) = false := bne_eq_false_iff_eq.mpr c7
              clear c7
              (first | rw [c7b0] | (simp only [i64_w, i32_w]; rw [c7b0]) | skip)
              have H' := Aside0.mk H
              clear H
              go_wp2
              go_meet
              case rel => exact ⟨_, ((a0 == 1)), (by first | rfl | (simp; done) | (simp [*]; done)), H', ⟨by have := HJ2.out; first | omega | exact Nat.le_refl _⟩, by repeat (first | exact Drawn0.refl _ | apply Drawn0.step)⟩
            · rw [if_neg c7] at H
              have c7b0 : (a0 == 1) = false := beq_eq_false_iff_ne.mpr c7
              have c7b1 : (a0 != 1) = true := bne_iff_ne.mpr c7
              (first | rw [c7b0] | (simp only [i64_w, i32_w]; rw [c7b0]) | skip)
              by_cases c8 : a0 = 4
              · rw [if_pos c8] at H
                have c8b0 : (a0 == 4) = true := beq_iff_eq.mpr c8
                have c8b1 : (a0 != 4) = false := bne_eq_false_iff_eq.mpr c8
                clear c8
                have H' := Aside0.mk H
                clear H
                go_wp2
                go_meet
                case rel => exact ⟨_, ((a0 == 4)), (by first | rfl | (simp; done) | (simp [*]; done)), H', ⟨by have := HJ2.out; first | omega | exact Nat.le_refl _⟩, by repeat (first | exact Drawn0.refl _ | apply Drawn0.step)⟩
              · rw [if_neg c8] at H
                have c8b0 : (a0 == 4) = false := beq_eq_false_iff_ne.mpr c8
                have c8b1 : (a0 != 4) = true := bne_iff_ne.mpr c8
                by_cases c9 : a0 = 6
                · rw [if_pos c9] at H
                  have c9b0 : (a0 == 6) = true := beq_iff_eq.mpr c9
                  have c9b1 : (a0 != 6) = false := bne_eq_false_iff_eq.mpr c9
                  clear c9
                  have H' := Aside0.mk H
                  clear H
                  go_wp2
                  go_meet
                  case rel => exact ⟨_, ((a0 == 6)), (by first | rfl | (simp; done) | (simp [*]; done)), H', ⟨by have := HJ2.out; first | omega | exact Nat.le_refl _⟩, by repeat (first | exact Drawn0.refl _ | apply Drawn0.step)⟩
                · rw [if_neg c9] at H
                  have c9b0 : (a0 == 6) = false := beq_eq_false_iff_ne.mpr c9
                  have c9b1 : (a0 != 6) = true := bne_iff_ne.mpr c9
                  by_cases c10 : a0 = 7
                  · rw [if_pos c10] at H
                    have c10b0 : (a0 == 7) = true := beq_iff_eq.mpr c10
                    have c10b1 : (a0 != 7) = false := bne_eq_false_iff_eq.mpr c10
                    clear c10
                    have H' := Aside0.mk H
                    clear H
                    go_wp2
                    go_meet
                    case rel => exact ⟨_, ((a0 == 7)), (by first | rfl | (simp; done) | (simp [*]; done)), H', ⟨by have := HJ2.out; first | omega | exact Nat.le_refl _⟩, by repeat (first | exact Drawn0.refl _ | apply Drawn0.step)⟩
                  · rw [if_neg c10] at H
                    have c10b0 : (a0 == 7) = false := beq_eq_false_iff_ne.mpr c10
                    have c10b1 : (a0 != 7) = true := bne_iff_ne.mpr c10
                    by_cases c11 : a0 = 8
                    · rw [if_pos c11] at H
                      have c11b0 : (a0 == 8) = true := beq_iff_eq.mpr c11
                      have c11b1 : (a0 != 8) = false := bne_eq_false_iff_eq.mpr c11
                      clear c11
                      have H' := Aside0.mk H
                      clear H
                      go_wp2
                      go_meet
                      case rel => exact ⟨_, ((a0 == 8)), (by first | rfl | (simp; done) | (simp [*]; done)), H', ⟨by have := HJ2.out; first | omega | exact Nat.le_refl _⟩, by repeat (first | exact Drawn0.refl _ | apply Drawn0.step)⟩
                    · rw [if_neg c11] at H
                      have c11b0 : (a0 == 8) = false := beq_eq_false_iff_ne.mpr c11
                      have c11b1 : (a0 != 8) = true := bne_iff_ne.mpr c11
                      by_cases c12 : a0 = 12
                      · rw [if_pos c12] at H
                        have c12b0 : (a0 == 12) = true := beq_iff_eq.mpr c12
                        have c12b1 : (a0 != 12) = false := bne_eq_false_iff_eq.mpr c12
                        clear c12
                        have H' := Aside0.mk H
                        clear H
                        go_wp2
                        go_meet
                        case rel => exact ⟨_, ((a0 == 12)), (by first | rfl | (simp; done) | (simp [*]; done)), H', ⟨by have := HJ2.out; first | omega | exact Nat.le_refl _⟩, by repeat (first | exact Drawn0.refl _ | apply Drawn0.step)⟩
                      · rw [if_neg c12] at H
                        have c12b0 : (a0 == 12) = false := beq_eq_false_iff_ne.mpr c12
                        have c12b1 : (a0 != 12) = true := bne_iff_ne.mpr c12
                        have H' := Aside0.mk H
                        clear H
                        go_wp2
                        go_meet
                        case rel => exact ⟨_, ((a0 == 13)), (by first | rfl | (simp; done) | (simp [*]; done)), H', ⟨by have := HJ2.out; first | omega | exact Nat.le_refl _⟩, by repeat (first | exact Drawn0.refl _ | apply Drawn0.step)⟩
          case rest =>
            clear HC6
            try clear c1
            try clear c2
            try clear c2b0
            try clear c2b1
            try clear p2
            try clear c3
            try clear c4
            try clear c4b0
            try clear c4b1
            try clear c5
            try clear c7
            try clear c7b0
            try clear c7b1
            try clear c8
            try clear c8b0
            try clear c8b1
            try clear c9
            try clear c9b0
            try clear c9b1
            try clear c10
            try clear c10b0
            try clear c10b1
            try clear c11
            try clear c11b0
            try clear c11b1
            try clear c12
            try clear c12b0
            try clear c12b1
            try clear p2
            obtain ⟨kq, x9_5, rfl, HA, HJ5, ⟨mc5, rfl⟩⟩ := hcut
            cases kq with
            | zero => exact absurd HA.out (by simp [towncrierref19_Numbers.j1])
            | succ kj5 =>
              have H := HA.out
              clear HA
              simp only [towncrierref19_Numbers.j1] at H
              by_cases c13 : x9_5 = true
              · subst c13
                have H1 : (some 2) = some r := by rw [if_pos rfl] at H; exact H
                clear H
                have H := H1
                clear H1
                obtain rfl := Option.some.inj H
                go_wp2
                go_ret
                exact ⟨by first | rfl | (simp; done) | (simp [*]; done), by repeat (first | exact Drawn0.refl _ | apply Drawn0.step)⟩
              · replace c13 := Bool.eq_false_iff.mpr c13
                subst c13
                have H1 : (if a0 = 2 then (some 1) else (if a0 = 3 then (some 1) else (if a0 = 9 then (some 1) else (if a0 = 14 then (some 1) else (if a0 = 15 then (some 1) else (if a0 = 16 then (some 1) else (if a0 = 17 then (some 1) else (some 0)))))))) = some r := by rw [if_neg (show ¬ (false = true) by decide)] at H; exact H
                clear H
                have H := H1
                clear H1
                by_cases c14 : a0 = 2
                · rw [if_pos c14] at H
                  have c14b0 : (a0 == 2) = true := beq_iff_eq.mpr c14
                  have c14b1 : (a0 != 2) = false := bne_eq_false_iff_eq.mpr c14
                  clear c14
                  obtain rfl := Option.some.inj H
                  go_wp2
                  go_ret
                  exact ⟨by first | rfl | (simp; done) | (simp [*]; done), by repeat (first | exact Drawn0.refl _ | apply Drawn0.step)⟩
                · rw [if_neg c14] at H
                  have c14b0 : (a0 == 2) = false := beq_eq_false_iff_ne.mpr c14
                  have c14b1 : (a0 != 2) = true := bne_iff_ne.mpr c14
                  by_cases c15 : a0 = 3
                  · rw [if_pos c15] at H
                    have c15b0 : (a0 == 3) = true := beq_iff_eq.mpr c15
                    have c15b1 : (a0 != 3) = false := bne_eq_false_iff_eq.mpr c15
                    clear c15
                    obtain rfl := Option.some.inj H
                    go_wp2
                    go_ret
                    exact ⟨by first | rfl | (simp; done) | (simp [*]; done), by repeat (first | exact Drawn0.refl _ | apply Drawn0.step)⟩
                  · rw [if_neg c15] at H
                    have c15b0 : (a0 == 3) = false := beq_eq_false_iff_ne.mpr c15
                    have c15b1 : (a0 != 3) = true := bne_iff_ne.mpr c15
                    by_cases c16 : a0 = 9
                    · rw [if_pos c16] at H
                      have c16b0 : (a0 == 9) = true := beq_iff_eq.mpr c16
                      have c16b1 : (a0 != 9) = false := bne_eq_false_iff_eq.mpr c16
                      clear c16
                      obtain rfl := Option.some.inj H
                      go_wp2
                      go_ret
                      exact ⟨by first | rfl | (simp; done) | (simp [*]; done), by repeat (first | exact Drawn0.refl _ | apply Drawn0.step)⟩
                    · rw [if_neg c16] at H
                      have c16b0 : (a0 == 9) = false := beq_eq_false_iff_ne.mpr c16
                      have c16b1 : (a0 != 9) = true := bne_iff_ne.mpr c16
                      by_cases c17 : a0 = 14
                      · rw [if_pos c17] at H
                        have c17b0 : (a0 == 14) = true := beq_iff_eq.mpr c17
                        have c17b1 : (a0 != 14) = false := bne_eq_false_iff_eq.mpr c17
                        clear c17
                        obtain rfl := Option.some.inj H
                        go_wp2
                        go_ret
                        exact ⟨by first | rfl | (simp; done) | (simp [*]; done), by repeat (first | exact Drawn0.refl _ | apply Drawn0.step)⟩
                      · rw [if_neg c17] at H
                        have c17b0 : (a0 == 14) = false := beq_eq_false_iff_ne.mpr c17
                        have c17b1 : (a0 != 14) = true := bne_iff_ne.mpr c17
                        by_cases c18 : a0 = 15
                        · rw [if_pos c18] at H
                          have c18b0 : (a0 == 15) = true := beq_iff_eq.mpr c18
                          have c18b1 : (a0 != 15) = false := bne_eq_false_iff_eq.mpr c18
                          clear c18
                          obtain rfl := Option.some.inj H
                          go_wp2
                          go_ret
                          exact ⟨by first | rfl | (simp; done) | (simp [*]; done), by repeat (first | exact Drawn0.refl _ | apply Drawn0.step)⟩
                        · rw [if_neg c18] at H
                          have c18b0 : (a0 == 15) = false := beq_eq_false_iff_ne.mpr c18
                          have c18b1 : (a0 != 15) = true := bne_iff_ne.mpr c18
                          by_cases c19 : a0 = 16
                          · rw [if_pos c19] at H
                            have c19b0 : (a0 == 16) = true := beq_iff_eq.mpr c19
                            have c19b1 : (a0 != 16) = false := bne_eq_false_iff_eq.mpr c19
                            clear c19
                            obtain rfl := Option.some.inj H
                            go_wp2
                            go_ret
                            exact ⟨by first | rfl | (simp; done) | (simp [*]; done), by repeat (first | exact Drawn0.refl _ | apply Drawn0.step)⟩
                          · rw [if_neg c19] at H
                            have c19b0 : (a0 == 16) = false := beq_eq_false_iff_ne.mpr c19
                            have c19b1 : (a0 != 16) = true := bne_iff_ne.mpr c19
                            by_cases c20 : a0 = 17
                            · rw [if_pos c20] at H
                              have c20b0 : (a0 == 17) = true := beq_iff_eq.mpr c20
                              have c20b1 : (a0 != 17) = false := bne_eq_false_iff_eq.mpr c20
                              clear c20
                              obtain rfl := Option.some.inj H
                              go_wp2
                              go_ret
                              exact ⟨by first | rfl | (simp; done) | (simp [*]; done), by repeat (first | exact Drawn0.refl _ | apply Drawn0.step)⟩
                            · rw [if_neg c20] at H
                              have c20b0 : (a0 == 17) = false := beq_eq_false_iff_ne.mpr c20
                              have c20b1 : (a0 != 17) = true := bne_iff_ne.mpr c20
                              obtain rfl := Option.some.inj H
                              go_wp2
                              go_ret
                              exact ⟨by first | rfl | (simp; done) | (simp [*]; done), by repeat (first | exact Drawn0.refl _ | apply Drawn0.step)⟩

/-! ### towncrierref19_Worded: function 37 -/
def towncrierref19_Worded.f (a0 : Int) : Option (Bool) := if a0 ≥ 1 then (if a0 ≤ 3 then (some true) else (if a0 ≥ 10 then (some (decide (a0 ≤ 12))) else (some false))) else (if a0 ≥ 10 then (some (decide (a0 ≤ 12))) else (some false))
set_option maxHeartbeats 8000000 in
set_option maxRecDepth 100000 in
theorem towncrierref19_Worded.calls (a0 : Int) (r : Bool) (w : World) (h : towncrierref19_Worded.f a0 = some r) :
    Calls Tryz.prog 37 #[.int .i64 a0] w fun e w' => e = .returned (.bool r) ∧ Drawn0 w w' := by
  have H : (if a0 ≥ 1 then (if a0 ≤ 3 then (some true) else (if a0 ≥ 10 then (some (decide (a0 ≤ 12))) else (some false))) else (if a0 ≥ 10 then (some (decide (a0 ≤ 12))) else (some false))) = some r := h
  clear h
  by_cases c2 : a0 ≥ 1
  · rw [if_pos c2] at H
    have c2b0 : decide (1 ≤ a0) = true := decide_eq_true c2
    clear c2
    by_cases c3 : a0 ≤ 3
    · rw [if_pos c3] at H
      have c3b0 : decide (a0 ≤ 3) = true := decide_eq_true c3
      clear c3
      obtain rfl := Option.some.inj H
      go_enter Tryz.func37, Tryz.ntmps37
      go_wp2
      go_ret
      exact ⟨by first | rfl | (simp; done) | (simp [*]; done), by repeat (first | exact Drawn0.refl _ | apply Drawn0.step)⟩
    · rw [if_neg c3] at H
      have c3b0 : decide (a0 ≤ 3) = false := decide_eq_false c3
      clear c3
      by_cases c4 : a0 ≥ 10
      · rw [if_pos c4] at H
        have c4b0 : decide (10 ≤ a0) = true := decide_eq_true c4
        clear c4
        obtain rfl := Option.some.inj H
        go_enter Tryz.func37, Tryz.ntmps37
        go_wp2
        go_ret
        exact ⟨by first | rfl | (simp; done) | (simp [*]; done), by repeat (first | exact Drawn0.refl _ | apply Drawn0.step)⟩
      · rw [if_neg c4] at H
        have c4b0 : decide (10 ≤ a0) = false := decide_eq_false c4
        clear c4
        obtain rfl := Option.some.inj H
        go_enter Tryz.func37, Tryz.ntmps37
        go_wp2
        go_ret
        exact ⟨by first | rfl | (simp; done) | (simp [*]; done), by repeat (first | exact Drawn0.refl _ | apply Drawn0.step)⟩
  · rw [if_neg c2] at H
    have c2b0 : decide (1 ≤ a0) = false := decide_eq_false c2
    clear c2
    by_cases c5 : a0 ≥ 10
    · rw [if_pos c5] at H
      have c5b0 : decide (10 ≤ a0) = true := decide_eq_true c5
      clear c5
      obtain rfl := Option.some.inj H
      go_enter Tryz.func37, Tryz.ntmps37
      go_wp2
      go_ret
      exact ⟨by first | rfl | (simp; done) | (simp [*]; done), by repeat (first | exact Drawn0.refl _ | apply Drawn0.step)⟩
    · rw [if_neg c5] at H
      have c5b0 : decide (10 ≤ a0) = false := decide_eq_false c5
      clear c5
      obtain rfl := Option.some.inj H
      go_enter Tryz.func37, Tryz.ntmps37
      go_wp2
      go_ret
      exact ⟨by first | rfl | (simp; done) | (simp [*]; done), by repeat (first | exact Drawn0.refl _ | apply Drawn0.step)⟩

/-! ### towncrierref19_Right: function 33 -/
def towncrierref19_Right.l0 : Nat → List Int → Int → Int → Int → Int → Int → Int → ByteArray → Option (Bool)
  | 0, _, _, _, _, _, _, _, _ => none
  | k + 1, x3, x4, x168000, x168001, x168002, x168003, x168004, x168005 => if x4 < 4 then (if 0 ≤ x4 then (if x4 < (x3.length : Int) then (if (rd x3 x4) < (-1000000) then (some false) else (if (rd x3 x4) > 1000000 then (some false) else ((towncrierref19_Numbers.f k x168000).bind fun t174 => (if x4 ≥ t174 then (if (rd x3 x4) = 0 then (towncrierref19_Right.l0 k x3 (wrap64 (x4 + 1)) x168000 x168001 x168002 x168003 x168004 x168005) else (some false)) else (towncrierref19_Right.l0 k x3 (wrap64 (x4 + 1)) x168000 x168001 x168002 x168003 x168004 x168005))))) else (none)) else (none)) else (if x168005.toList = ([] : List UInt8) then (some true) else ((towncrierref19_Worded.f x168000).bind fun t176 => (if t176 = true then ((towncrierref01_Right.f k x168005).bind fun t177 => (some t177)) else (some false))))
def towncrierref19_Right.f (k : Nat) (a0_0 : Int) (a0_1 : Int) (a0_2 : Int) (a0_3 : Int) (a0_4 : Int) (a0_5 : ByteArray) : Option (Bool) := (towncrierref19_Name.f a0_0).bind fun t168 => (if t168.toList = ([] : List UInt8) then (some false) else (towncrierref19_Right.l0 k (([a0_1, a0_2, a0_3, a0_4] : List Int)) 0 a0_0 a0_1 a0_2 a0_3 a0_4 a0_5))
theorem towncrierref19_Right.mono_l : ∀ k, (∀ y0 y1 y2 y3 y4 y5 y6 y7, LeO (towncrierref19_Right.l0 k y0 y1 y2 y3 y4 y5 y6 y7) (towncrierref19_Right.l0 (k + 1) y0 y1 y2 y3 y4 y5 y6 y7))
  | 0 => fun _ _ _ _ _ _ _ _ r h => by simp [towncrierref19_Right.l0] at h
  | k + 1 => by
    have ih0 := towncrierref19_Right.mono_l k
    · intro y0 y1 y2 y3 y4 y5 y6 y7
      unfold towncrierref19_Right.l0
      repeat' first
      | (with_reducible exact ih0 _ _ _ _ _ _ _ _)
      | (with_reducible exact towncrierref01_Right.mono _ _)
      | (with_reducible exact towncrierref19_Numbers.mono _ _)
      | (with_reducible exact LeO.refl _)
      | (with_reducible exact LeO.none _)
      | (with_reducible refine LeO.ite ?_ ?_)
      | (with_reducible refine LeO.bind ?_ (fun _ => ?_))
      | exact ih0 _ _ _ _ _ _ _ _
      | exact towncrierref01_Right.mono _ _
      | exact towncrierref19_Numbers.mono _ _
      | exact LeO.none _
      | refine LeO.ite ?_ ?_
      | refine LeO.bind ?_ (fun _ => ?_)
theorem towncrierref19_Right.mono : ∀ a0 a1 a2 a3 a4 a5 k, LeO (towncrierref19_Right.f k a0 a1 a2 a3 a4 a5) (towncrierref19_Right.f (k + 1) a0 a1 a2 a3 a4 a5) := by
  intro a0 a1 a2 a3 a4 a5 k
  have ih0 := towncrierref19_Right.mono_l k
  unfold towncrierref19_Right.f
  repeat' first
      | (with_reducible exact ih0 _ _ _ _ _ _ _ _)
      | (with_reducible exact towncrierref01_Right.mono _ _)
      | (with_reducible exact towncrierref19_Numbers.mono _ _)
      | (with_reducible exact LeO.refl _)
      | (with_reducible exact LeO.none _)
      | (with_reducible refine LeO.ite ?_ ?_)
      | (with_reducible refine LeO.bind ?_ (fun _ => ?_))
      | exact ih0 _ _ _ _ _ _ _ _
      | exact towncrierref01_Right.mono _ _
      | exact towncrierref19_Numbers.mono _ _
      | exact LeO.none _
      | refine LeO.ite ?_ ?_
      | refine LeO.bind ?_ (fun _ => ?_)
set_option maxHeartbeats 8000000 in
set_option maxRecDepth 100000 in
theorem towncrierref19_Right.calls (k : Nat) (a0_0 : Int) (a0_1 : Int) (a0_2 : Int) (a0_3 : Int) (a0_4 : Int) (a0_5 : ByteArray) (r : Bool) (w : World) (h : towncrierref19_Right.f k a0_0 a0_1 a0_2 a0_3 a0_4 a0_5 = some r) :
    Calls Tryz.prog 33 #[.agg #[.int .i64 a0_0, .int .i64 a0_1, .int .i64 a0_2, .int .i64 a0_3, .int .i64 a0_4, .string a0_5]] w fun e w' => e = .returned (.bool r) ∧ Below w.heap.size w w' := by
  have hu38 := Tryz.underlying38
  have HB := Aside0.mk (Below.refl w.heap.size w)
  have H : ((towncrierref19_Name.f a0_0).bind fun t168 => (if t168.toList = ([] : List UInt8) then (some false) else (towncrierref19_Right.l0 k (([a0_1, a0_2, a0_3, a0_4] : List Int)) 0 a0_0 a0_1 a0_2 a0_3 a0_4 a0_5))) = some r := h
  clear h
  replace H := Option.bind_eq_some_iff.mp H
  obtain ⟨t168, A20, H⟩ := H
  replace H : (if t168.toList = ([] : List UInt8) then (some false) else (towncrierref19_Right.l0 k (([a0_1, a0_2, a0_3, a0_4] : List Int)) 0 a0_0 a0_1 a0_2 a0_3 a0_4 a0_5)) = some r := H
  have A2 := Aside0.mk A20
  clear A20
  by_cases c3 : t168.toList = ([] : List UInt8)
  · rw [if_pos c3] at H
    have c3b0 : (t168.toList == ([] : List UInt8)) = true := beq_iff_eq.mpr c3
    have c3b1 : (t168.toList != ([] : List UInt8)) = false := bne_eq_false_iff_eq.mpr c3
    clear c3
    obtain rfl := Option.some.inj H
    go_enter Tryz.func33, Tryz.ntmps33
    go_wp2_with (first | ((with_reducible refine gate_dst (N := 1) rfl ?_); refine box_event ?hg (N := 1) ?hd (cs := #[.int .i64 a0_0, .int .i64 a0_1, .int .i64 a0_2, .int .i64 a0_3, .int .i64 a0_4, .string a0_5]) (t := 38) ?hr ?_; (case hd => rfl); (case hg => rfl); (case hr => first | (go_simp; done) | (go_simp; rfl)); intro gb167 hg w4 hbox hb; have n0_ := Aside0.mk (below_step (by repeat (first | (with_reducible first | exact HB.out | apply below_alloc | apply pw_below_drewN | apply below_drew1) | exact HB.out)) hb); have n1_ := Aside0.mk (hbox); have n2_ := Aside0.mk ((by rw [hg]; exact (below_size (by repeat (first | (with_reducible first | exact HB.out | apply below_alloc | apply pw_below_drewN | apply below_drew1) | exact HB.out))) : w.heap.size ≤ gb167)); have n3_ := Aside0.mk ((by rw [hg]; exact (below_size (by repeat (first | (with_reducible first | exact HB.out | apply below_alloc | apply pw_below_drewN | apply below_drew1) | exact HB.out))) : w.heap.size ≤ gb167)); clear HB; have HB := n0_; have BK167 := n1_; have GW167 := n2_; have GE167 := n3_; clear n0_ n1_ n2_ n3_; clear hb hbox hg; have hcz5_0 : w4.cell? ⟨gb167, 0, none⟩ = some (.int .i64 a0_0) := (blk_cell BK167.out 0).trans rfl; have hcz5_1 : w4.cell? ⟨gb167, 1, none⟩ = some (.int .i64 a0_1) := (blk_cell BK167.out 1).trans rfl; have hcz5_2 : w4.cell? ⟨gb167, 2, none⟩ = some (.int .i64 a0_2) := (blk_cell BK167.out 2).trans rfl; have hcz5_3 : w4.cell? ⟨gb167, 3, none⟩ = some (.int .i64 a0_3) := (blk_cell BK167.out 3).trans rfl; have hcz5_4 : w4.cell? ⟨gb167, 4, none⟩ = some (.int .i64 a0_4) := (blk_cell BK167.out 4).trans rfl; have hcz5_5 : w4.cell? ⟨gb167, 5, none⟩ = some (.string a0_5) := (blk_cell BK167.out 5).trans rfl; have hfz5_0 := blk_frozen BK167.out 0; have hfz5_1 := blk_frozen BK167.out 1; have hfz5_2 := blk_frozen BK167.out 2; have hfz5_3 := blk_frozen BK167.out 3; have hfz5_4 := blk_frozen BK167.out 4; have hfz5_5 := blk_frozen BK167.out 5) | ((with_reducible refine gate_callee (f := 34) rfl ?_); refine goesL_ (some 7) rfl rfl Tryz.func34 (by kernel_rfl) rfl #[.int .i64 a0_0] rfl (by (try simp only [List.map_toArray, List.map_cons, List.map_nil]); first | done | rfl | (simp only [List.length_drop, List.length_take]; rfl)) ?_; (with_reducible refine (towncrierref19_Name.calls a0_0 t168 _ A2.out).mono ?_); rintro e w6 ⟨rfl, hb⟩; refine ⟨_, rfl, ?_⟩; have n0_ := Aside0.mk (blk_below (g := gb167) (o := .cells #[.int .i64 a0_0, .int .i64 a0_1, .int .i64 a0_2, .int .i64 a0_3, .int .i64 a0_4, .string a0_5] 38 (0, 0)) (by (with_reducible repeat (first | refine blk_drewN ?_ _ | refine blk_drew ?_ | refine blk_alloc ?_ _)); exact BK167.out) hb); have n1_ := Aside0.mk (below_step (by repeat (first | (with_reducible first | exact HB.out | apply below_alloc | apply pw_below_drewN | apply below_drew1 | refine below_set ?_ GE167.out) | exact HB.out)) hb); clear BK167; clear HB; have BK167 := n0_; have HB := n1_; clear n0_ n1_; (try clear hb); (try clear hb2); (try clear hk); (try clear hi)))
    go_ret
    exact ⟨by first | rfl | (simp [errW_none, errW_some] <;> rfl) | (simp [*, errW_none, errW_some] <;> rfl), by repeat (first | (with_reducible first | exact HB.out | apply below_alloc | apply pw_below_drewN | apply below_drew1 | refine below_set ?_ GE167.out) | exact HB.out)⟩
  · rw [if_neg c3] at H
    have c3b0 : (t168.toList == ([] : List UInt8)) = false := beq_eq_false_iff_ne.mpr c3
    have c3b1 : (t168.toList != ([] : List UInt8)) = true := bne_iff_ne.mpr c3
    obtain ⟨y169, hy169⟩ : ∃ y_ : List Int, y_ = (([a0_1, a0_2, a0_3, a0_4] : List Int)) := ⟨_, rfl⟩
    replace H : (towncrierref19_Right.l0 k y169 0 a0_0 a0_1 a0_2 a0_3 a0_4 a0_5) = some r := by first | (rw [hy169]; with_reducible exact H) | (have H2_ := (Option.bind_some _ _).symm.trans H; rw [hy169]; with_reducible exact H2_) | (have H2_ := (Option.bind_some _ _).symm.trans H; with_reducible exact H2_) | with_reducible exact H | (rw [hy169]; exact H) | exact H
    have Ny169 := Aside0.mk hy169
    clear hy169
    have H' := Aside0.mk H
    clear H
    go_enter Tryz.func33, Tryz.ntmps33
    go_wp2_with (first | ((with_reducible refine gate_dst (N := 1) rfl ?_); refine box_event ?hg (N := 1) ?hd (cs := #[.int .i64 a0_0, .int .i64 a0_1, .int .i64 a0_2, .int .i64 a0_3, .int .i64 a0_4, .string a0_5]) (t := 38) ?hr ?_; (case hd => rfl); (case hg => rfl); (case hr => first | (go_simp; done) | (go_simp; rfl)); intro gb167 hg w7 hbox hb; have n0_ := Aside0.mk (below_step (by repeat (first | (with_reducible first | exact HB.out | apply below_alloc | apply pw_below_drewN | apply below_drew1) | exact HB.out)) hb); have n1_ := Aside0.mk (hbox); have n2_ := Aside0.mk ((by rw [hg]; exact (below_size (by repeat (first | (with_reducible first | exact HB.out | apply below_alloc | apply pw_below_drewN | apply below_drew1) | exact HB.out))) : w.heap.size ≤ gb167)); have n3_ := Aside0.mk ((by rw [hg]; exact (below_size (by repeat (first | (with_reducible first | exact HB.out | apply below_alloc | apply pw_below_drewN | apply below_drew1) | exact HB.out))) : w.heap.size ≤ gb167)); clear HB; have HB := n0_; have BK167 := n1_; have GW167 := n2_; have GE167 := n3_; clear n0_ n1_ n2_ n3_; clear hb hbox hg; have hcz8_0 : w7.cell? ⟨gb167, 0, none⟩ = some (.int .i64 a0_0) := (blk_cell BK167.out 0).trans rfl; have hcz8_1 : w7.cell? ⟨gb167, 1, none⟩ = some (.int .i64 a0_1) := (blk_cell BK167.out 1).trans rfl; have hcz8_2 : w7.cell? ⟨gb167, 2, none⟩ = some (.int .i64 a0_2) := (blk_cell BK167.out 2).trans rfl; have hcz8_3 : w7.cell? ⟨gb167, 3, none⟩ = some (.int .i64 a0_3) := (blk_cell BK167.out 3).trans rfl; have hcz8_4 : w7.cell? ⟨gb167, 4, none⟩ = some (.int .i64 a0_4) := (blk_cell BK167.out 4).trans rfl; have hcz8_5 : w7.cell? ⟨gb167, 5, none⟩ = some (.string a0_5) := (blk_cell BK167.out 5).trans rfl; have hfz8_0 := blk_frozen BK167.out 0; have hfz8_1 := blk_frozen BK167.out 1; have hfz8_2 := blk_frozen BK167.out 2; have hfz8_3 := blk_frozen BK167.out 3; have hfz8_4 := blk_frozen BK167.out 4; have hfz8_5 := blk_frozen BK167.out 5) | ((with_reducible refine gate_callee (f := 34) rfl ?_); refine goesL_ (some 7) rfl rfl Tryz.func34 (by kernel_rfl) rfl #[.int .i64 a0_0] rfl (by (try simp only [List.map_toArray, List.map_cons, List.map_nil]); first | done | rfl | (simp only [List.length_drop, List.length_take]; rfl)) ?_; (with_reducible refine (towncrierref19_Name.calls a0_0 t168 _ A2.out).mono ?_); rintro e w9 ⟨rfl, hb⟩; refine ⟨_, rfl, ?_⟩; have n0_ := Aside0.mk (blk_below (g := gb167) (o := .cells #[.int .i64 a0_0, .int .i64 a0_1, .int .i64 a0_2, .int .i64 a0_3, .int .i64 a0_4, .string a0_5] 38 (0, 0)) (by (with_reducible repeat (first | refine blk_drewN ?_ _ | refine blk_drew ?_ | refine blk_alloc ?_ _)); exact BK167.out) hb); have n1_ := Aside0.mk (below_step (by repeat (first | (with_reducible first | exact HB.out | apply below_alloc | apply pw_below_drewN | apply below_drew1 | refine below_set ?_ GE167.out) | exact HB.out)) hb); clear BK167; clear HB; have BK167 := n0_; have HB := n1_; clear n0_ n1_; (try clear hb); (try clear hb2); (try clear hk); (try clear hi); have hcz10_0 : w9.cell? ⟨gb167, 0, none⟩ = some (.int .i64 a0_0) := (blk_cell BK167.out 0).trans rfl; have hcz10_1 : w9.cell? ⟨gb167, 1, none⟩ = some (.int .i64 a0_1) := (blk_cell BK167.out 1).trans rfl; have hcz10_2 : w9.cell? ⟨gb167, 2, none⟩ = some (.int .i64 a0_2) := (blk_cell BK167.out 2).trans rfl; have hcz10_3 : w9.cell? ⟨gb167, 3, none⟩ = some (.int .i64 a0_3) := (blk_cell BK167.out 3).trans rfl; have hcz10_4 : w9.cell? ⟨gb167, 4, none⟩ = some (.int .i64 a0_4) := (blk_cell BK167.out 4).trans rfl; have hcz10_5 : w9.cell? ⟨gb167, 5, none⟩ = some (.string a0_5) := (blk_cell BK167.out 5).trans rfl; have hfz10_0 := blk_frozen BK167.out 0; have hfz10_1 := blk_frozen BK167.out 1; have hfz10_2 := blk_frozen BK167.out 2; have hfz10_3 := blk_frozen BK167.out 3; have hfz10_4 := blk_frozen BK167.out 4; have hfz10_5 := blk_frozen BK167.out 5) | ((with_reducible refine gate_dst (N := 17) rfl ?_); refine Kd.R_lit (Kd.int .i64) _ 3 ?hg (N := 17) ?hd (xs := ([a0_1, a0_2, a0_3, a0_4] : List Int)) (inner := [.int .i64 a0_1, .int .i64 a0_2, .int .i64 a0_3, .int .i64 a0_4]) (ok := fun _ => True) (okp := fun _ => True) ?hr ?hp (fun _ hk => hk) trivial (Below.refl _ _) (Nat.le_refl _) (by simp) ?_; (case hd => rfl); (case hg => rfl); (case hr => first | (go_simp; done) | (go_simp; rfl)); (case hp => exact (Reps.one (show Kd.M (Kd.int .i64) _ _ _ a0_1 [.int .i64 a0_1] from rfl) (Reps.one (show Kd.M (Kd.int .i64) _ _ _ a0_2 [.int .i64 a0_2] from rfl) (Reps.one (show Kd.M (Kd.int .i64) _ _ _ a0_3 [.int .i64 a0_3] from rfl) (Reps.one (show Kd.M (Kd.int .i64) _ _ _ a0_4 [.int .i64 a0_4] from rfl) (Reps.none _ _)))))); intro v170 w11 ho12 hb hg_ hnew_; clear hg_ hnew_; (first | rw [← Ny169.out] at ho12 | (simp only [Int.reduceToNat] at ho12; rw [← Ny169.out] at ho12)); have n0_ := Aside0.mk (Kd.R_lower ho12 (below_size (by repeat (first | (with_reducible first | exact HB.out | apply below_alloc | apply pw_below_drewN | apply below_drew1 | refine below_set ?_ GE167.out) | exact HB.out)))); have n1_ := Aside0.mk (blk_below (g := gb167) (o := .cells #[.int .i64 a0_0, .int .i64 a0_1, .int .i64 a0_2, .int .i64 a0_3, .int .i64 a0_4, .string a0_5] 38 (0, 0)) (by (with_reducible repeat (first | refine blk_drewN ?_ _ | refine blk_drew ?_ | refine blk_alloc ?_ _)); exact BK167.out) hb); have n2_ := Aside0.mk (below_step (by repeat (first | (with_reducible first | exact HB.out | apply below_alloc | apply pw_below_drewN | apply below_drew1 | refine below_set ?_ GE167.out) | exact HB.out)) hb); clear BK167; clear HB; have HO171 := n0_; have BK167 := n1_; have HB := n2_; clear n0_ n1_ n2_; clear hb ho12))
    go_loopg [4] k (fun kq v4 w' => ∃ (x4_1 : Int), v4 = .int .i64 x4_1 ∧ Aside0 (towncrierref19_Right.l0 kq y169 x4_1 a0_0 a0_1 a0_2 a0_3 a0_4 a0_5 = some r) ∧ Aside0 (kq ≤ k) ∧ Aside0 (Kd.R (Kd.int .i64) 3 w' w.heap.size (fun _ => True) v170 y169) ∧ Aside0 (w'.heap[gb167]? = some (.cells #[.int .i64 a0_0, .int .i64 a0_1, .int .i64 a0_2, .int .i64 a0_3, .int .i64 a0_4, .string a0_5] 38 (0, 0))) ∧ Aside0 (Below w.heap.size w w'))
    case atStart => exact ⟨(0), (by first | rfl | (simp; done) | (simp [*]; done)), H', ⟨Nat.le_refl _⟩, ⟨by (with_reducible repeat (first | apply Kd.R_alloc | apply Kd.R_drewN | apply Kd.R_drew)); exact HO171.out⟩, ⟨by (with_reducible repeat (first | refine blk_drewN ?_ _ | refine blk_drew ?_ | refine blk_alloc ?_ _)); exact BK167.out⟩, ⟨by repeat (first | (with_reducible first | exact HB.out | apply below_alloc | apply pw_below_drewN | apply below_drew1 | refine below_set ?_ GE167.out) | exact HB.out)⟩⟩
    case round =>
      clear H'
      try clear p2
      try clear c3
      try clear c3b0
      try clear c3b1
      try clear hcz10_0
      try clear hcz10_1
      try clear hcz10_2
      try clear hcz10_3
      try clear hcz10_4
      try clear hcz10_5
      try clear hcz5_0
      try clear hcz5_1
      try clear hcz5_2
      try clear hcz5_3
      try clear hcz5_4
      try clear hcz5_5
      try clear hcz8_0
      try clear hcz8_1
      try clear hcz8_2
      try clear hcz8_3
      try clear hcz8_4
      try clear hcz8_5
      try clear hfz10_0
      try clear hfz10_1
      try clear hfz10_2
      try clear hfz10_3
      try clear hfz10_4
      try clear hfz10_5
      try clear hfz5_0
      try clear hfz5_1
      try clear hfz5_2
      try clear hfz5_3
      try clear hfz5_4
      try clear hfz5_5
      try clear hfz8_0
      try clear hfz8_1
      try clear hfz8_2
      try clear hfz8_3
      try clear hfz8_4
      try clear hfz8_5
      obtain ⟨x4_1, rfl, HA, HK1, HO_3, BK167, HB⟩ := hrel
      cases gk with
      | zero => exact absurd HA.out (by simp [towncrierref19_Right.l0])
      | succ k1 =>
        have H := HA.out
        clear HA
        simp only [towncrierref19_Right.l0] at H
        by_cases c13 : x4_1 < 4
        · rw [if_pos c13] at H
          have c13b0 : decide (x4_1 < 4) = true := decide_eq_true c13
          clear c13
          by_cases c14 : 0 ≤ x4_1
          · rw [if_pos c14] at H
            have c14b0 : decide (0 ≤ x4_1) = true := decide_eq_true c14
            clear c14
            by_cases c15 : x4_1 < (y169.length : Int)
            · rw [if_pos c15] at H
              have c15b0 : decide (x4_1 < (y169.length : Int)) = true := decide_eq_true c15
              clear c15
              by_cases c16 : (rd y169 x4_1) < (-1000000)
              · rw [if_pos c16] at H
                have c16b0 : decide ((rd y169 x4_1) < (-1000000)) = true := decide_eq_true c16
                clear c16
                obtain rfl := Option.some.inj H
                obtain ⟨Ao17, co17, eo17⟩ := Kd.R_slice HO_3.out
                subst eo17
                have p172 : 0 ≤ (x4_1 : Int) := of_decide_eq_true (by first | (with_reducible assumption) | assumption)
                have q172 : x4_1 < (y169.length : Int) := of_decide_eq_true (by first | (with_reducible assumption) | assumption)
                obtain ⟨ad172, e172, hx172_0⟩ := Kd.at_int (Kd.R_reads' HO_3.out).2.2 x4_1 p172 q172
                cases e172
                replace p172 := eq_true p172
                replace q172 := eq_true q172
                go_wp2
                go_ret
                exact ⟨by first | rfl | (simp [errW_none, errW_some] <;> rfl) | (simp [*, errW_none, errW_some] <;> rfl), by repeat (first | (with_reducible first | exact HB.out | apply below_alloc | apply pw_below_drewN | apply below_drew1 | refine below_set ?_ GE167.out) | exact HB.out)⟩
              · rw [if_neg c16] at H
                have c16b0 : decide ((rd y169 x4_1) < (-1000000)) = false := decide_eq_false c16
                clear c16
                by_cases c18 : (rd y169 x4_1) > 1000000
                · rw [if_pos c18] at H
                  have c18b0 : decide (1000000 < (rd y169 x4_1)) = true := decide_eq_true c18
                  clear c18
                  obtain rfl := Option.some.inj H
                  obtain ⟨Ao19, co19, eo19⟩ := Kd.R_slice HO_3.out
                  subst eo19
                  have p172 : 0 ≤ (x4_1 : Int) := of_decide_eq_true (by first | (with_reducible assumption) | assumption)
                  have q172 : x4_1 < (y169.length : Int) := of_decide_eq_true (by first | (with_reducible assumption) | assumption)
                  obtain ⟨ad172, e172, hx172_0⟩ := Kd.at_int (Kd.R_reads' HO_3.out).2.2 x4_1 p172 q172
                  cases e172
                  replace p172 := eq_true p172
                  replace q172 := eq_true q172
                  have p173 : 0 ≤ (x4_1 : Int) := of_decide_eq_true (by first | (with_reducible assumption) | assumption)
                  have q173 : x4_1 < (y169.length : Int) := of_decide_eq_true (by first | (with_reducible assumption) | assumption)
                  obtain ⟨ad173, e173, hx173_0⟩ := Kd.at_int (Kd.R_reads' HO_3.out).2.2 x4_1 p173 q173
                  obtain rfl : ad172 = ad173 := (by injection e173)
                  replace p173 := eq_true p173
                  replace q173 := eq_true q173
                  go_wp2
                  go_ret
                  exact ⟨by first | rfl | (simp [errW_none, errW_some] <;> rfl) | (simp [*, errW_none, errW_some] <;> rfl), by repeat (first | (with_reducible first | exact HB.out | apply below_alloc | apply pw_below_drewN | apply below_drew1 | refine below_set ?_ GE167.out) | exact HB.out)⟩
                · rw [if_neg c18] at H
                  have c18b0 : decide (1000000 < (rd y169 x4_1)) = false := decide_eq_false c18
                  clear c18
                  replace H := Option.bind_eq_some_iff.mp H
                  obtain ⟨t174, A200, H⟩ := H
                  replace H : (if x4_1 ≥ t174 then (if (rd y169 x4_1) = 0 then (towncrierref19_Right.l0 k1 y169 (wrap64 (x4_1 + 1)) a0_0 a0_1 a0_2 a0_3 a0_4 a0_5) else (some false)) else (towncrierref19_Right.l0 k1 y169 (wrap64 (x4_1 + 1)) a0_0 a0_1 a0_2 a0_3 a0_4 a0_5)) = some r := H
                  have A20 := Aside0.mk A200
                  clear A200
                  by_cases c21 : x4_1 ≥ t174
                  · rw [if_pos c21] at H
                    have c21b0 : decide (t174 ≤ x4_1) = true := decide_eq_true c21
                    clear c21
                    by_cases c22 : (rd y169 x4_1) = 0
                    · rw [if_pos c22] at H
                      have c22b0 : ((rd y169 x4_1) == 0) = true := beq_iff_eq.mpr c22
                      have c22b1 : ((rd y169 x4_1) != 0) = false := bne_eq_false_iff_eq.mpr c22
                      clear c22
                      have H' := Aside0.mk H
                      clear H
                      obtain ⟨Ao23, co23, eo23⟩ := Kd.R_slice HO_3.out
                      subst eo23
                      have p172 : 0 ≤ (x4_1 : Int) := of_decide_eq_true (by first | (with_reducible assumption) | assumption)
                      have q172 : x4_1 < (y169.length : Int) := of_decide_eq_true (by first | (with_reducible assumption) | assumption)
                      obtain ⟨ad172, e172, hx172_0⟩ := Kd.at_int (Kd.R_reads' HO_3.out).2.2 x4_1 p172 q172
                      cases e172
                      replace p172 := eq_true p172
                      replace q172 := eq_true q172
                      have p173 : 0 ≤ (x4_1 : Int) := of_decide_eq_true (by first | (with_reducible assumption) | assumption)
                      have q173 : x4_1 < (y169.length : Int) := of_decide_eq_true (by first | (with_reducible assumption) | assumption)
                      obtain ⟨ad173, e173, hx173_0⟩ := Kd.at_int (Kd.R_reads' HO_3.out).2.2 x4_1 p173 q173
                      obtain rfl : ad172 = ad173 := (by injection e173)
                      replace p173 := eq_true p173
                      replace q173 := eq_true q173
                      have hcz24_0 : wr.cell? ⟨gb167, 0, none⟩ = some (.int .i64 a0_0) := (blk_cell BK167.out 0).trans rfl
                      have hcz24_1 : wr.cell? ⟨gb167, 1, none⟩ = some (.int .i64 a0_1) := (blk_cell BK167.out 1).trans rfl
                      have hcz24_2 : wr.cell? ⟨gb167, 2, none⟩ = some (.int .i64 a0_2) := (blk_cell BK167.out 2).trans rfl
                      have hcz24_3 : wr.cell? ⟨gb167, 3, none⟩ = some (.int .i64 a0_3) := (blk_cell BK167.out 3).trans rfl
                      have hcz24_4 : wr.cell? ⟨gb167, 4, none⟩ = some (.int .i64 a0_4) := (blk_cell BK167.out 4).trans rfl
                      have hcz24_5 : wr.cell? ⟨gb167, 5, none⟩ = some (.string a0_5) := (blk_cell BK167.out 5).trans rfl
                      have hfz24_0 := blk_frozen BK167.out 0
                      have hfz24_1 := blk_frozen BK167.out 1
                      have hfz24_2 := blk_frozen BK167.out 2
                      have hfz24_3 := blk_frozen BK167.out 3
                      have hfz24_4 := blk_frozen BK167.out 4
                      have hfz24_5 := blk_frozen BK167.out 5
                      go_wp2_with (first | (go_at_call 35; (with_reducible refine (towncrierref19_Numbers.calls k1 a0_0 t174 _ A20.out).mono ?_); rintro e w' ⟨rfl, ⟨nd, rfl⟩⟩; have p175 : 0 ≤ (x4_1 : Int) := of_decide_eq_true (by first | (with_reducible assumption) | assumption); have q175 : x4_1 < (y169.length : Int) := of_decide_eq_true (by first | (with_reducible assumption) | assumption); obtain ⟨ad175, e175, hx175_0⟩ := Kd.at_int (Kd.R_reads' HO_3.out).2.2 x4_1 p175 q175; obtain rfl : ad172 = ad175 := (by injection e175); replace p175 := eq_true p175; replace q175 := eq_true q175))
                      go_roundg k1
                      case measure => have := HK1.out; omega
                      case rel => exact ⟨(wrap64 (x4_1 + 1)), (by first | rfl | (simp; done) | (simp [*]; done)), H', ⟨by have := HK1.out; omega⟩, ⟨by (with_reducible repeat (first | apply Kd.R_alloc | apply Kd.R_drewN | apply Kd.R_drew)); exact HO_3.out⟩, ⟨by (with_reducible repeat (first | refine blk_drewN ?_ _ | refine blk_drew ?_ | refine blk_alloc ?_ _)); exact BK167.out⟩, ⟨by repeat (first | (with_reducible first | exact HB.out | apply below_alloc | apply pw_below_drewN | apply below_drew1 | refine below_set ?_ GE167.out) | exact HB.out)⟩⟩
                    · rw [if_neg c22] at H
                      have c22b0 : ((rd y169 x4_1) == 0) = false := beq_eq_false_iff_ne.mpr c22
                      have c22b1 : ((rd y169 x4_1) != 0) = true := bne_iff_ne.mpr c22
                      obtain rfl := Option.some.inj H
                      obtain ⟨Ao25, co25, eo25⟩ := Kd.R_slice HO_3.out
                      subst eo25
                      have p172 : 0 ≤ (x4_1 : Int) := of_decide_eq_true (by first | (with_reducible assumption) | assumption)
                      have q172 : x4_1 < (y169.length : Int) := of_decide_eq_true (by first | (with_reducible assumption) | assumption)
                      obtain ⟨ad172, e172, hx172_0⟩ := Kd.at_int (Kd.R_reads' HO_3.out).2.2 x4_1 p172 q172
                      cases e172
                      replace p172 := eq_true p172
                      replace q172 := eq_true q172
                      have p173 : 0 ≤ (x4_1 : Int) := of_decide_eq_true (by first | (with_reducible assumption) | assumption)
                      have q173 : x4_1 < (y169.length : Int) := of_decide_eq_true (by first | (with_reducible assumption) | assumption)
                      obtain ⟨ad173, e173, hx173_0⟩ := Kd.at_int (Kd.R_reads' HO_3.out).2.2 x4_1 p173 q173
                      obtain rfl : ad172 = ad173 := (by injection e173)
                      replace p173 := eq_true p173
                      replace q173 := eq_true q173
                      have hcz26_0 : wr.cell? ⟨gb167, 0, none⟩ = some (.int .i64 a0_0) := (blk_cell BK167.out 0).trans rfl
                      have hcz26_1 : wr.cell? ⟨gb167, 1, none⟩ = some (.int .i64 a0_1) := (blk_cell BK167.out 1).trans rfl
                      have hcz26_2 : wr.cell? ⟨gb167, 2, none⟩ = some (.int .i64 a0_2) := (blk_cell BK167.out 2).trans rfl
                      have hcz26_3 : wr.cell? ⟨gb167, 3, none⟩ = some (.int .i64 a0_3) := (blk_cell BK167.out 3).trans rfl
                      have hcz26_4 : wr.cell? ⟨gb167, 4, none⟩ = some (.int .i64 a0_4) := (blk_cell BK167.out 4).trans rfl
                      have hcz26_5 : wr.cell? ⟨gb167, 5, none⟩ = some (.string a0_5) := (blk_cell BK167.out 5).trans rfl
                      have hfz26_0 := blk_frozen BK167.out 0
                      have hfz26_1 := blk_frozen BK167.out 1
                      have hfz26_2 := blk_frozen BK167.out 2
                      have hfz26_3 := blk_frozen BK167.out 3
                      have hfz26_4 := blk_frozen BK167.out 4
                      have hfz26_5 := blk_frozen BK167.out 5
                      go_wp2_with (first | (go_at_call 35; (with_reducible refine (towncrierref19_Numbers.calls k1 a0_0 t174 _ A20.out).mono ?_); rintro e w' ⟨rfl, ⟨nd, rfl⟩⟩; have p175 : 0 ≤ (x4_1 : Int) := of_decide_eq_true (by first | (with_reducible assumption) | assumption); have q175 : x4_1 < (y169.length : Int) := of_decide_eq_true (by first | (with_reducible assumption) | assumption); obtain ⟨ad175, e175, hx175_0⟩ := Kd.at_int (Kd.R_reads' HO_3.out).2.2 x4_1 p175 q175; obtain rfl : ad172 = ad175 := (by injection e175); replace p175 := eq_true p175; replace q175 := eq_true q175))
                      go_ret
                      exact ⟨by first | rfl | (simp [errW_none, errW_some] <;> rfl) | (simp [*, errW_none, errW_some] <;> rfl), by repeat (first | (with_reducible first | exact HB.out | apply below_alloc | apply pw_below_drewN | apply below_drew1 | refine below_set ?_ GE167.out) | exact HB.out)⟩
                  · rw [if_neg c21] at H
                    have c21b0 : decide (t174 ≤ x4_1) = false := decide_eq_false c21
                    clear c21
                    have H' := Aside0.mk H
                    clear H
                    obtain ⟨Ao27, co27, eo27⟩ := Kd.R_slice HO_3.out
                    subst eo27
                    have p172 : 0 ≤ (x4_1 : Int) := of_decide_eq_true (by first | (with_reducible assumption) | assumption)
                    have q172 : x4_1 < (y169.length : Int) := of_decide_eq_true (by first | (with_reducible assumption) | assumption)
                    obtain ⟨ad172, e172, hx172_0⟩ := Kd.at_int (Kd.R_reads' HO_3.out).2.2 x4_1 p172 q172
                    cases e172
                    replace p172 := eq_true p172
                    replace q172 := eq_true q172
                    have p173 : 0 ≤ (x4_1 : Int) := of_decide_eq_true (by first | (with_reducible assumption) | assumption)
                    have q173 : x4_1 < (y169.length : Int) := of_decide_eq_true (by first | (with_reducible assumption) | assumption)
                    obtain ⟨ad173, e173, hx173_0⟩ := Kd.at_int (Kd.R_reads' HO_3.out).2.2 x4_1 p173 q173
                    obtain rfl : ad172 = ad173 := (by injection e173)
                    replace p173 := eq_true p173
                    replace q173 := eq_true q173
                    have hcz28_0 : wr.cell? ⟨gb167, 0, none⟩ = some (.int .i64 a0_0) := (blk_cell BK167.out 0).trans rfl
                    have hcz28_1 : wr.cell? ⟨gb167, 1, none⟩ = some (.int .i64 a0_1) := (blk_cell BK167.out 1).trans rfl
                    have hcz28_2 : wr.cell? ⟨gb167, 2, none⟩ = some (.int .i64 a0_2) := (blk_cell BK167.out 2).trans rfl
                    have hcz28_3 : wr.cell? ⟨gb167, 3, none⟩ = some (.int .i64 a0_3) := (blk_cell BK167.out 3).trans rfl
                    have hcz28_4 : wr.cell? ⟨gb167, 4, none⟩ = some (.int .i64 a0_4) := (blk_cell BK167.out 4).trans rfl
                    have hcz28_5 : wr.cell? ⟨gb167, 5, none⟩ = some (.string a0_5) := (blk_cell BK167.out 5).trans rfl
                    have hfz28_0 := blk_frozen BK167.out 0
                    have hfz28_1 := blk_frozen BK167.out 1
                    have hfz28_2 := blk_frozen BK167.out 2
                    have hfz28_3 := blk_frozen BK167.out 3
                    have hfz28_4 := blk_frozen BK167.out 4
                    have hfz28_5 := blk_frozen BK167.out 5
                    go_wp2_with (first | (go_at_call 35; (with_reducible refine (towncrierref19_Numbers.calls k1 a0_0 t174 _ A20.out).mono ?_); rintro e w' ⟨rfl, ⟨nd, rfl⟩⟩))
                    go_roundg k1
                    case measure => have := HK1.out; omega
                    case rel => exact ⟨(wrap64 (x4_1 + 1)), (by first | rfl | (simp; done) | (simp [*]; done)), H', ⟨by have := HK1.out; omega⟩, ⟨by (with_reducible repeat (first | apply Kd.R_alloc | apply Kd.R_drewN | apply Kd.R_drew)); exact HO_3.out⟩, ⟨by (with_reducible repeat (first | refine blk_drewN ?_ _ | refine blk_drew ?_ | refine blk_alloc ?_ _)); exact BK167.out⟩, ⟨by repeat (first | (with_reducible first | exact HB.out | apply below_alloc | apply pw_below_drewN | apply below_drew1 | refine below_set ?_ GE167.out) | exact HB.out)⟩⟩
            · rw [if_neg c15] at H
              exact absurd H (by simp)
          · rw [if_neg c14] at H
            exact absurd H (by simp)
        · rw [if_neg c13] at H
          have c13b0 : decide (x4_1 < 4) = false := decide_eq_false c13
          clear c13
          by_cases c29 : a0_5.toList = ([] : List UInt8)
          · rw [if_pos c29] at H
            have c29b0 : (a0_5.toList == ([] : List UInt8)) = true := beq_iff_eq.mpr c29
            have c29b1 : (a0_5.toList != ([] : List UInt8)) = false := bne_eq_false_iff_eq.mpr c29
            clear c29
            obtain rfl := Option.some.inj H
            have hcz30_0 : wr.cell? ⟨gb167, 0, none⟩ = some (.int .i64 a0_0) := (blk_cell BK167.out 0).trans rfl
            have hcz30_1 : wr.cell? ⟨gb167, 1, none⟩ = some (.int .i64 a0_1) := (blk_cell BK167.out 1).trans rfl
            have hcz30_2 : wr.cell? ⟨gb167, 2, none⟩ = some (.int .i64 a0_2) := (blk_cell BK167.out 2).trans rfl
            have hcz30_3 : wr.cell? ⟨gb167, 3, none⟩ = some (.int .i64 a0_3) := (blk_cell BK167.out 3).trans rfl
            have hcz30_4 : wr.cell? ⟨gb167, 4, none⟩ = some (.int .i64 a0_4) := (blk_cell BK167.out 4).trans rfl
            have hcz30_5 : wr.cell? ⟨gb167, 5, none⟩ = some (.string a0_5) := (blk_cell BK167.out 5).trans rfl
            have hfz30_0 := blk_frozen BK167.out 0
            have hfz30_1 := blk_frozen BK167.out 1
            have hfz30_2 := blk_frozen BK167.out 2
            have hfz30_3 := blk_frozen BK167.out 3
            have hfz30_4 := blk_frozen BK167.out 4
            have hfz30_5 := blk_frozen BK167.out 5
            go_wp2
            go_ret
            exact ⟨by first | rfl | (simp [errW_none, errW_some] <;> rfl) | (simp [*, errW_none, errW_some] <;> rfl), by repeat (first | (with_reducible first | exact HB.out | apply below_alloc | apply pw_below_drewN | apply below_drew1 | refine below_set ?_ GE167.out) | exact HB.out)⟩
          · rw [if_neg c29] at H
            have c29b0 : (a0_5.toList == ([] : List UInt8)) = false := beq_eq_false_iff_ne.mpr c29
            have c29b1 : (a0_5.toList != ([] : List UInt8)) = true := bne_iff_ne.mpr c29
            replace H := Option.bind_eq_some_iff.mp H
            obtain ⟨t176, A310, H⟩ := H
            replace H : (if t176 = true then ((towncrierref01_Right.f k1 a0_5).bind fun t177 => (some t177)) else (some false)) = some r := H
            have A31 := Aside0.mk A310
            clear A310
            by_cases c32 : t176 = true
            · subst c32
              have H1 : ((towncrierref01_Right.f k1 a0_5).bind fun t177 => (some t177)) = some r := by rw [if_pos rfl] at H; exact H
              clear H
              have H := H1
              clear H1
              replace H := Option.bind_eq_some_iff.mp H
              obtain ⟨t177, A330, H⟩ := H
              replace H : (some t177) = some r := H
              have A33 := Aside0.mk A330
              clear A330
              obtain rfl := Option.some.inj H
              have hcz34_0 : wr.cell? ⟨gb167, 0, none⟩ = some (.int .i64 a0_0) := (blk_cell BK167.out 0).trans rfl
              have hcz34_1 : wr.cell? ⟨gb167, 1, none⟩ = some (.int .i64 a0_1) := (blk_cell BK167.out 1).trans rfl
              have hcz34_2 : wr.cell? ⟨gb167, 2, none⟩ = some (.int .i64 a0_2) := (blk_cell BK167.out 2).trans rfl
              have hcz34_3 : wr.cell? ⟨gb167, 3, none⟩ = some (.int .i64 a0_3) := (blk_cell BK167.out 3).trans rfl
              have hcz34_4 : wr.cell? ⟨gb167, 4, none⟩ = some (.int .i64 a0_4) := (blk_cell BK167.out 4).trans rfl
              have hcz34_5 : wr.cell? ⟨gb167, 5, none⟩ = some (.string a0_5) := (blk_cell BK167.out 5).trans rfl
              have hfz34_0 := blk_frozen BK167.out 0
              have hfz34_1 := blk_frozen BK167.out 1
              have hfz34_2 := blk_frozen BK167.out 2
              have hfz34_3 := blk_frozen BK167.out 3
              have hfz34_4 := blk_frozen BK167.out 4
              have hfz34_5 := blk_frozen BK167.out 5
              go_wp2_with (first | (go_at_call 37; (with_reducible refine (towncrierref19_Worded.calls a0_0 true _ A31.out).mono ?_); rintro e w' ⟨rfl, ⟨nd, rfl⟩⟩) | (go_at_call 52; (with_reducible refine (towncrierref01_Right.calls k1 a0_5 t177 _ A33.out).mono ?_); rintro e w' ⟨rfl, ⟨nd, rfl⟩⟩))
              go_ret
              exact ⟨by first | rfl | (simp [errW_none, errW_some] <;> rfl) | (simp [*, errW_none, errW_some] <;> rfl), by repeat (first | (with_reducible first | exact HB.out | apply below_alloc | apply pw_below_drewN | apply below_drew1 | refine below_set ?_ GE167.out) | exact HB.out)⟩
            · replace c32 := Bool.eq_false_iff.mpr c32
              subst c32
              have H1 : (some false) = some r := by rw [if_neg (show ¬ (false = true) by decide)] at H; exact H
              clear H
              have H := H1
              clear H1
              obtain rfl := Option.some.inj H
              have hcz35_0 : wr.cell? ⟨gb167, 0, none⟩ = some (.int .i64 a0_0) := (blk_cell BK167.out 0).trans rfl
              have hcz35_1 : wr.cell? ⟨gb167, 1, none⟩ = some (.int .i64 a0_1) := (blk_cell BK167.out 1).trans rfl
              have hcz35_2 : wr.cell? ⟨gb167, 2, none⟩ = some (.int .i64 a0_2) := (blk_cell BK167.out 2).trans rfl
              have hcz35_3 : wr.cell? ⟨gb167, 3, none⟩ = some (.int .i64 a0_3) := (blk_cell BK167.out 3).trans rfl
              have hcz35_4 : wr.cell? ⟨gb167, 4, none⟩ = some (.int .i64 a0_4) := (blk_cell BK167.out 4).trans rfl
              have hcz35_5 : wr.cell? ⟨gb167, 5, none⟩ = some (.string a0_5) := (blk_cell BK167.out 5).trans rfl
              have hfz35_0 := blk_frozen BK167.out 0
              have hfz35_1 := blk_frozen BK167.out 1
              have hfz35_2 := blk_frozen BK167.out 2
              have hfz35_3 := blk_frozen BK167.out 3
              have hfz35_4 := blk_frozen BK167.out 4
              have hfz35_5 := blk_frozen BK167.out 5
              go_wp2_with (first | (go_at_call 37; (with_reducible refine (towncrierref19_Worded.calls a0_0 false _ A31.out).mono ?_); rintro e w' ⟨rfl, ⟨nd, rfl⟩⟩))
              go_ret
              exact ⟨by first | rfl | (simp [errW_none, errW_some] <;> rfl) | (simp [*, errW_none, errW_some] <;> rfl), by repeat (first | (with_reducible first | exact HB.out | apply below_alloc | apply pw_below_drewN | apply below_drew1 | refine below_set ?_ GE167.out) | exact HB.out)⟩

-- NOT PRINTED: function 15 (towncrierref20_Check)

end Go.Proofs.YtmjedjhgomlfiaaGreatDoor.Ref19
