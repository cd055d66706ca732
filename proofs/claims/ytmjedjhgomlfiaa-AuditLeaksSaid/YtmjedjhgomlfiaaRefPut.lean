/- ref.Put: the printed text, two drawn regions and the last store walked by hand. -/
import Derived.Test.YtmjedjhgomlfiaaPAuditLeaksx0
import Derived.Test.YtmjedjhgomlfiaaPAuditLeaksx1
import Derived.Test.YtmjedjhgomlfiaaPAuditLeaksx2
import Derived.Test.YtmjedjhgomlfiaaRefFor2
namespace Go.Proofs.Ytmjedjhgomlfiaa.PAuditLeaks
open Go.RowKit Go.Proofs.YtmjedjhgomlfiaaW.PrintWords Go.Proofs.YtmjedjhgomlfiaaW.PrintLast Go.Proofs.YtmjedjhgomlfiaaW.PrintMore
attribute [local go_sem] max2_int min2_int max_two min_two max_three min_three max_four min_four   -- for this text's walks alone
set_option linter.unusedVariables false
set_option linter.unusedSimpArgs false

/-! ### towncrierref04_Put: function 54 -/
mutual
def towncrierref04_Put.l0 : Nat → List (S61) → Int → List Int → Int → Option ((List (S61)) × Int)
  | 0, _, _, _, _ => none
  | k + 1, x0, x1, x2, x8 => if x8 < (x2.length : Int) then (if 0 ≤ x8 then ((towncrierref04_There.f x0 (rd x2 x8)).bind fun t199 => (if t199 = true then (if x8 ≤ (x2.length : Int) then ((towncrierref01_Has.f k (x2.take (x8 : Int).toNat) (rd x2 x8)).bind fun t202 => (if t202 = true then (some (x0, 1)) else (towncrierref04_Put.l0 k x0 x1 x2 (wrap64 (x8 + 1))))) else (none)) else (some (x0, 1)))) else (none)) else ((towncrierref04_Over.f k x0 x1).bind fun t203 => (towncrierref04_Put.l1 k x0 x1 x2 t203 0))
def towncrierref04_Put.l1 : Nat → List (S61) → Int → List Int → List Int → Int → Option ((List (S61)) × Int)
  | 0, _, _, _, _, _ => none
  | k + 1, x0, x1, x2, x9, x10 => if x10 < (x2.length : Int) then (if 0 ≤ x10 then (if 0 ≤ (wrap64 ((rd x2 x10) - 1)) then (if (wrap64 ((rd x2 x10) - 1)) < (x0.length : Int) then (if ((rd_T61 x0 (wrap64 ((rd x2 x10) - 1))).f0) = 1 then (some (x0, 3)) else (if ((rd_T61 x0 (wrap64 ((rd x2 x10) - 1))).f0) = 3 then (some (x0, 3)) else ((towncrierref01_Has.f k x9 (rd x2 x10)).bind fun t211 => (if t211 = true then (some (x0, 3)) else (if ((rd_T61 x0 (wrap64 ((rd x2 x10) - 1))).f1) = 0 then (towncrierref04_Put.l1 k x0 x1 x2 x9 (wrap64 (x10 + 1))) else (if ((rd_T61 x0 (wrap64 ((rd x2 x10) - 1))).f1) = x1 then (towncrierref04_Put.l1 k x0 x1 x2 x9 (wrap64 (x10 + 1))) else (some (x0, 3)))))))) else (none)) else (none)) else (none)) else ((towncrierref04_Copy.f k x0).bind fun t212 => (towncrierref04_Put.l2 k x1 x2 t212 0))
def towncrierref04_Put.l2 : Nat → Int → List Int → List (S61) → Int → Option ((List (S61)) × Int)
  | 0, _, _, _, _ => none
  | k + 1, x1, x2, x13, x14 => if x14 < (x13.length : Int) then (if 0 ≤ x14 then (if ((rd_T61 x13 x14).f1) = x1 then (towncrierref04_Put.l2 k x1 x2 (x13.set (x14 : Int).toNat (⟨(rd_T61 x13 x14).f0, 0, (rd_T61 x13 x14).f2, (rd_T61 x13 x14).f3, (rd_T61 x13 x14).f4, (rd_T61 x13 x14).f5, (rd_T61 x13 x14).f6, (rd_T61 x13 x14).f7, (rd_T61 x13 x14).f8⟩ : S61)) (wrap64 (x14 + 1))) else (towncrierref04_Put.l2 k x1 x2 x13 (wrap64 (x14 + 1)))) else (none)) else (towncrierref04_Put.l3 k x1 x2 x13 0)
def towncrierref04_Put.l3 : Nat → Int → List Int → List (S61) → Int → Option ((List (S61)) × Int)
  | 0, _, _, _, _ => none
  | k + 1, x1, x2, x13, x15 => if x15 < (x2.length : Int) then (if 0 ≤ x15 then (if 0 ≤ (wrap64 ((rd x2 x15) - 1)) then (if (wrap64 ((rd x2 x15) - 1)) < (x13.length : Int) then (towncrierref04_Put.l3 k x1 x2 (x13.set ((wrap64 ((rd x2 x15) - 1)) : Int).toNat (⟨(rd_T61 x13 (wrap64 ((rd x2 x15) - 1))).f0, x1, (rd_T61 x13 (wrap64 ((rd x2 x15) - 1))).f2, (rd_T61 x13 (wrap64 ((rd x2 x15) - 1))).f3, (rd_T61 x13 (wrap64 ((rd x2 x15) - 1))).f4, (rd_T61 x13 (wrap64 ((rd x2 x15) - 1))).f5, (rd_T61 x13 (wrap64 ((rd x2 x15) - 1))).f6, (rd_T61 x13 (wrap64 ((rd x2 x15) - 1))).f7, (rd_T61 x13 (wrap64 ((rd x2 x15) - 1))).f8⟩ : S61)) (wrap64 (x15 + 1))) else (none)) else (none)) else (none)) else ((some (([] : List Int) : List Int)).bind fun y219 => (if y219.length + x2.length < 17592186044416 then (if 0 ≤ (wrap64 (x1 - 1)) then (if (wrap64 (x1 - 1)) < (x13.length : Int) then (some ((x13.set ((wrap64 (x1 - 1)) : Int).toNat (⟨(rd_T61 x13 (wrap64 (x1 - 1))).f0, (rd_T61 x13 (wrap64 (x1 - 1))).f1, (rd_T61 x13 (wrap64 (x1 - 1))).f2, (rd_T61 x13 (wrap64 (x1 - 1))).f3, (rd_T61 x13 (wrap64 (x1 - 1))).f4, (rd_T61 x13 (wrap64 (x1 - 1))).f5, (rd_T61 x13 (wrap64 (x1 - 1))).f6, (rd_T61 x13 (wrap64 (x1 - 1))).f7, (y219 ++ x2)⟩ : S61)), 0)) else (none)) else (none)) else (none)))
end
def towncrierref04_Put.f (k : Nat) (l0 : List (S61)) (a1 : Int) (l2 : List Int) : Option ((List (S61)) × Int) := (towncrierref04_There.f l0 a1).bind fun t197 => (if t197 = true then (towncrierref04_Put.l0 k l0 a1 l2 0) else (some (l0, 1)))
theorem towncrierref04_Put.mono_l : ∀ k, (∀ y0 y1 y2 y3, LeO (towncrierref04_Put.l0 k y0 y1 y2 y3) (towncrierref04_Put.l0 (k + 1) y0 y1 y2 y3)) ∧ (∀ y0 y1 y2 y3 y4, LeO (towncrierref04_Put.l1 k y0 y1 y2 y3 y4) (towncrierref04_Put.l1 (k + 1) y0 y1 y2 y3 y4)) ∧ (∀ y0 y1 y2 y3, LeO (towncrierref04_Put.l2 k y0 y1 y2 y3) (towncrierref04_Put.l2 (k + 1) y0 y1 y2 y3)) ∧ (∀ y0 y1 y2 y3, LeO (towncrierref04_Put.l3 k y0 y1 y2 y3) (towncrierref04_Put.l3 (k + 1) y0 y1 y2 y3))
  | 0 => ⟨fun _ _ _ _ r h => by simp [towncrierref04_Put.l0] at h, fun _ _ _ _ _ r h => by simp [towncrierref04_Put.l1] at h, fun _ _ _ _ r h => by simp [towncrierref04_Put.l2] at h, fun _ _ _ _ r h => by simp [towncrierref04_Put.l3] at h⟩
  | k + 1 => by
    obtain ⟨ih0, ih1, ih2, ih3⟩ := towncrierref04_Put.mono_l k
    refine ⟨?_, ?_, ?_, ?_⟩
    · intro y0 y1 y2 y3
      unfold towncrierref04_Put.l0
      repeat' first
      | (with_reducible exact ih0 _ _ _ _)
      | (with_reducible exact ih1 _ _ _ _ _)
      | (with_reducible exact ih2 _ _ _ _)
      | (with_reducible exact ih3 _ _ _ _)
      | (with_reducible exact towncrierref01_Has.mono _ _ _)
      | (with_reducible exact towncrierref04_Copy.mono _ _)
      | (with_reducible exact towncrierref04_Over.mono _ _ _)
      | (with_reducible exact LeO.refl _)
      | (with_reducible exact LeO.none _)
      | (with_reducible refine LeO.ite ?_ ?_)
      | (with_reducible refine LeO.bind ?_ (fun _ => ?_))
      | exact ih0 _ _ _ _
      | exact ih1 _ _ _ _ _
      | exact ih2 _ _ _ _
      | exact ih3 _ _ _ _
      | exact towncrierref01_Has.mono _ _ _
      | exact towncrierref04_Copy.mono _ _
      | exact towncrierref04_Over.mono _ _ _
      | exact LeO.none _
      | refine LeO.ite ?_ ?_
      | refine LeO.bind ?_ (fun _ => ?_)
    · intro y0 y1 y2 y3 y4
      unfold towncrierref04_Put.l1
      repeat' first
      | (with_reducible exact ih0 _ _ _ _)
      | (with_reducible exact ih1 _ _ _ _ _)
      | (with_reducible exact ih2 _ _ _ _)
      | (with_reducible exact ih3 _ _ _ _)
      | (with_reducible exact towncrierref01_Has.mono _ _ _)
      | (with_reducible exact towncrierref04_Copy.mono _ _)
      | (with_reducible exact towncrierref04_Over.mono _ _ _)
      | (with_reducible exact LeO.refl _)
      | (with_reducible exact LeO.none _)
      | (with_reducible refine LeO.ite ?_ ?_)
      | (with_reducible refine LeO.bind ?_ (fun _ => ?_))
      | exact ih0 _ _ _ _
      | exact ih1 _ _ _ _ _
      | exact ih2 _ _ _ _
      | exact ih3 _ _ _ _
      | exact towncrierref01_Has.mono _ _ _
      | exact towncrierref04_Copy.mono _ _
      | exact towncrierref04_Over.mono _ _ _
      | exact LeO.none _
      | refine LeO.ite ?_ ?_
      | refine LeO.bind ?_ (fun _ => ?_)
    · intro y0 y1 y2 y3
      unfold towncrierref04_Put.l2
      repeat' first
      | (with_reducible exact ih0 _ _ _ _)
      | (with_reducible exact ih1 _ _ _ _ _)
      | (with_reducible exact ih2 _ _ _ _)
      | (with_reducible exact ih3 _ _ _ _)
      | (with_reducible exact towncrierref01_Has.mono _ _ _)
      | (with_reducible exact towncrierref04_Copy.mono _ _)
      | (with_reducible exact towncrierref04_Over.mono _ _ _)
      | (with_reducible exact LeO.refl _)
      | (with_reducible exact LeO.none _)
      | (with_reducible refine LeO.ite ?_ ?_)
      | (with_reducible refine LeO.bind ?_ (fun _ => ?_))
      | exact ih0 _ _ _ _
      | exact ih1 _ _ _ _ _
      | exact ih2 _ _ _ _
      | exact ih3 _ _ _ _
      | exact towncrierref01_Has.mono _ _ _
      | exact towncrierref04_Copy.mono _ _
      | exact towncrierref04_Over.mono _ _ _
      | exact LeO.none _
      | refine LeO.ite ?_ ?_
      | refine LeO.bind ?_ (fun _ => ?_)
    · intro y0 y1 y2 y3
      unfold towncrierref04_Put.l3
      repeat' first
      | (with_reducible exact ih0 _ _ _ _)
      | (with_reducible exact ih1 _ _ _ _ _)
      | (with_reducible exact ih2 _ _ _ _)
      | (with_reducible exact ih3 _ _ _ _)
      | (with_reducible exact towncrierref01_Has.mono _ _ _)
      | (with_reducible exact towncrierref04_Copy.mono _ _)
      | (with_reducible exact towncrierref04_Over.mono _ _ _)
      | (with_reducible exact LeO.refl _)
      | (with_reducible exact LeO.none _)
      | (with_reducible refine LeO.ite ?_ ?_)
      | (with_reducible refine LeO.bind ?_ (fun _ => ?_))
      | exact ih0 _ _ _ _
      | exact ih1 _ _ _ _ _
      | exact ih2 _ _ _ _
      | exact ih3 _ _ _ _
      | exact towncrierref01_Has.mono _ _ _
      | exact towncrierref04_Copy.mono _ _
      | exact towncrierref04_Over.mono _ _ _
      | exact LeO.none _
      | refine LeO.ite ?_ ?_
      | refine LeO.bind ?_ (fun _ => ?_)
theorem towncrierref04_Put.mono : ∀ a0 a1 a2 k, LeO (towncrierref04_Put.f k a0 a1 a2) (towncrierref04_Put.f (k + 1) a0 a1 a2) := by
  intro a0 a1 a2 k
  obtain ⟨ih0, ih1, ih2, ih3⟩ := towncrierref04_Put.mono_l k
  unfold towncrierref04_Put.f
  repeat' first
      | (with_reducible exact ih0 _ _ _ _)
      | (with_reducible exact ih1 _ _ _ _ _)
      | (with_reducible exact ih2 _ _ _ _)
      | (with_reducible exact ih3 _ _ _ _)
      | (with_reducible exact towncrierref01_Has.mono _ _ _)
      | (with_reducible exact towncrierref04_Copy.mono _ _)
      | (with_reducible exact towncrierref04_Over.mono _ _ _)
      | (with_reducible exact LeO.refl _)
      | (with_reducible exact LeO.none _)
      | (with_reducible refine LeO.ite ?_ ?_)
      | (with_reducible refine LeO.bind ?_ (fun _ => ?_))
      | exact ih0 _ _ _ _
      | exact ih1 _ _ _ _ _
      | exact ih2 _ _ _ _
      | exact ih3 _ _ _ _
      | exact towncrierref01_Has.mono _ _ _
      | exact towncrierref04_Copy.mono _ _
      | exact towncrierref04_Over.mono _ _ _
      | exact LeO.none _
      | refine LeO.ite ?_ ?_
      | refine LeO.bind ?_ (fun _ => ?_)
set_option maxHeartbeats 8000000 in
set_option maxRecDepth 100000 in
theorem towncrierref04_Put.calls (k : Nat) (P0_ : Nat → Prop) (A0 : Option Addr) (c0 : Nat) (l0 : List (S61)) (a1 : Int) (A2 : Option Addr) (c2 : Nat) (l2 : List Int) (r1 : List (S61)) (r2 : Int) (w : World) (hs0 : Kd.V k61 61 w w.heap.size (fun k_ => P0_ k_) (.slice A0 l0.length c0) l0) (hr2 : Kd.C (Kd.int .i64) w A2 l2.length l2) (hc2 : l2.length ≤ c2) (h : towncrierref04_Put.f k l0 a1 l2 = some (r1, r2)) :
    Calls Try.prog 54 #[.slice A0 l0.length c0, .int .i64 a1, .slice A2 l2.length c2] w fun e w' => ∃ v0_ : Value, e = .returned (.tuple #[v0_, .int .i64 r2]) ∧ Kd.V k61 61 w' w.heap.size (fun k_ => (P0_ k_ ∨ w.heap.size ≤ k_)) v0_ r1 ∧ Below w.heap.size w w' := by
  have HO0 := Aside0.mk (show Kd.V k61 61 w w.heap.size (fun k_ => (P0_ k_ ∨ w.heap.size ≤ k_)) (.slice A0 l0.length c0) l0 from Kd.V_mono hs0 (fun k_ hk => .inl hk))
  have HR2 := Aside0.mk hr2
  have HC2 := Aside0.mk hc2
  clear hr2 hc2
  have HB := Aside0.mk (Below.refl w.heap.size w)
  have H : ((towncrierref04_There.f l0 a1).bind fun t197 => (if t197 = true then (towncrierref04_Put.l0 k l0 a1 l2 0) else (some (l0, 1)))) = some (r1, r2) := h
  clear h
  replace H := Option.bind_eq_some_iff.mp H
  obtain ⟨t197, A40, H⟩ := H
  replace H : (if t197 = true then (towncrierref04_Put.l0 k l0 a1 l2 0) else (some (l0, 1))) = some (r1, r2) := H
  have A4 := Aside0.mk A40
  clear A40
  by_cases c5 : t197 = true
  · subst c5
    have H1 : (towncrierref04_Put.l0 k l0 a1 l2 0) = some (r1, r2) := by rw [if_pos rfl] at H; exact H
    clear H
    have H := H1
    clear H1
    have H' := Aside0.mk H
    clear H
    go_enter Try.func54, Try.ntmps54
    go_wp2_with (first | (go_at_call 49; (with_reducible refine (towncrierref04_There.calls _ _ l0 a1 true _ ?side1 ?side2 A4.out).mono ?_); (case side1 => repeat (first | exact (Kd.V_reads' HO0.out).2.2 | (with_reducible refine Kd.C_alloc ?_ _) | (with_reducible refine Kd.C_drewN ?_ _) | (with_reducible refine Kd.C_drew ?_))); (case side2 => exact (Kd.V_reads' HO0.out).2.1); rintro e w' ⟨rfl, ⟨nd, rfl⟩⟩; (try first | exact ⟨rfl, _, World.drewN_drewN _ _ _⟩ | exact ⟨rfl, _, Eq.trans (World.drewN_drewN _ _ _) (congrArg (World.drewN _) (Nat.add_assoc _ _ _))⟩)))
    repeat (go_quiet (first | (go_at_call 49; (with_reducible refine (towncrierref04_There.calls _ _ l0 a1 true _ ?side1 ?side2 A4.out).mono ?_); (case side1 => repeat (first | exact (Kd.V_reads' HO0.out).2.2 | (with_reducible refine Kd.C_alloc ?_ _) | (with_reducible refine Kd.C_drewN ?_ _) | (with_reducible refine Kd.C_drew ?_))); (case side2 => exact (Kd.V_reads' HO0.out).2.1); rintro e w' ⟨rfl, ⟨nd, rfl⟩⟩; (try first | exact ⟨rfl, _, World.drewN_drewN _ _ _⟩ | exact ⟨rfl, _, Eq.trans (World.drewN_drewN _ _ _) (congrArg (World.drewN _) (Nat.add_assoc _ _ _))⟩))); try go_wp2_with (first | (go_at_call 49; (with_reducible refine (towncrierref04_There.calls _ _ l0 a1 true _ ?side1 ?side2 A4.out).mono ?_); (case side1 => repeat (first | exact (Kd.V_reads' HO0.out).2.2 | (with_reducible refine Kd.C_alloc ?_ _) | (with_reducible refine Kd.C_drewN ?_ _) | (with_reducible refine Kd.C_drew ?_))); (case side2 => exact (Kd.V_reads' HO0.out).2.1); rintro e w' ⟨rfl, ⟨nd, rfl⟩⟩; (try first | exact ⟨rfl, _, World.drewN_drewN _ _ _⟩ | exact ⟨rfl, _, Eq.trans (World.drewN_drewN _ _ _) (congrArg (World.drewN _) (Nat.add_assoc _ _ _))⟩))))
    go_loopg [8] k (fun kq v8 w' => ∃ (x8_1 : Int), v8 = .int .i64 x8_1 ∧ Aside0 (towncrierref04_Put.l0 kq l0 a1 l2 x8_1 = some (r1, r2)) ∧ Aside0 (kq ≤ k) ∧ Aside0 (Kd.V k61 61 w' w.heap.size (fun k_ => (P0_ k_ ∨ w.heap.size ≤ k_)) (.slice A0 l0.length c0) l0) ∧ Aside0 (Below w.heap.size w w'))
    case atStart => exact ⟨(0), (by first | rfl | (simp; done) | (simp [*]; done)), H', ⟨Nat.le_refl _⟩, ⟨by (with_reducible repeat (first | apply Kd.V_alloc | apply Kd.V_drewN | apply Kd.V_drew)); exact HO0.out⟩, ⟨by repeat (first | (with_reducible first | exact HB.out | apply below_alloc | apply pw_below_drewN | apply below_drew1) | exact HB.out)⟩⟩
    case round =>
      clear H'
      try clear c2
      try clear p2
      try clear c5
      obtain ⟨x8_1, rfl, HA, HK1, HO_0, HB⟩ := hrel
      cases gk with
      | zero => exact absurd HA.out (by simp [towncrierref04_Put.l0])
      | succ k1 =>
        have H := HA.out
        clear HA
        simp only [towncrierref04_Put.l0] at H
        by_cases c6 : x8_1 < (l2.length : Int)
        · rw [if_pos c6] at H
          have c6b0 : decide (x8_1 < (l2.length : Int)) = true := decide_eq_true c6
          clear c6
          by_cases c7 : 0 ≤ x8_1
          · rw [if_pos c7] at H
            have c7b0 : decide (0 ≤ x8_1) = true := decide_eq_true c7
            clear c7
            replace H := Option.bind_eq_some_iff.mp H
            obtain ⟨t199, A80, H⟩ := H
            replace H : (if t199 = true then (if x8_1 ≤ (l2.length : Int) then ((towncrierref01_Has.f k1 (l2.take (x8_1 : Int).toNat) (rd l2 x8_1)).bind fun t202 => (if t202 = true then (some (l0, 1)) else (towncrierref04_Put.l0 k1 l0 a1 l2 (wrap64 (x8_1 + 1))))) else (none)) else (some (l0, 1))) = some (r1, r2) := H
            have A8 := Aside0.mk A80
            clear A80
            by_cases c9 : t199 = true
            · subst c9
              have H1 : (if x8_1 ≤ (l2.length : Int) then ((towncrierref01_Has.f k1 (l2.take (x8_1 : Int).toNat) (rd l2 x8_1)).bind fun t202 => (if t202 = true then (some (l0, 1)) else (towncrierref04_Put.l0 k1 l0 a1 l2 (wrap64 (x8_1 + 1))))) else (none)) = some (r1, r2) := by rw [if_pos rfl] at H; exact H
              clear H
              have H := H1
              clear H1
              have c10b0 := eq_true (of_decide_eq_true (by first | (with_reducible assumption) | assumption) : 0 ≤ x8_1)
              by_cases c11 : x8_1 ≤ (l2.length : Int)
              · rw [if_pos c11] at H
                have c11b0 := eq_true c11
                have c11b1 : decide (x8_1 ≤ (l2.length : Int)) = true := decide_eq_true c11
                clear c11
                replace H := Option.bind_eq_some_iff.mp H
                obtain ⟨t202, A120, H⟩ := H
                replace H : (if t202 = true then (some (l0, 1)) else (towncrierref04_Put.l0 k1 l0 a1 l2 (wrap64 (x8_1 + 1)))) = some (r1, r2) := H
                have A12 := Aside0.mk A120
                clear A120
                by_cases c13 : t202 = true
                · subst c13
                  have H1 : (some (l0, 1)) = some (r1, r2) := by rw [if_pos rfl] at H; exact H
                  clear H
                  have H := H1
                  clear H1
                  simp only [Option.some.injEq, Prod.mk.injEq] at H
                  obtain ⟨rfl, rfl⟩ := H
                  have p198 : 0 ≤ (x8_1 : Int) := of_decide_eq_true (by first | (with_reducible assumption) | assumption)
                  have q198 : x8_1 < (l2.length : Int) := of_decide_eq_true (by first | (with_reducible assumption) | assumption)
                  obtain ⟨ad198, e198, hx198_0⟩ := Kd.at_int HR2.out x8_1 p198 q198
                  cases e198
                  replace hx198_0 := (HB.out.cell (World.block_lt_of_cell? w _ hx198_0)).trans hx198_0
                  replace p198 := eq_true p198
                  replace q198 := eq_true q198
                  obtain ⟨i014, hi014, _, hsz14, _⟩ := info_parts info3
                  obtain ⟨hcut14, hA14, hC14⟩ := print_take_of (P := Try.prog) (Value.int .i64) 0 29 3 .i64 Try.underlying29 hi014 hsz14 (some ad198) c2 l2 x8_1 (of_decide_eq_true (by first | (with_reducible assumption) | assumption)) (of_decide_eq_true (by first | (with_reducible assumption) | assumption)) HC2.out
                  have HR200 := Aside0.mk (Kd.C_of_reads (h1 := fun _ => rfl) (hA14 _ (Kd.reads_of_C HR2.out)))
                  have HC200 := Aside0.mk hC14
                  clear hA14 hC14 hi014 hsz14
                  have p201 : 0 ≤ (x8_1 : Int) := of_decide_eq_true (by first | (with_reducible assumption) | assumption)
                  have q201 : x8_1 < (l2.length : Int) := of_decide_eq_true (by first | (with_reducible assumption) | assumption)
                  obtain ⟨ad201, e201, hx201_0⟩ := Kd.at_int HR2.out x8_1 p201 q201
                  obtain rfl : ad198 = ad201 := (by injection e201)
                  replace hx201_0 := (HB.out.cell (World.block_lt_of_cell? w _ hx201_0)).trans hx201_0
                  replace p201 := eq_true p201
                  replace q201 := eq_true q201
                  go_wp2
                  have hlen198 : (l2.take (x8_1 : Int).toNat).length = (x8_1 : Int).toNat := by
                    have := of_decide_eq_true c11b1
                    rw [List.length_take]
                    omega
                  refine start_ (n := 17) (S := (fun W_ => Drawn0 wr W_)) (ds := []) #[false, false, false, false, false, false, false, false, false, false, false, false, false, false, false, false, false] (by kernel_rfl) rfl rfl ⟨1, rfl⟩ (fun hHeld => ?_)
                  refine pure_ (i := 0) (N := (some 27)) (v := ?_) (a' := ?_) #[true, false, false, false, false, false, false, false, false, false, false, false, false, false, false, false, false] rfl rfl (by kernel_rfl) (fun _ _ _ h => h) (Or.inl ⟨by rfl, ?_⟩) ?_ ?_
                  rotate_left
                  · intro w'
                    go_simp
                    with_reducible rfl
                  rotate_left
                  · simp only [Act.put, List.setIfInBounds_toArray, List.set_cons_zero, List.set_cons_succ]
                    rfl
                  refine pure_ (i := 1) (N := (some 28)) (v := ?_) (a' := ?_) #[true, true, false, false, false, false, false, false, false, false, false, false, false, false, false, false, false] rfl rfl (by kernel_rfl) (fun _ _ _ h => h) (Or.inl ⟨by rfl, ?_⟩) ?_ ?_
                  rotate_left
                  · intro w'
                    go_simp
                    with_reducible rfl
                  rotate_left
                  · simp only [Act.put, List.setIfInBounds_toArray, List.set_cons_zero, List.set_cons_succ]
                    rfl
                  refine pure_ (i := 2) (N := (some 29)) (v := ?_) (a' := ?_) #[true, true, true, false, false, false, false, false, false, false, false, false, false, false, false, false, false] rfl rfl (by kernel_rfl) (fun _ _ _ h => h) (Or.inl ⟨by rfl, ?_⟩) ?_ ?_
                  rotate_left
                  · intro w'
                    go_simp
                    with_reducible rfl
                  rotate_left
                  · simp only [Act.put, List.setIfInBounds_toArray, List.set_cons_zero, List.set_cons_succ]
                    rfl
                  refine pure_ (i := 3) (N := (some 30)) (v := ?_) (a' := ?_) #[true, true, true, true, false, false, false, false, false, false, false, false, false, false, false, false, false] rfl rfl (by kernel_rfl) (fun _ _ _ h => h) (Or.inl ⟨by rfl, ?_⟩) ?_ ?_
                  rotate_left
                  · intro w'
                    go_simp
                    with_reducible rfl
                  rotate_left
                  · simp only [Act.put, List.setIfInBounds_toArray, List.set_cons_zero, List.set_cons_succ]
                    rfl
                  refine take_ (i := 4) (N := (some 31)) (v := ?_) (a' := ?_) #[true, true, true, true, true, false, false, false, false, false, false, false, false, false, false, false, false] rfl rfl (by kernel_rfl) (fun _ _ _ h => h) (Or.inl ⟨by rfl, ?_⟩) hHeld ?_ ?_
                  rotate_left
                  · intro w' hSw
                    obtain ⟨nd, rfl⟩ := hSw
                    go_simp
                    with_reducible rfl
                  rotate_left
                  · simp only [Act.put, List.setIfInBounds_toArray, List.set_cons_zero, List.set_cons_succ]
                    rfl
                  refine one_ (i := 5) (N := (some 32)) #[true, true, true, true, true, true, false, false, false, false, false, false, false, false, false, false, false] rfl rfl (by kernel_rfl) (by decide) (fun K hK => ?_)
                  refine goes_ Try.func49 (by kernel_rfl) rfl #[.slice A0 l0.length c0, .int .i64 (rd l2 x8_1)] (by rfl) rfl rfl (by try simp only [List.map_toArray, List.map_cons, List.map_nil]; first | done | rfl) ?_
                  refine (towncrierref04_There.calls _ _ l0 (rd l2 x8_1) true _ ?side1 ?side2 A8.out).mono ?_
                  case side1 => exact Kd.C_below (Kd.V_reads' HO_0.out).2.2 hHeld.below
                  case side2 => exact (Kd.V_reads' HO_0.out).2.1
                  rintro e w' ⟨rfl, ⟨nd, rfl⟩⟩
                  refine ⟨_, rfl, ?_⟩
                  refine hK.out _ _ (hHeld.step nd) (fun hHeld => ?_)
                  clear hK K
                  refine norm_ (a' := ?_) ?_ ?_
                  rotate_left
                  · show Act.put _ (some 32) _ = _
                    simp only [Act.put, List.setIfInBounds_toArray, List.set_cons_zero, List.set_cons_succ]
                    rfl
                  refine pure_ (i := 6) (N := (some 33)) (v := ?_) (a' := ?_) #[true, true, true, true, true, true, true, false, false, false, false, false, false, false, false, false, false] rfl rfl (by kernel_rfl) (fun _ _ _ h => h) (Or.inl ⟨by rfl, ?_⟩) ?_ ?_
                  rotate_left
                  · intro w'
                    go_simp
                    with_reducible rfl
                  rotate_left
                  · simp only [Act.put, List.setIfInBounds_toArray, List.set_cons_zero, List.set_cons_succ]
                    rfl
                  refine pure_ (i := 7) (N := (some 34)) (v := ?_) (a' := ?_) #[true, true, true, true, true, true, true, true, false, false, false, false, false, false, false, false, false] rfl rfl (by kernel_rfl) (fun _ _ _ h => h) (Or.inl ⟨by rfl, ?_⟩) ?_ ?_
                  rotate_left
                  · intro w'
                    go_simp
                    with_reducible rfl
                  rotate_left
                  · simp only [Act.put, List.setIfInBounds_toArray, List.set_cons_zero, List.set_cons_succ]
                    rfl
                  refine pure_ (i := 8) (N := (some 35)) (v := ?_) (a' := ?_) #[true, true, true, true, true, true, true, true, true, false, false, false, false, false, false, false, false] rfl rfl (by kernel_rfl) (fun _ _ _ h => h) (Or.inl ⟨by rfl, ?_⟩) ?_ ?_
                  rotate_left
                  · intro w'
                    go_simp
                    with_reducible rfl
                  rotate_left
                  · simp only [Act.put, List.setIfInBounds_toArray, List.set_cons_zero, List.set_cons_succ]
                    rfl
                  refine pure_ (i := 9) (N := (some 36)) (v := ?_) (a' := ?_) #[true, true, true, true, true, true, true, true, true, true, false, false, false, false, false, false, false] rfl rfl (by kernel_rfl) (fun _ _ _ h => h) (Or.inl ⟨by rfl, ?_⟩) ?_ ?_
                  rotate_left
                  · intro w'
                    go_simp
                    with_reducible rfl
                  rotate_left
                  · simp only [Act.put, List.setIfInBounds_toArray, List.set_cons_zero, List.set_cons_succ]
                    rfl
                  refine pure_ (i := 10) (N := (some 37)) (v := ?_) (a' := ?_) #[true, true, true, true, true, true, true, true, true, true, true, false, false, false, false, false, false] rfl rfl (by kernel_rfl) (fun _ _ _ h => h) (Or.inl ⟨by rfl, ?_⟩) ?_ ?_
                  rotate_left
                  · intro w'
                    go_simp
                    with_reducible rfl
                  rotate_left
                  · simp only [Act.put, List.setIfInBounds_toArray, List.set_cons_zero, List.set_cons_succ]
                    rfl
                  refine pure_ (i := 11) (N := (some 38)) (v := ?_) (a' := ?_) #[true, true, true, true, true, true, true, true, true, true, true, true, false, false, false, false, false] rfl rfl (by kernel_rfl) (fun _ _ _ h => h) (Or.inl ⟨by rfl, ?_⟩) ?_ ?_
                  rotate_left
                  · intro w'
                    go_simp
                    with_reducible rfl
                  rotate_left
                  · simp only [Act.put, List.setIfInBounds_toArray, List.set_cons_zero, List.set_cons_succ]
                    rfl
                  refine pure_ (i := 12) (N := (some 39)) (v := ?_) (a' := ?_) #[true, true, true, true, true, true, true, true, true, true, true, true, true, false, false, false, false] rfl rfl (by kernel_rfl) (fun _ _ _ h => h) (Or.inl ⟨by rfl, ?_⟩) ?_ ?_
                  rotate_left
                  · intro w'
                    go_simp
                    with_reducible rfl
                  rotate_left
                  · simp only [Act.put, List.setIfInBounds_toArray, List.set_cons_zero, List.set_cons_succ]
                    rfl
                  refine pure_ (i := 13) (N := (some 40)) (v := ?_) (a' := ?_) #[true, true, true, true, true, true, true, true, true, true, true, true, true, true, false, false, false] rfl rfl (by kernel_rfl) (fun _ _ _ h => h) (Or.inl ⟨by rfl, ?_⟩) ?_ ?_
                  rotate_left
                  · intro w'
                    go_simp
                    with_reducible rfl
                  rotate_left
                  · simp only [Act.put, List.setIfInBounds_toArray, List.set_cons_zero, List.set_cons_succ]
                    rfl
                  refine take_ (i := 14) (N := (some 41)) (v := ?_) (a' := ?_) #[true, true, true, true, true, true, true, true, true, true, true, true, true, true, true, false, false] rfl rfl (by kernel_rfl) (fun _ _ _ h => h) (Or.inl ⟨by rfl, ?_⟩) hHeld ?_ ?_
                  rotate_left
                  · intro w' hSw
                    obtain ⟨nd, rfl⟩ := hSw
                    go_simp
                    with_reducible rfl
                  rotate_left
                  · simp only [Act.put, List.setIfInBounds_toArray, List.set_cons_zero, List.set_cons_succ]
                    rfl
                  refine one_ (i := 15) (N := (some 42)) #[true, true, true, true, true, true, true, true, true, true, true, true, true, true, true, true, false] rfl rfl (by kernel_rfl) (by decide) (fun K hK => ?_)
                  refine goes_ Try.func34 (by kernel_rfl) rfl #[.slice (some ad198) (x8_1 : Int).toNat c2, .int .i64 (rd l2 x8_1)] (by rfl) rfl rfl (by try simp only [List.map_toArray, List.map_cons, List.map_nil]; first | done | rfl) ?_
                  have hT := towncrierref01_Has.calls k1 _ _ (l2.take (x8_1 : Int).toNat) (rd l2 x8_1) true _ (Kd.C_below (Kd.C_below HR200.out HB.out) hHeld.below) HC200.out A12.out
                  rw [hlen198] at hT
                  refine hT.mono ?_
                  rintro e w' ⟨rfl, ⟨nd, rfl⟩⟩
                  refine ⟨_, rfl, ?_⟩
                  refine hK.out _ _ (hHeld.step nd) (fun hHeld => ?_)
                  clear hK K
                  refine norm_ (a' := ?_) ?_ ?_
                  rotate_left
                  · show Act.put _ (some 42) _ = _
                    simp only [Act.put, List.setIfInBounds_toArray, List.set_cons_zero, List.set_cons_succ]
                    rfl
                  refine pure_ (i := 16) (N := (some 43)) (v := ?_) (a' := ?_) #[true, true, true, true, true, true, true, true, true, true, true, true, true, true, true, true, true] rfl rfl (by kernel_rfl) (fun _ _ _ h => h) (Or.inl ⟨by rfl, ?_⟩) ?_ ?_
                  rotate_left
                  · intro w'
                    go_simp
                    with_reducible rfl
                  rotate_left
                  · simp only [Act.put, List.setIfInBounds_toArray, List.set_cons_zero, List.set_cons_succ]
                    rfl
                  refine done_ (by kernel_rfl) ?_
                  go_wp2
                  go_ret2
                  exact ⟨_, by first | rfl | (simp [errW_none, errW_some] <;> rfl) | (simp [*, errW_none, errW_some] <;> rfl), by (with_reducible repeat (first | apply Kd.V_alloc | apply Kd.V_drewN | apply Kd.V_drew)); exact HO_0.out, by repeat (first | (with_reducible first | exact HB.out | apply below_alloc | apply pw_below_drewN | apply below_drew1) | exact HB.out)⟩
                · replace c13 := Bool.eq_false_iff.mpr c13
                  subst c13
                  have H1 : (towncrierref04_Put.l0 k1 l0 a1 l2 (wrap64 (x8_1 + 1))) = some (r1, r2) := by rw [if_neg (show ¬ (false = true) by decide)] at H; exact H
                  clear H
                  have H := H1
                  clear H1
                  have H' := Aside0.mk H
                  clear H
                  have p198 : 0 ≤ (x8_1 : Int) := of_decide_eq_true (by first | (with_reducible assumption) | assumption)
                  have q198 : x8_1 < (l2.length : Int) := of_decide_eq_true (by first | (with_reducible assumption) | assumption)
                  obtain ⟨ad198, e198, hx198_0⟩ := Kd.at_int HR2.out x8_1 p198 q198
                  cases e198
                  replace hx198_0 := (HB.out.cell (World.block_lt_of_cell? w _ hx198_0)).trans hx198_0
                  replace p198 := eq_true p198
                  replace q198 := eq_true q198
                  obtain ⟨i015, hi015, _, hsz15, _⟩ := info_parts info3
                  obtain ⟨hcut15, hA15, hC15⟩ := print_take_of (P := Try.prog) (Value.int .i64) 0 29 3 .i64 Try.underlying29 hi015 hsz15 (some ad198) c2 l2 x8_1 (of_decide_eq_true (by first | (with_reducible assumption) | assumption)) (of_decide_eq_true (by first | (with_reducible assumption) | assumption)) HC2.out
                  have HR200 := Aside0.mk (Kd.C_of_reads (h1 := fun _ => rfl) (hA15 _ (Kd.reads_of_C HR2.out)))
                  have HC200 := Aside0.mk hC15
                  clear hA15 hC15 hi015 hsz15
                  have p201 : 0 ≤ (x8_1 : Int) := of_decide_eq_true (by first | (with_reducible assumption) | assumption)
                  have q201 : x8_1 < (l2.length : Int) := of_decide_eq_true (by first | (with_reducible assumption) | assumption)
                  obtain ⟨ad201, e201, hx201_0⟩ := Kd.at_int HR2.out x8_1 p201 q201
                  obtain rfl : ad198 = ad201 := (by injection e201)
                  replace hx201_0 := (HB.out.cell (World.block_lt_of_cell? w _ hx201_0)).trans hx201_0
                  replace p201 := eq_true p201
                  replace q201 := eq_true q201
                  go_wp2
                  have hlen198 : (l2.take (x8_1 : Int).toNat).length = (x8_1 : Int).toNat := by
                    have := of_decide_eq_true c11b1
                    rw [List.length_take]
                    omega
                  refine start_ (n := 17) (S := (fun W_ => Drawn0 wr W_)) (ds := []) #[false, false, false, false, false, false, false, false, false, false, false, false, false, false, false, false, false] (by kernel_rfl) rfl rfl ⟨1, rfl⟩ (fun hHeld => ?_)
                  refine pure_ (i := 0) (N := (some 27)) (v := ?_) (a' := ?_) #[true, false, false, false, false, false, false, false, false, false, false, false, false, false, false, false, false] rfl rfl (by kernel_rfl) (fun _ _ _ h => h) (Or.inl ⟨by rfl, ?_⟩) ?_ ?_
                  rotate_left
                  · intro w'
                    go_simp
                    with_reducible rfl
                  rotate_left
                  · simp only [Act.put, List.setIfInBounds_toArray, List.set_cons_zero, List.set_cons_succ]
                    rfl
                  refine pure_ (i := 1) (N := (some 28)) (v := ?_) (a' := ?_) #[true, true, false, false, false, false, false, false, false, false, false, false, false, false, false, false, false] rfl rfl (by kernel_rfl) (fun _ _ _ h => h) (Or.inl ⟨by rfl, ?_⟩) ?_ ?_
                  rotate_left
                  · intro w'
                    go_simp
                    with_reducible rfl
                  rotate_left
                  · simp only [Act.put, List.setIfInBounds_toArray, List.set_cons_zero, List.set_cons_succ]
                    rfl
                  refine pure_ (i := 2) (N := (some 29)) (v := ?_) (a' := ?_) #[true, true, true, false, false, false, false, false, false, false, false, false, false, false, false, false, false] rfl rfl (by kernel_rfl) (fun _ _ _ h => h) (Or.inl ⟨by rfl, ?_⟩) ?_ ?_
                  rotate_left
                  · intro w'
                    go_simp
                    with_reducible rfl
                  rotate_left
                  · simp only [Act.put, List.setIfInBounds_toArray, List.set_cons_zero, List.set_cons_succ]
                    rfl
                  refine pure_ (i := 3) (N := (some 30)) (v := ?_) (a' := ?_) #[true, true, true, true, false, false, false, false, false, false, false, false, false, false, false, false, false] rfl rfl (by kernel_rfl) (fun _ _ _ h => h) (Or.inl ⟨by rfl, ?_⟩) ?_ ?_
                  rotate_left
                  · intro w'
                    go_simp
                    with_reducible rfl
                  rotate_left
                  · simp only [Act.put, List.setIfInBounds_toArray, List.set_cons_zero, List.set_cons_succ]
                    rfl
                  refine take_ (i := 4) (N := (some 31)) (v := ?_) (a' := ?_) #[true, true, true, true, true, false, false, false, false, false, false, false, false, false, false, false, false] rfl rfl (by kernel_rfl) (fun _ _ _ h => h) (Or.inl ⟨by rfl, ?_⟩) hHeld ?_ ?_
                  rotate_left
                  · intro w' hSw
                    obtain ⟨nd, rfl⟩ := hSw
                    go_simp
                    with_reducible rfl
                  rotate_left
                  · simp only [Act.put, List.setIfInBounds_toArray, List.set_cons_zero, List.set_cons_succ]
                    rfl
                  refine one_ (i := 5) (N := (some 32)) #[true, true, true, true, true, true, false, false, false, false, false, false, false, false, false, false, false] rfl rfl (by kernel_rfl) (by decide) (fun K hK => ?_)
                  refine goes_ Try.func49 (by kernel_rfl) rfl #[.slice A0 l0.length c0, .int .i64 (rd l2 x8_1)] (by rfl) rfl rfl (by try simp only [List.map_toArray, List.map_cons, List.map_nil]; first | done | rfl) ?_
                  refine (towncrierref04_There.calls _ _ l0 (rd l2 x8_1) true _ ?side1 ?side2 A8.out).mono ?_
                  case side1 => exact Kd.C_below (Kd.V_reads' HO_0.out).2.2 hHeld.below
                  case side2 => exact (Kd.V_reads' HO_0.out).2.1
                  rintro e w' ⟨rfl, ⟨nd, rfl⟩⟩
                  refine ⟨_, rfl, ?_⟩
                  refine hK.out _ _ (hHeld.step nd) (fun hHeld => ?_)
                  clear hK K
                  refine norm_ (a' := ?_) ?_ ?_
                  rotate_left
                  · show Act.put _ (some 32) _ = _
                    simp only [Act.put, List.setIfInBounds_toArray, List.set_cons_zero, List.set_cons_succ]
                    rfl
                  refine pure_ (i := 6) (N := (some 33)) (v := ?_) (a' := ?_) #[true, true, true, true, true, true, true, false, false, false, false, false, false, false, false, false, false] rfl rfl (by kernel_rfl) (fun _ _ _ h => h) (Or.inl ⟨by rfl, ?_⟩) ?_ ?_
                  rotate_left
                  · intro w'
                    go_simp
                    with_reducible rfl
                  rotate_left
                  · simp only [Act.put, List.setIfInBounds_toArray, List.set_cons_zero, List.set_cons_succ]
                    rfl
                  refine pure_ (i := 7) (N := (some 34)) (v := ?_) (a' := ?_) #[true, true, true, true, true, true, true, true, false, false, false, false, false, false, false, false, false] rfl rfl (by kernel_rfl) (fun _ _ _ h => h) (Or.inl ⟨by rfl, ?_⟩) ?_ ?_
                  rotate_left
                  · intro w'
                    go_simp
                    with_reducible rfl
                  rotate_left
                  · simp only [Act.put, List.setIfInBounds_toArray, List.set_cons_zero, List.set_cons_succ]
                    rfl
                  refine pure_ (i := 8) (N := (some 35)) (v := ?_) (a' := ?_) #[true, true, true, true, true, true, true, true, true, false, false, false, false, false, false, false, false] rfl rfl (by kernel_rfl) (fun _ _ _ h => h) (Or.inl ⟨by rfl, ?_⟩) ?_ ?_
                  rotate_left
                  · intro w'
                    go_simp
                    with_reducible rfl
                  rotate_left
                  · simp only [Act.put, List.setIfInBounds_toArray, List.set_cons_zero, List.set_cons_succ]
                    rfl
                  refine pure_ (i := 9) (N := (some 36)) (v := ?_) (a' := ?_) #[true, true, true, true, true, true, true, true, true, true, false, false, false, false, false, false, false] rfl rfl (by kernel_rfl) (fun _ _ _ h => h) (Or.inl ⟨by rfl, ?_⟩) ?_ ?_
                  rotate_left
                  · intro w'
                    go_simp
                    with_reducible rfl
                  rotate_left
                  · simp only [Act.put, List.setIfInBounds_toArray, List.set_cons_zero, List.set_cons_succ]
                    rfl
                  refine pure_ (i := 10) (N := (some 37)) (v := ?_) (a' := ?_) #[true, true, true, true, true, true, true, true, true, true, true, false, false, false, false, false, false] rfl rfl (by kernel_rfl) (fun _ _ _ h => h) (Or.inl ⟨by rfl, ?_⟩) ?_ ?_
                  rotate_left
                  · intro w'
                    go_simp
                    with_reducible rfl
                  rotate_left
                  · simp only [Act.put, List.setIfInBounds_toArray, List.set_cons_zero, List.set_cons_succ]
                    rfl
                  refine pure_ (i := 11) (N := (some 38)) (v := ?_) (a' := ?_) #[true, true, true, true, true, true, true, true, true, true, true, true, false, false, false, false, false] rfl rfl (by kernel_rfl) (fun _ _ _ h => h) (Or.inl ⟨by rfl, ?_⟩) ?_ ?_
                  rotate_left
                  · intro w'
                    go_simp
                    with_reducible rfl
                  rotate_left
                  · simp only [Act.put, List.setIfInBounds_toArray, List.set_cons_zero, List.set_cons_succ]
                    rfl
                  refine pure_ (i := 12) (N := (some 39)) (v := ?_) (a' := ?_) #[true, true, true, true, true, true, true, true, true, true, true, true, true, false, false, false, false] rfl rfl (by kernel_rfl) (fun _ _ _ h => h) (Or.inl ⟨by rfl, ?_⟩) ?_ ?_
                  rotate_left
                  · intro w'
                    go_simp
                    with_reducible rfl
                  rotate_left
                  · simp only [Act.put, List.setIfInBounds_toArray, List.set_cons_zero, List.set_cons_succ]
                    rfl
                  refine pure_ (i := 13) (N := (some 40)) (v := ?_) (a' := ?_) #[true, true, true, true, true, true, true, true, true, true, true, true, true, true, false, false, false] rfl rfl (by kernel_rfl) (fun _ _ _ h => h) (Or.inl ⟨by rfl, ?_⟩) ?_ ?_
                  rotate_left
                  · intro w'
                    go_simp
                    with_reducible rfl
                  rotate_left
                  · simp only [Act.put, List.setIfInBounds_toArray, List.set_cons_zero, List.set_cons_succ]
                    rfl
                  refine take_ (i := 14) (N := (some 41)) (v := ?_) (a' := ?_) #[true, true, true, true, true, true, true, true, true, true, true, true, true, true, true, false, false] rfl rfl (by kernel_rfl) (fun _ _ _ h => h) (Or.inl ⟨by rfl, ?_⟩) hHeld ?_ ?_
                  rotate_left
                  · intro w' hSw
                    obtain ⟨nd, rfl⟩ := hSw
                    go_simp
                    with_reducible rfl
                  rotate_left
                  · simp only [Act.put, List.setIfInBounds_toArray, List.set_cons_zero, List.set_cons_succ]
                    rfl
                  refine one_ (i := 15) (N := (some 42)) #[true, true, true, true, true, true, true, true, true, true, true, true, true, true, true, true, false] rfl rfl (by kernel_rfl) (by decide) (fun K hK => ?_)
                  refine goes_ Try.func34 (by kernel_rfl) rfl #[.slice (some ad198) (x8_1 : Int).toNat c2, .int .i64 (rd l2 x8_1)] (by rfl) rfl rfl (by try simp only [List.map_toArray, List.map_cons, List.map_nil]; first | done | rfl) ?_
                  have hT := towncrierref01_Has.calls k1 _ _ (l2.take (x8_1 : Int).toNat) (rd l2 x8_1) false _ (Kd.C_below (Kd.C_below HR200.out HB.out) hHeld.below) HC200.out A12.out
                  rw [hlen198] at hT
                  refine hT.mono ?_
                  rintro e w' ⟨rfl, ⟨nd, rfl⟩⟩
                  refine ⟨_, rfl, ?_⟩
                  refine hK.out _ _ (hHeld.step nd) (fun hHeld => ?_)
                  clear hK K
                  refine norm_ (a' := ?_) ?_ ?_
                  rotate_left
                  · show Act.put _ (some 42) _ = _
                    simp only [Act.put, List.setIfInBounds_toArray, List.set_cons_zero, List.set_cons_succ]
                    rfl
                  refine pure_ (i := 16) (N := (some 43)) (v := ?_) (a' := ?_) #[true, true, true, true, true, true, true, true, true, true, true, true, true, true, true, true, true] rfl rfl (by kernel_rfl) (fun _ _ _ h => h) (Or.inl ⟨by rfl, ?_⟩) ?_ ?_
                  rotate_left
                  · intro w'
                    go_simp
                    with_reducible rfl
                  rotate_left
                  · simp only [Act.put, List.setIfInBounds_toArray, List.set_cons_zero, List.set_cons_succ]
                    rfl
                  refine done_ (by kernel_rfl) ?_
                  go_wp2
                  go_roundg k1
                  case measure => have := HK1.out; omega
                  case rel => exact ⟨(wrap64 (x8_1 + 1)), (by first | rfl | (simp; done) | (simp [*]; done)), H', ⟨by have := HK1.out; omega⟩, ⟨by (with_reducible repeat (first | apply Kd.V_alloc | apply Kd.V_drewN | apply Kd.V_drew)); exact HO_0.out⟩, ⟨by repeat (first | (with_reducible first | exact HB.out | apply below_alloc | apply pw_below_drewN | apply below_drew1) | exact HB.out)⟩⟩
              · rw [if_neg c11] at H
                exact absurd H (by simp)
            · replace c9 := Bool.eq_false_iff.mpr c9
              subst c9
              have H1 : (some (l0, 1)) = some (r1, r2) := by rw [if_neg (show ¬ (false = true) by decide)] at H; exact H
              clear H
              have H := H1
              clear H1
              simp only [Option.some.injEq, Prod.mk.injEq] at H
              obtain ⟨rfl, rfl⟩ := H
              have p198 : 0 ≤ (x8_1 : Int) := of_decide_eq_true (by first | (with_reducible assumption) | assumption)
              have q198 : x8_1 < (l2.length : Int) := of_decide_eq_true (by first | (with_reducible assumption) | assumption)
              obtain ⟨ad198, e198, hx198_0⟩ := Kd.at_int HR2.out x8_1 p198 q198
              cases e198
              replace hx198_0 := (HB.out.cell (World.block_lt_of_cell? w _ hx198_0)).trans hx198_0
              replace p198 := eq_true p198
              replace q198 := eq_true q198
              go_wp2_with (first | (go_at_call 49; (with_reducible refine (towncrierref04_There.calls _ _ l0 (rd l2 x8_1) false _ ?side1 ?side2 A8.out).mono ?_); (case side1 => repeat (first | exact (Kd.V_reads' HO_0.out).2.2 | (with_reducible refine Kd.C_alloc ?_ _) | (with_reducible refine Kd.C_drewN ?_ _) | (with_reducible refine Kd.C_drew ?_))); (case side2 => exact (Kd.V_reads' HO_0.out).2.1); rintro e w' ⟨rfl, ⟨nd, rfl⟩⟩; (try first | exact ⟨rfl, _, World.drewN_drewN _ _ _⟩ | exact ⟨rfl, _, Eq.trans (World.drewN_drewN _ _ _) (congrArg (World.drewN _) (Nat.add_assoc _ _ _))⟩)))
              repeat (go_quiet (first | (go_at_call 49; (with_reducible refine (towncrierref04_There.calls _ _ l0 (rd l2 x8_1) false _ ?side1 ?side2 A8.out).mono ?_); (case side1 => repeat (first | exact (Kd.V_reads' HO_0.out).2.2 | (with_reducible refine Kd.C_alloc ?_ _) | (with_reducible refine Kd.C_drewN ?_ _) | (with_reducible refine Kd.C_drew ?_))); (case side2 => exact (Kd.V_reads' HO_0.out).2.1); rintro e w' ⟨rfl, ⟨nd, rfl⟩⟩; (try first | exact ⟨rfl, _, World.drewN_drewN _ _ _⟩ | exact ⟨rfl, _, Eq.trans (World.drewN_drewN _ _ _) (congrArg (World.drewN _) (Nat.add_assoc _ _ _))⟩))); try go_wp2_with (first | (go_at_call 49; (with_reducible refine (towncrierref04_There.calls _ _ l0 (rd l2 x8_1) false _ ?side1 ?side2 A8.out).mono ?_); (case side1 => repeat (first | exact (Kd.V_reads' HO_0.out).2.2 | (with_reducible refine Kd.C_alloc ?_ _) | (with_reducible refine Kd.C_drewN ?_ _) | (with_reducible refine Kd.C_drew ?_))); (case side2 => exact (Kd.V_reads' HO_0.out).2.1); rintro e w' ⟨rfl, ⟨nd, rfl⟩⟩; (try first | exact ⟨rfl, _, World.drewN_drewN _ _ _⟩ | exact ⟨rfl, _, Eq.trans (World.drewN_drewN _ _ _) (congrArg (World.drewN _) (Nat.add_assoc _ _ _))⟩))))
              go_ret2
              exact ⟨_, by first | rfl | (simp [errW_none, errW_some] <;> rfl) | (simp [*, errW_none, errW_some] <;> rfl), by (with_reducible repeat (first | apply Kd.V_alloc | apply Kd.V_drewN | apply Kd.V_drew)); exact HO_0.out, by repeat (first | (with_reducible first | exact HB.out | apply below_alloc | apply pw_below_drewN | apply below_drew1) | exact HB.out)⟩
          · rw [if_neg c7] at H
            exact absurd H (by simp)
        · rw [if_neg c6] at H
          have c6b0 : decide (x8_1 < (l2.length : Int)) = false := decide_eq_false c6
          clear c6
          replace H := Option.bind_eq_some_iff.mp H
          obtain ⟨t203, A160, H⟩ := H
          replace H : (towncrierref04_Put.l1 k1 l0 a1 l2 t203 0) = some (r1, r2) := H
          have A16 := Aside0.mk A160
          clear A160
          have H' := Aside0.mk H
          clear H
          go_wp2_with (first | (go_at_call 67; (with_reducible refine (towncrierref04_Over.calls k1 _ _ l0 a1 t203 _ ?side1 ?side2 A16.out).mono ?_); (case side1 => repeat (first | exact (Kd.V_reads' HO_0.out).2.2 | (with_reducible refine Kd.C_alloc ?_ _) | (with_reducible refine Kd.C_drewN ?_ _) | (with_reducible refine Kd.C_drew ?_))); (case side2 => exact (Kd.V_reads' HO_0.out).2.1); rintro e w17 ⟨v204, rfl, ho0, hb⟩; have n0_ := Aside0.mk (Kd.V_elder' (by (with_reducible repeat (first | apply Kd.V_alloc | apply Kd.V_drewN | apply Kd.V_drew)); exact HO_0.out) (Kd.R_base ho0) hb); have n1_ := Aside0.mk (Kd.R_lower (Kd.R_newM (M := fun k_ => (w.heap.size ≤ k_)) ho0 (below_size (by repeat (first | (with_reducible first | exact HB.out | apply below_alloc | apply pw_below_drewN | apply below_drew1) | exact HB.out))) (fun k_ h_ => h_)) (below_size (by repeat (first | (with_reducible first | exact HB.out | apply below_alloc | apply pw_below_drewN | apply below_drew1) | exact HB.out)))); have n2_ := Aside0.mk (below_step (by repeat (first | (with_reducible first | exact HB.out | apply below_alloc | apply pw_below_drewN | apply below_drew1) | exact HB.out)) hb); clear HO_0; clear HB; have HO_0 := n0_; have HO205 := n1_; have HB := n2_; clear n0_ n1_ n2_; (try clear hb); (try clear hb2); (try clear hk); (try clear hi); (try clear ho0)))
          repeat (go_quiet (first | (go_at_call 67; (with_reducible refine (towncrierref04_Over.calls k1 _ _ l0 a1 t203 _ ?side1 ?side2 A16.out).mono ?_); (case side1 => repeat (first | exact (Kd.V_reads' HO_0.out).2.2 | (with_reducible refine Kd.C_alloc ?_ _) | (with_reducible refine Kd.C_drewN ?_ _) | (with_reducible refine Kd.C_drew ?_))); (case side2 => exact (Kd.V_reads' HO_0.out).2.1); rintro e w17 ⟨v204, rfl, ho0, hb⟩; have n0_ := Aside0.mk (Kd.V_elder' (by (with_reducible repeat (first | apply Kd.V_alloc | apply Kd.V_drewN | apply Kd.V_drew)); exact HO_0.out) (Kd.R_base ho0) hb); have n1_ := Aside0.mk (Kd.R_lower (Kd.R_newM (M := fun k_ => (w.heap.size ≤ k_)) ho0 (below_size (by repeat (first | (with_reducible first | exact HB.out | apply below_alloc | apply pw_below_drewN | apply below_drew1) | exact HB.out))) (fun k_ h_ => h_)) (below_size (by repeat (first | (with_reducible first | exact HB.out | apply below_alloc | apply pw_below_drewN | apply below_drew1) | exact HB.out)))); have n2_ := Aside0.mk (below_step (by repeat (first | (with_reducible first | exact HB.out | apply below_alloc | apply pw_below_drewN | apply below_drew1) | exact HB.out)) hb); clear HO_0; clear HB; have HO_0 := n0_; have HO205 := n1_; have HB := n2_; clear n0_ n1_ n2_; (try clear hb); (try clear hb2); (try clear hk); (try clear hi); (try clear ho0))); try go_wp2_with (first | (go_at_call 67; (with_reducible refine (towncrierref04_Over.calls k1 _ _ l0 a1 t203 _ ?side1 ?side2 A16.out).mono ?_); (case side1 => repeat (first | exact (Kd.V_reads' HO_0.out).2.2 | (with_reducible refine Kd.C_alloc ?_ _) | (with_reducible refine Kd.C_drewN ?_ _) | (with_reducible refine Kd.C_drew ?_))); (case side2 => exact (Kd.V_reads' HO_0.out).2.1); rintro e w17 ⟨v204, rfl, ho0, hb⟩; have n0_ := Aside0.mk (Kd.V_elder' (by (with_reducible repeat (first | apply Kd.V_alloc | apply Kd.V_drewN | apply Kd.V_drew)); exact HO_0.out) (Kd.R_base ho0) hb); have n1_ := Aside0.mk (Kd.R_lower (Kd.R_newM (M := fun k_ => (w.heap.size ≤ k_)) ho0 (below_size (by repeat (first | (with_reducible first | exact HB.out | apply below_alloc | apply pw_below_drewN | apply below_drew1) | exact HB.out))) (fun k_ h_ => h_)) (below_size (by repeat (first | (with_reducible first | exact HB.out | apply below_alloc | apply pw_below_drewN | apply below_drew1) | exact HB.out)))); have n2_ := Aside0.mk (below_step (by repeat (first | (with_reducible first | exact HB.out | apply below_alloc | apply pw_below_drewN | apply below_drew1) | exact HB.out)) hb); clear HO_0; clear HB; have HO_0 := n0_; have HO205 := n1_; have HB := n2_; clear n0_ n1_ n2_; (try clear hb); (try clear hb2); (try clear hk); (try clear hi); (try clear ho0))))
          go_loopg [10] k1 (fun kq v10 w' => ∃ (x10_2 : Int), v10 = .int .i64 x10_2 ∧ Aside0 (towncrierref04_Put.l1 kq l0 a1 l2 t203 x10_2 = some (r1, r2)) ∧ Aside0 (kq ≤ k1) ∧ Aside0 (Kd.V k61 61 w' w.heap.size (fun k_ => (P0_ k_ ∨ w.heap.size ≤ k_) ∧ some k_ ≠ (v204 : Value).ownBlock) (.slice A0 l0.length c0) l0) ∧ Aside0 (Kd.R (Kd.int .i64) 3 w' w.heap.size (fun k_ => (w.heap.size ≤ k_)) v204 t203) ∧ Aside0 (Below w.heap.size w w'))
          case atStart => exact ⟨(0), (by first | rfl | (simp; done) | (simp [*]; done)), H', ⟨Nat.le_refl _⟩, ⟨by (with_reducible repeat (first | apply Kd.V_alloc | apply Kd.V_drewN | apply Kd.V_drew)); exact HO_0.out⟩, ⟨by (with_reducible repeat (first | apply Kd.R_alloc | apply Kd.R_drewN | apply Kd.R_drew)); exact Kd.R_mono HO205.out (fun _ hk => hk.1)⟩, ⟨by repeat (first | (with_reducible first | exact HB.out | apply below_alloc | apply pw_below_drewN | apply below_drew1) | exact HB.out)⟩⟩
          case round =>
            clear H'
            try clear c1
            try clear p1
            try clear q1
            try clear hx1
            try clear c2
            try clear p2
            try clear q2
            try clear hx2
            try clear c5
            try clear c6
            try clear c6b0
            try clear p6
            try clear c7
            try clear c7b0
            try clear c9
            try clear c10
            try clear c10b0
            try clear c11
            try clear c11b0
            try clear c11b1
            try clear c13
            try clear hx198_0
            try clear hx201_0
            try clear p198
            try clear p2
            try clear p201
            try clear q198
            try clear q201
            obtain ⟨x10_2, rfl, HA, HK2, HO_0, HO_9, HB⟩ := hrel
            cases gk with
            | zero => exact absurd HA.out (by simp [towncrierref04_Put.l1])
            | succ k2 =>
              have H := HA.out
              clear HA
              simp only [towncrierref04_Put.l1] at H
              by_cases c18 : x10_2 < (l2.length : Int)
              · rw [if_pos c18] at H
                have c18b0 : decide (x10_2 < (l2.length : Int)) = true := decide_eq_true c18
                clear c18
                by_cases c19 : 0 ≤ x10_2
                · rw [if_pos c19] at H
                  have c19b0 : decide (0 ≤ x10_2) = true := decide_eq_true c19
                  clear c19
                  obtain ⟨ji20, hji20⟩ : ∃ j_ : Int, (wrap64 ((rd l2 x10_2) - 1)) = j_ := ⟨_, rfl⟩
                  replace H : (if 0 ≤ (ji20) then (if (ji20) < (l0.length : Int) then (if ((rd_T61 l0 (ji20)).f0) = 1 then (some (l0, 3)) else (if ((rd_T61 l0 (ji20)).f0) = 3 then (some (l0, 3)) else ((towncrierref01_Has.f k2 t203 (rd l2 x10_2)).bind fun t211 => (if t211 = true then (some (l0, 3)) else (if ((rd_T61 l0 (ji20)).f1) = 0 then (towncrierref04_Put.l1 k2 l0 a1 l2 t203 (wrap64 (x10_2 + 1))) else (if ((rd_T61 l0 (ji20)).f1) = a1 then (towncrierref04_Put.l1 k2 l0 a1 l2 t203 (wrap64 (x10_2 + 1))) else (some (l0, 3)))))))) else (none)) else (none)) = some (r1, r2) := by first | (rw [hji20] at H; exact H) | (simp only [hji20] at H ⊢; exact H)
                  have hji20w : (IntKind.i64.wrap ((rd l2 x10_2) - 1)) = ji20 := (i64_w _).trans hji20
                  by_cases c21 : 0 ≤ (ji20)
                  · rw [if_pos c21] at H
                    have c21b0 : decide (0 ≤ (ji20)) = true := decide_eq_true c21
                    clear c21
                    by_cases c22 : (ji20) < (l0.length : Int)
                    · rw [if_pos c22] at H
                      have c22b0 : decide ((ji20) < (l0.length : Int)) = true := decide_eq_true c22
                      clear c22
                      by_cases c23 : ((rd_T61 l0 (ji20)).f0) = 1
                      · rw [if_pos c23] at H
                        have c23b0 : (((rd_T61 l0 (ji20)).f0) == 1) = true := beq_iff_eq.mpr c23
                        have c23b1 : (((rd_T61 l0 (ji20)).f0) != 1) = false := bne_eq_false_iff_eq.mpr c23
                        clear c23
                        simp only [Option.some.injEq, Prod.mk.injEq] at H
                        obtain ⟨rfl, rfl⟩ := H
                        have p206 : 0 ≤ (x10_2 : Int) := of_decide_eq_true (by first | (with_reducible assumption) | assumption)
                        have q206 : x10_2 < (l2.length : Int) := of_decide_eq_true (by first | (with_reducible assumption) | assumption)
                        obtain ⟨ad206, e206, hx206_0⟩ := Kd.at_int HR2.out x10_2 p206 q206
                        cases e206
                        replace hx206_0 := (HB.out.cell (World.block_lt_of_cell? w _ hx206_0)).trans hx206_0
                        replace p206 := eq_true p206
                        replace q206 := eq_true q206
                        have p207 : 0 ≤ ((ji20) : Int) := of_decide_eq_true (by first | (with_reducible assumption) | assumption)
                        have q207 : (ji20) < (l0.length : Int) := of_decide_eq_true (by first | (with_reducible assumption) | assumption)
                        obtain ⟨ad207, A207_8, c207_8, e207, hx207_0, hx207_1, hx207_2, hx207_3, hx207_4, hx207_5, hx207_6, hx207_7, hx207_8, hl207_8, hi207_8⟩ := at_T61 (Kd.V_reads' HO_0.out).2.2 (ji20) p207 q207
                        cases e207
                        obtain ⟨ce207, hce207, hMe207, hcc207⟩ := Kd.V_get HO_0.out z61 (ji20) p207 (by first | exact q207 | exact of_decide_eq_true (by first | (with_reducible assumption) | assumption) | (have e_ := (Kd.V_reads' HO_0.out).1; omega))
                        obtain ⟨ua207_8, uc207_8, rfl, ul207_8, ge207_8⟩ := k61_openF hMe207
                        have hv207_8 := hcc207 8 _ rfl
                        rw [add_field _ _ 8 (by omega)] at hv207_8
                        replace hv207_8 := Option.some.inj (hv207_8.symm.trans hx207_8)
                        injection hv207_8 with hva_ hvn_ hvc_
                        rw [hva_] at ge207_8
                        rw [hvc_] at ul207_8
                        have HL207_8 := Aside0.mk (show Kd.V (Kd.int .i64) 3 _ w.heap.size _ _ ((rd_T61 l0 (ji20)).f8) from Kd.V_mk ul207_8 ge207_8)
                        clear hva_ hvn_ hvc_ ge207_8 ul207_8
                        clear hcc207 hce207
                        have HR207_8 := Aside0.mk hi207_8
                        have HC207_8 := Aside0.mk hl207_8
                        clear hi207_8 hl207_8
                        replace p207 := eq_true p207
                        replace q207 := eq_true q207
                        have p208 : 0 ≤ (x10_2 : Int) := of_decide_eq_true (by first | (with_reducible assumption) | assumption)
                        have q208 : x10_2 < (l2.length : Int) := of_decide_eq_true (by first | (with_reducible assumption) | assumption)
                        obtain ⟨ad208, e208, hx208_0⟩ := Kd.at_int HR2.out x10_2 p208 q208
                        obtain rfl : ad206 = ad208 := (by injection e208)
                        replace hx208_0 := (HB.out.cell (World.block_lt_of_cell? w _ hx208_0)).trans hx208_0
                        replace p208 := eq_true p208
                        replace q208 := eq_true q208
                        have p209 : 0 ≤ ((ji20) : Int) := of_decide_eq_true (by first | (with_reducible assumption) | assumption)
                        have q209 : (ji20) < (l0.length : Int) := of_decide_eq_true (by first | (with_reducible assumption) | assumption)
                        obtain ⟨ad209, A209_8, c209_8, e209, hx209_0, hx209_1, hx209_2, hx209_3, hx209_4, hx209_5, hx209_6, hx209_7, hx209_8, hl209_8, hi209_8⟩ := at_T61 (Kd.V_reads' HO_0.out).2.2 (ji20) p209 q209
                        obtain rfl : ad207 = ad209 := (by injection e209)
                        obtain ⟨ce209, hce209, hMe209, hcc209⟩ := Kd.V_get HO_0.out z61 (ji20) p209 (by first | exact q209 | exact of_decide_eq_true (by first | (with_reducible assumption) | assumption) | (have e_ := (Kd.V_reads' HO_0.out).1; omega))
                        obtain ⟨ua209_8, uc209_8, rfl, ul209_8, ge209_8⟩ := k61_openF hMe209
                        have hv209_8 := hcc209 8 _ rfl
                        rw [add_field _ _ 8 (by omega)] at hv209_8
                        replace hv209_8 := Option.some.inj (hv209_8.symm.trans hx209_8)
                        injection hv209_8 with hva_ hvn_ hvc_
                        rw [hva_] at ge209_8
                        rw [hvc_] at ul209_8
                        have HL209_8 := Aside0.mk (show Kd.V (Kd.int .i64) 3 _ w.heap.size _ _ ((rd_T61 l0 (ji20)).f8) from Kd.V_mk ul209_8 ge209_8)
                        clear hva_ hvn_ hvc_ ge209_8 ul209_8
                        clear hcc209 hce209
                        have HR209_8 := Aside0.mk hi209_8
                        have HC209_8 := Aside0.mk hl209_8
                        clear hi209_8 hl209_8
                        replace p209 := eq_true p209
                        replace q209 := eq_true q209
                        have ea_ := Option.some.inj (hx207_8.symm.trans hx209_8)
                        injection ea_ with ea_ en_ ec_
                        subst ea_
                        subst ec_
                        clear en_
                        go_wp2
                        repeat (go_quiet (fail); try go_wp2)
                        go_ret2
                        exact ⟨_, by first | rfl | (simp [errW_none, errW_some] <;> rfl) | (simp only [← hji20]; first | rfl | (simp [errW_none, errW_some] <;> rfl)) | (simp [*, errW_none, errW_some] <;> rfl), by (with_reducible repeat (first | apply Kd.V_alloc | apply Kd.V_drewN | apply Kd.V_drew)); exact Kd.V_mono HO_0.out (fun _ hk => hk.1), by repeat (first | (with_reducible first | exact HB.out | apply below_alloc | apply pw_below_drewN | apply below_drew1) | exact HB.out)⟩
                      · rw [if_neg c23] at H
                        have c23b0 : (((rd_T61 l0 (ji20)).f0) == 1) = false := beq_eq_false_iff_ne.mpr c23
                        have c23b1 : (((rd_T61 l0 (ji20)).f0) != 1) = true := bne_iff_ne.mpr c23
                        by_cases c24 : ((rd_T61 l0 (ji20)).f0) = 3
                        · rw [if_pos c24] at H
                          have c24b0 : (((rd_T61 l0 (ji20)).f0) == 3) = true := beq_iff_eq.mpr c24
                          have c24b1 : (((rd_T61 l0 (ji20)).f0) != 3) = false := bne_eq_false_iff_eq.mpr c24
                          clear c24
                          simp only [Option.some.injEq, Prod.mk.injEq] at H
                          obtain ⟨rfl, rfl⟩ := H
                          have p206 : 0 ≤ (x10_2 : Int) := of_decide_eq_true (by first | (with_reducible assumption) | assumption)
                          have q206 : x10_2 < (l2.length : Int) := of_decide_eq_true (by first | (with_reducible assumption) | assumption)
                          obtain ⟨ad206, e206, hx206_0⟩ := Kd.at_int HR2.out x10_2 p206 q206
                          cases e206
                          replace hx206_0 := (HB.out.cell (World.block_lt_of_cell? w _ hx206_0)).trans hx206_0
                          replace p206 := eq_true p206
                          replace q206 := eq_true q206
                          have p207 : 0 ≤ ((ji20) : Int) := of_decide_eq_true (by first | (with_reducible assumption) | assumption)
                          have q207 : (ji20) < (l0.length : Int) := of_decide_eq_true (by first | (with_reducible assumption) | assumption)
                          obtain ⟨ad207, A207_8, c207_8, e207, hx207_0, hx207_1, hx207_2, hx207_3, hx207_4, hx207_5, hx207_6, hx207_7, hx207_8, hl207_8, hi207_8⟩ := at_T61 (Kd.V_reads' HO_0.out).2.2 (ji20) p207 q207
                          cases e207
                          obtain ⟨ce207, hce207, hMe207, hcc207⟩ := Kd.V_get HO_0.out z61 (ji20) p207 (by first | exact q207 | exact of_decide_eq_true (by first | (with_reducible assumption) | assumption) | (have e_ := (Kd.V_reads' HO_0.out).1; omega))
                          obtain ⟨ua207_8, uc207_8, rfl, ul207_8, ge207_8⟩ := k61_openF hMe207
                          have hv207_8 := hcc207 8 _ rfl
                          rw [add_field _ _ 8 (by omega)] at hv207_8
                          replace hv207_8 := Option.some.inj (hv207_8.symm.trans hx207_8)
                          injection hv207_8 with hva_ hvn_ hvc_
                          rw [hva_] at ge207_8
                          rw [hvc_] at ul207_8
                          have HL207_8 := Aside0.mk (show Kd.V (Kd.int .i64) 3 _ w.heap.size _ _ ((rd_T61 l0 (ji20)).f8) from Kd.V_mk ul207_8 ge207_8)
                          clear hva_ hvn_ hvc_ ge207_8 ul207_8
                          clear hcc207 hce207
                          have HR207_8 := Aside0.mk hi207_8
                          have HC207_8 := Aside0.mk hl207_8
                          clear hi207_8 hl207_8
                          replace p207 := eq_true p207
                          replace q207 := eq_true q207
                          have p208 : 0 ≤ (x10_2 : Int) := of_decide_eq_true (by first | (with_reducible assumption) | assumption)
                          have q208 : x10_2 < (l2.length : Int) := of_decide_eq_true (by first | (with_reducible assumption) | assumption)
                          obtain ⟨ad208, e208, hx208_0⟩ := Kd.at_int HR2.out x10_2 p208 q208
                          obtain rfl : ad206 = ad208 := (by injection e208)
                          replace hx208_0 := (HB.out.cell (World.block_lt_of_cell? w _ hx208_0)).trans hx208_0
                          replace p208 := eq_true p208
                          replace q208 := eq_true q208
                          have p209 : 0 ≤ ((ji20) : Int) := of_decide_eq_true (by first | (with_reducible assumption) | assumption)
                          have q209 : (ji20) < (l0.length : Int) := of_decide_eq_true (by first | (with_reducible assumption) | assumption)
                          obtain ⟨ad209, A209_8, c209_8, e209, hx209_0, hx209_1, hx209_2, hx209_3, hx209_4, hx209_5, hx209_6, hx209_7, hx209_8, hl209_8, hi209_8⟩ := at_T61 (Kd.V_reads' HO_0.out).2.2 (ji20) p209 q209
                          obtain rfl : ad207 = ad209 := (by injection e209)
                          obtain ⟨ce209, hce209, hMe209, hcc209⟩ := Kd.V_get HO_0.out z61 (ji20) p209 (by first | exact q209 | exact of_decide_eq_true (by first | (with_reducible assumption) | assumption) | (have e_ := (Kd.V_reads' HO_0.out).1; omega))
                          obtain ⟨ua209_8, uc209_8, rfl, ul209_8, ge209_8⟩ := k61_openF hMe209
                          have hv209_8 := hcc209 8 _ rfl
                          rw [add_field _ _ 8 (by omega)] at hv209_8
                          replace hv209_8 := Option.some.inj (hv209_8.symm.trans hx209_8)
                          injection hv209_8 with hva_ hvn_ hvc_
                          rw [hva_] at ge209_8
                          rw [hvc_] at ul209_8
                          have HL209_8 := Aside0.mk (show Kd.V (Kd.int .i64) 3 _ w.heap.size _ _ ((rd_T61 l0 (ji20)).f8) from Kd.V_mk ul209_8 ge209_8)
                          clear hva_ hvn_ hvc_ ge209_8 ul209_8
                          clear hcc209 hce209
                          have HR209_8 := Aside0.mk hi209_8
                          have HC209_8 := Aside0.mk hl209_8
                          clear hi209_8 hl209_8
                          replace p209 := eq_true p209
                          replace q209 := eq_true q209
                          have ea_ := Option.some.inj (hx207_8.symm.trans hx209_8)
                          injection ea_ with ea_ en_ ec_
                          subst ea_
                          subst ec_
                          clear en_
                          go_wp2
                          repeat (go_quiet (fail); try go_wp2)
                          go_ret2
                          exact ⟨_, by first | rfl | (simp [errW_none, errW_some] <;> rfl) | (simp only [← hji20]; first | rfl | (simp [errW_none, errW_some] <;> rfl)) | (simp [*, errW_none, errW_some] <;> rfl), by (with_reducible repeat (first | apply Kd.V_alloc | apply Kd.V_drewN | apply Kd.V_drew)); exact Kd.V_mono HO_0.out (fun _ hk => hk.1), by repeat (first | (with_reducible first | exact HB.out | apply below_alloc | apply pw_below_drewN | apply below_drew1) | exact HB.out)⟩
                        · rw [if_neg c24] at H
                          have c24b0 : (((rd_T61 l0 (ji20)).f0) == 3) = false := beq_eq_false_iff_ne.mpr c24
                          have c24b1 : (((rd_T61 l0 (ji20)).f0) != 3) = true := bne_iff_ne.mpr c24
                          replace H := Option.bind_eq_some_iff.mp H
                          obtain ⟨t211, A250, H⟩ := H
                          replace H : (if t211 = true then (some (l0, 3)) else (if ((rd_T61 l0 (ji20)).f1) = 0 then (towncrierref04_Put.l1 k2 l0 a1 l2 t203 (wrap64 (x10_2 + 1))) else (if ((rd_T61 l0 (ji20)).f1) = a1 then (towncrierref04_Put.l1 k2 l0 a1 l2 t203 (wrap64 (x10_2 + 1))) else (some (l0, 3))))) = some (r1, r2) := H
                          have A25 := Aside0.mk A250
                          clear A250
                          by_cases c26 : t211 = true
                          · subst c26
                            have H1 : (some (l0, 3)) = some (r1, r2) := by rw [if_pos rfl] at H; exact H
                            clear H
                            have H := H1
                            clear H1
                            simp only [Option.some.injEq, Prod.mk.injEq] at H
                            obtain ⟨rfl, rfl⟩ := H
                            have p206 : 0 ≤ (x10_2 : Int) := of_decide_eq_true (by first | (with_reducible assumption) | assumption)
                            have q206 : x10_2 < (l2.length : Int) := of_decide_eq_true (by first | (with_reducible assumption) | assumption)
                            obtain ⟨ad206, e206, hx206_0⟩ := Kd.at_int HR2.out x10_2 p206 q206
                            cases e206
                            replace hx206_0 := (HB.out.cell (World.block_lt_of_cell? w _ hx206_0)).trans hx206_0
                            replace p206 := eq_true p206
                            replace q206 := eq_true q206
                            have p207 : 0 ≤ ((ji20) : Int) := of_decide_eq_true (by first | (with_reducible assumption) | assumption)
                            have q207 : (ji20) < (l0.length : Int) := of_decide_eq_true (by first | (with_reducible assumption) | assumption)
                            obtain ⟨ad207, A207_8, c207_8, e207, hx207_0, hx207_1, hx207_2, hx207_3, hx207_4, hx207_5, hx207_6, hx207_7, hx207_8, hl207_8, hi207_8⟩ := at_T61 (Kd.V_reads' HO_0.out).2.2 (ji20) p207 q207
                            cases e207
                            obtain ⟨ce207, hce207, hMe207, hcc207⟩ := Kd.V_get HO_0.out z61 (ji20) p207 (by first | exact q207 | exact of_decide_eq_true (by first | (with_reducible assumption) | assumption) | (have e_ := (Kd.V_reads' HO_0.out).1; omega))
                            obtain ⟨ua207_8, uc207_8, rfl, ul207_8, ge207_8⟩ := k61_openF hMe207
                            have hv207_8 := hcc207 8 _ rfl
                            rw [add_field _ _ 8 (by omega)] at hv207_8
                            replace hv207_8 := Option.some.inj (hv207_8.symm.trans hx207_8)
                            injection hv207_8 with hva_ hvn_ hvc_
                            rw [hva_] at ge207_8
                            rw [hvc_] at ul207_8
                            have HL207_8 := Aside0.mk (show Kd.V (Kd.int .i64) 3 _ w.heap.size _ _ ((rd_T61 l0 (ji20)).f8) from Kd.V_mk ul207_8 ge207_8)
                            clear hva_ hvn_ hvc_ ge207_8 ul207_8
                            clear hcc207 hce207
                            have HR207_8 := Aside0.mk hi207_8
                            have HC207_8 := Aside0.mk hl207_8
                            clear hi207_8 hl207_8
                            replace p207 := eq_true p207
                            replace q207 := eq_true q207
                            have p208 : 0 ≤ (x10_2 : Int) := of_decide_eq_true (by first | (with_reducible assumption) | assumption)
                            have q208 : x10_2 < (l2.length : Int) := of_decide_eq_true (by first | (with_reducible assumption) | assumption)
                            obtain ⟨ad208, e208, hx208_0⟩ := Kd.at_int HR2.out x10_2 p208 q208
                            obtain rfl : ad206 = ad208 := (by injection e208)
                            replace hx208_0 := (HB.out.cell (World.block_lt_of_cell? w _ hx208_0)).trans hx208_0
                            replace p208 := eq_true p208
                            replace q208 := eq_true q208
                            have p209 : 0 ≤ ((ji20) : Int) := of_decide_eq_true (by first | (with_reducible assumption) | assumption)
                            have q209 : (ji20) < (l0.length : Int) := of_decide_eq_true (by first | (with_reducible assumption) | assumption)
                            obtain ⟨ad209, A209_8, c209_8, e209, hx209_0, hx209_1, hx209_2, hx209_3, hx209_4, hx209_5, hx209_6, hx209_7, hx209_8, hl209_8, hi209_8⟩ := at_T61 (Kd.V_reads' HO_0.out).2.2 (ji20) p209 q209
                            obtain rfl : ad207 = ad209 := (by injection e209)
                            obtain ⟨ce209, hce209, hMe209, hcc209⟩ := Kd.V_get HO_0.out z61 (ji20) p209 (by first | exact q209 | exact of_decide_eq_true (by first | (with_reducible assumption) | assumption) | (have e_ := (Kd.V_reads' HO_0.out).1; omega))
                            obtain ⟨ua209_8, uc209_8, rfl, ul209_8, ge209_8⟩ := k61_openF hMe209
                            have hv209_8 := hcc209 8 _ rfl
                            rw [add_field _ _ 8 (by omega)] at hv209_8
                            replace hv209_8 := Option.some.inj (hv209_8.symm.trans hx209_8)
                            injection hv209_8 with hva_ hvn_ hvc_
                            rw [hva_] at ge209_8
                            rw [hvc_] at ul209_8
                            have HL209_8 := Aside0.mk (show Kd.V (Kd.int .i64) 3 _ w.heap.size _ _ ((rd_T61 l0 (ji20)).f8) from Kd.V_mk ul209_8 ge209_8)
                            clear hva_ hvn_ hvc_ ge209_8 ul209_8
                            clear hcc209 hce209
                            have HR209_8 := Aside0.mk hi209_8
                            have HC209_8 := Aside0.mk hl209_8
                            clear hi209_8 hl209_8
                            replace p209 := eq_true p209
                            replace q209 := eq_true q209
                            have ea_ := Option.some.inj (hx207_8.symm.trans hx209_8)
                            injection ea_ with ea_ en_ ec_
                            subst ea_
                            subst ec_
                            clear en_
                            have p210 : 0 ≤ (x10_2 : Int) := of_decide_eq_true (by first | (with_reducible assumption) | assumption)
                            have q210 : x10_2 < (l2.length : Int) := of_decide_eq_true (by first | (with_reducible assumption) | assumption)
                            obtain ⟨ad210, e210, hx210_0⟩ := Kd.at_int HR2.out x10_2 p210 q210
                            obtain rfl : ad206 = ad210 := (by injection e210)
                            replace hx210_0 := (HB.out.cell (World.block_lt_of_cell? w _ hx210_0)).trans hx210_0
                            replace p210 := eq_true p210
                            replace q210 := eq_true q210
                            obtain ⟨Ao27, co27, eo27⟩ := Kd.R_slice HO_9.out
                            subst eo27
                            go_wp2_with (first | (go_at_call 34; (with_reducible refine (towncrierref01_Has.calls k2 _ _ t203 (rd l2 x10_2) true _ ?side1 ?side2 A25.out).mono ?_); (case side1 => repeat (first | exact (Kd.R_reads' HO_9.out).2.2 | (with_reducible refine Kd.C_alloc ?_ _) | (with_reducible refine Kd.C_drewN ?_ _) | (with_reducible refine Kd.C_drew ?_))); (case side2 => exact (Kd.R_reads' HO_9.out).2.1); rintro e w' ⟨rfl, ⟨nd, rfl⟩⟩; (try first | exact ⟨rfl, _, World.drewN_drewN _ _ _⟩ | exact ⟨rfl, _, Eq.trans (World.drewN_drewN _ _ _) (congrArg (World.drewN _) (Nat.add_assoc _ _ _))⟩)))
                            repeat (go_quiet (first | (go_at_call 34; (with_reducible refine (towncrierref01_Has.calls k2 _ _ t203 (rd l2 x10_2) true _ ?side1 ?side2 A25.out).mono ?_); (case side1 => repeat (first | exact (Kd.R_reads' HO_9.out).2.2 | (with_reducible refine Kd.C_alloc ?_ _) | (with_reducible refine Kd.C_drewN ?_ _) | (with_reducible refine Kd.C_drew ?_))); (case side2 => exact (Kd.R_reads' HO_9.out).2.1); rintro e w' ⟨rfl, ⟨nd, rfl⟩⟩; (try first | exact ⟨rfl, _, World.drewN_drewN _ _ _⟩ | exact ⟨rfl, _, Eq.trans (World.drewN_drewN _ _ _) (congrArg (World.drewN _) (Nat.add_assoc _ _ _))⟩))); try go_wp2_with (first | (go_at_call 34; (with_reducible refine (towncrierref01_Has.calls k2 _ _ t203 (rd l2 x10_2) true _ ?side1 ?side2 A25.out).mono ?_); (case side1 => repeat (first | exact (Kd.R_reads' HO_9.out).2.2 | (with_reducible refine Kd.C_alloc ?_ _) | (with_reducible refine Kd.C_drewN ?_ _) | (with_reducible refine Kd.C_drew ?_))); (case side2 => exact (Kd.R_reads' HO_9.out).2.1); rintro e w' ⟨rfl, ⟨nd, rfl⟩⟩; (try first | exact ⟨rfl, _, World.drewN_drewN _ _ _⟩ | exact ⟨rfl, _, Eq.trans (World.drewN_drewN _ _ _) (congrArg (World.drewN _) (Nat.add_assoc _ _ _))⟩))))
                            go_ret2
                            exact ⟨_, by first | rfl | (simp [errW_none, errW_some] <;> rfl) | (simp only [← hji20]; first | rfl | (simp [errW_none, errW_some] <;> rfl)) | (simp [*, errW_none, errW_some] <;> rfl), by (with_reducible repeat (first | apply Kd.V_alloc | apply Kd.V_drewN | apply Kd.V_drew)); exact Kd.V_mono HO_0.out (fun _ hk => hk.1), by repeat (first | (with_reducible first | exact HB.out | apply below_alloc | apply pw_below_drewN | apply below_drew1) | exact HB.out)⟩
                          · replace c26 := Bool.eq_false_iff.mpr c26
                            subst c26
                            have H1 : (if ((rd_T61 l0 (ji20)).f1) = 0 then (towncrierref04_Put.l1 k2 l0 a1 l2 t203 (wrap64 (x10_2 + 1))) else (if ((rd_T61 l0 (ji20)).f1) = a1 then (towncrierref04_Put.l1 k2 l0 a1 l2 t203 (wrap64 (x10_2 + 1))) else (some (l0, 3)))) = some (r1, r2) := by rw [if_neg (show ¬ (false = true) by decide)] at H; exact H
                            clear H
                            have H := H1
                            clear H1
                            by_cases c28 : ((rd_T61 l0 (ji20)).f1) = 0
                            · rw [if_pos c28] at H
                              have c28b0 : (((rd_T61 l0 (ji20)).f1) == 0) = true := beq_iff_eq.mpr c28
                              have c28b1 : (((rd_T61 l0 (ji20)).f1) != 0) = false := bne_eq_false_iff_eq.mpr c28
                              clear c28
                              have H' := Aside0.mk H
                              clear H
                              have p206 : 0 ≤ (x10_2 : Int) := of_decide_eq_true (by first | (with_reducible assumption) | assumption)
                              have q206 : x10_2 < (l2.length : Int) := of_decide_eq_true (by first | (with_reducible assumption) | assumption)
                              obtain ⟨ad206, e206, hx206_0⟩ := Kd.at_int HR2.out x10_2 p206 q206
                              cases e206
                              replace hx206_0 := (HB.out.cell (World.block_lt_of_cell? w _ hx206_0)).trans hx206_0
                              replace p206 := eq_true p206
                              replace q206 := eq_true q206
                              have p207 : 0 ≤ ((ji20) : Int) := of_decide_eq_true (by first | (with_reducible assumption) | assumption)
                              have q207 : (ji20) < (l0.length : Int) := of_decide_eq_true (by first | (with_reducible assumption) | assumption)
                              obtain ⟨ad207, A207_8, c207_8, e207, hx207_0, hx207_1, hx207_2, hx207_3, hx207_4, hx207_5, hx207_6, hx207_7, hx207_8, hl207_8, hi207_8⟩ := at_T61 (Kd.V_reads' HO_0.out).2.2 (ji20) p207 q207
                              cases e207
                              obtain ⟨ce207, hce207, hMe207, hcc207⟩ := Kd.V_get HO_0.out z61 (ji20) p207 (by first | exact q207 | exact of_decide_eq_true (by first | (with_reducible assumption) | assumption) | (have e_ := (Kd.V_reads' HO_0.out).1; omega))
                              obtain ⟨ua207_8, uc207_8, rfl, ul207_8, ge207_8⟩ := k61_openF hMe207
                              have hv207_8 := hcc207 8 _ rfl
                              rw [add_field _ _ 8 (by omega)] at hv207_8
                              replace hv207_8 := Option.some.inj (hv207_8.symm.trans hx207_8)
                              injection hv207_8 with hva_ hvn_ hvc_
                              rw [hva_] at ge207_8
                              rw [hvc_] at ul207_8
                              have HL207_8 := Aside0.mk (show Kd.V (Kd.int .i64) 3 _ w.heap.size _ _ ((rd_T61 l0 (ji20)).f8) from Kd.V_mk ul207_8 ge207_8)
                              clear hva_ hvn_ hvc_ ge207_8 ul207_8
                              clear hcc207 hce207
                              have HR207_8 := Aside0.mk hi207_8
                              have HC207_8 := Aside0.mk hl207_8
                              clear hi207_8 hl207_8
                              replace p207 := eq_true p207
                              replace q207 := eq_true q207
                              have p208 : 0 ≤ (x10_2 : Int) := of_decide_eq_true (by first | (with_reducible assumption) | assumption)
                              have q208 : x10_2 < (l2.length : Int) := of_decide_eq_true (by first | (with_reducible assumption) | assumption)
                              obtain ⟨ad208, e208, hx208_0⟩ := Kd.at_int HR2.out x10_2 p208 q208
                              obtain rfl : ad206 = ad208 := (by injection e208)
                              replace hx208_0 := (HB.out.cell (World.block_lt_of_cell? w _ hx208_0)).trans hx208_0
                              replace p208 := eq_true p208
                              replace q208 := eq_true q208
                              have p209 : 0 ≤ ((ji20) : Int) := of_decide_eq_true (by first | (with_reducible assumption) | assumption)
                              have q209 : (ji20) < (l0.length : Int) := of_decide_eq_true (by first | (with_reducible assumption) | assumption)
                              obtain ⟨ad209, A209_8, c209_8, e209, hx209_0, hx209_1, hx209_2, hx209_3, hx209_4, hx209_5, hx209_6, hx209_7, hx209_8, hl209_8, hi209_8⟩ := at_T61 (Kd.V_reads' HO_0.out).2.2 (ji20) p209 q209
                              obtain rfl : ad207 = ad209 := (by injection e209)
                              obtain ⟨ce209, hce209, hMe209, hcc209⟩ := Kd.V_get HO_0.out z61 (ji20) p209 (by first | exact q209 | exact of_decide_eq_true (by first | (with_reducible assumption) | assumption) | (have e_ := (Kd.V_reads' HO_0.out).1; omega))
                              obtain ⟨ua209_8, uc209_8, rfl, ul209_8, ge209_8⟩ := k61_openF hMe209
                              have hv209_8 := hcc209 8 _ rfl
                              rw [add_field _ _ 8 (by omega)] at hv209_8
                              replace hv209_8 := Option.some.inj (hv209_8.symm.trans hx209_8)
                              injection hv209_8 with hva_ hvn_ hvc_
                              rw [hva_] at ge209_8
                              rw [hvc_] at ul209_8
                              have HL209_8 := Aside0.mk (show Kd.V (Kd.int .i64) 3 _ w.heap.size _ _ ((rd_T61 l0 (ji20)).f8) from Kd.V_mk ul209_8 ge209_8)
                              clear hva_ hvn_ hvc_ ge209_8 ul209_8
                              clear hcc209 hce209
                              have HR209_8 := Aside0.mk hi209_8
                              have HC209_8 := Aside0.mk hl209_8
                              clear hi209_8 hl209_8
                              replace p209 := eq_true p209
                              replace q209 := eq_true q209
                              have ea_ := Option.some.inj (hx207_8.symm.trans hx209_8)
                              injection ea_ with ea_ en_ ec_
                              subst ea_
                              subst ec_
                              clear en_
                              have p210 : 0 ≤ (x10_2 : Int) := of_decide_eq_true (by first | (with_reducible assumption) | assumption)
                              have q210 : x10_2 < (l2.length : Int) := of_decide_eq_true (by first | (with_reducible assumption) | assumption)
                              obtain ⟨ad210, e210, hx210_0⟩ := Kd.at_int HR2.out x10_2 p210 q210
                              obtain rfl : ad206 = ad210 := (by injection e210)
                              replace hx210_0 := (HB.out.cell (World.block_lt_of_cell? w _ hx210_0)).trans hx210_0
                              replace p210 := eq_true p210
                              replace q210 := eq_true q210
                              obtain ⟨Ao29, co29, eo29⟩ := Kd.R_slice HO_9.out
                              subst eo29
                              go_wp2_with (first | (go_at_call 34; (with_reducible refine (towncrierref01_Has.calls k2 _ _ t203 (rd l2 x10_2) false _ ?side1 ?side2 A25.out).mono ?_); (case side1 => repeat (first | exact (Kd.R_reads' HO_9.out).2.2 | (with_reducible refine Kd.C_alloc ?_ _) | (with_reducible refine Kd.C_drewN ?_ _) | (with_reducible refine Kd.C_drew ?_))); (case side2 => exact (Kd.R_reads' HO_9.out).2.1); rintro e w' ⟨rfl, ⟨nd, rfl⟩⟩; (try first | exact ⟨rfl, _, World.drewN_drewN _ _ _⟩ | exact ⟨rfl, _, Eq.trans (World.drewN_drewN _ _ _) (congrArg (World.drewN _) (Nat.add_assoc _ _ _))⟩)))
                              repeat (go_quiet (first | (go_at_call 34; (with_reducible refine (towncrierref01_Has.calls k2 _ _ t203 (rd l2 x10_2) false _ ?side1 ?side2 A25.out).mono ?_); (case side1 => repeat (first | exact (Kd.R_reads' HO_9.out).2.2 | (with_reducible refine Kd.C_alloc ?_ _) | (with_reducible refine Kd.C_drewN ?_ _) | (with_reducible refine Kd.C_drew ?_))); (case side2 => exact (Kd.R_reads' HO_9.out).2.1); rintro e w' ⟨rfl, ⟨nd, rfl⟩⟩; (try first | exact ⟨rfl, _, World.drewN_drewN _ _ _⟩ | exact ⟨rfl, _, Eq.trans (World.drewN_drewN _ _ _) (congrArg (World.drewN _) (Nat.add_assoc _ _ _))⟩))); try go_wp2_with (first | (go_at_call 34; (with_reducible refine (towncrierref01_Has.calls k2 _ _ t203 (rd l2 x10_2) false _ ?side1 ?side2 A25.out).mono ?_); (case side1 => repeat (first | exact (Kd.R_reads' HO_9.out).2.2 | (with_reducible refine Kd.C_alloc ?_ _) | (with_reducible refine Kd.C_drewN ?_ _) | (with_reducible refine Kd.C_drew ?_))); (case side2 => exact (Kd.R_reads' HO_9.out).2.1); rintro e w' ⟨rfl, ⟨nd, rfl⟩⟩; (try first | exact ⟨rfl, _, World.drewN_drewN _ _ _⟩ | exact ⟨rfl, _, Eq.trans (World.drewN_drewN _ _ _) (congrArg (World.drewN _) (Nat.add_assoc _ _ _))⟩))))
                              go_roundg k2
                              case measure => have := HK1.out; have := HK2.out; omega
                              case rel => exact ⟨(wrap64 (x10_2 + 1)), (by first | rfl | (simp; done) | (simp [*]; done)), H', ⟨by have := HK1.out; have := HK2.out; omega⟩, ⟨by (with_reducible repeat (first | apply Kd.V_alloc | apply Kd.V_drewN | apply Kd.V_drew)); exact HO_0.out⟩, ⟨by (with_reducible repeat (first | apply Kd.R_alloc | apply Kd.R_drewN | apply Kd.R_drew)); exact HO_9.out⟩, ⟨by repeat (first | (with_reducible first | exact HB.out | apply below_alloc | apply pw_below_drewN | apply below_drew1) | exact HB.out)⟩⟩
                            · rw [if_neg c28] at H
                              have c28b0 : (((rd_T61 l0 (ji20)).f1) == 0) = false := beq_eq_false_iff_ne.mpr c28
                              have c28b1 : (((rd_T61 l0 (ji20)).f1) != 0) = true := bne_iff_ne.mpr c28
                              by_cases c30 : ((rd_T61 l0 (ji20)).f1) = a1
                              · rw [if_pos c30] at H
                                have c30b0 : (((rd_T61 l0 (ji20)).f1) == a1) = true := beq_iff_eq.mpr c30
                                have c30b1 : (((rd_T61 l0 (ji20)).f1) != a1) = false := bne_eq_false_iff_eq.mpr c30
                                clear c30
                                have H' := Aside0.mk H
                                clear H
                                have p206 : 0 ≤ (x10_2 : Int) := of_decide_eq_true (by first | (with_reducible assumption) | assumption)
                                have q206 : x10_2 < (l2.length : Int) := of_decide_eq_true (by first | (with_reducible assumption) | assumption)
                                obtain ⟨ad206, e206, hx206_0⟩ := Kd.at_int HR2.out x10_2 p206 q206
                                cases e206
                                replace hx206_0 := (HB.out.cell (World.block_lt_of_cell? w _ hx206_0)).trans hx206_0
                                replace p206 := eq_true p206
                                replace q206 := eq_true q206
                                have p207 : 0 ≤ ((ji20) : Int) := of_decide_eq_true (by first | (with_reducible assumption) | assumption)
                                have q207 : (ji20) < (l0.length : Int) := of_decide_eq_true (by first | (with_reducible assumption) | assumption)
                                obtain ⟨ad207, A207_8, c207_8, e207, hx207_0, hx207_1, hx207_2, hx207_3, hx207_4, hx207_5, hx207_6, hx207_7, hx207_8, hl207_8, hi207_8⟩ := at_T61 (Kd.V_reads' HO_0.out).2.2 (ji20) p207 q207
                                cases e207
                                obtain ⟨ce207, hce207, hMe207, hcc207⟩ := Kd.V_get HO_0.out z61 (ji20) p207 (by first | exact q207 | exact of_decide_eq_true (by first | (with_reducible assumption) | assumption) | (have e_ := (Kd.V_reads' HO_0.out).1; omega))
                                obtain ⟨ua207_8, uc207_8, rfl, ul207_8, ge207_8⟩ := k61_openF hMe207
                                have hv207_8 := hcc207 8 _ rfl
                                rw [add_field _ _ 8 (by omega)] at hv207_8
                                replace hv207_8 := Option.some.inj (hv207_8.symm.trans hx207_8)
                                injection hv207_8 with hva_ hvn_ hvc_
                                rw [hva_] at ge207_8
                                rw [hvc_] at ul207_8
                                have HL207_8 := Aside0.mk (show Kd.V (Kd.int .i64) 3 _ w.heap.size _ _ ((rd_T61 l0 (ji20)).f8) from Kd.V_mk ul207_8 ge207_8)
                                clear hva_ hvn_ hvc_ ge207_8 ul207_8
                                clear hcc207 hce207
                                have HR207_8 := Aside0.mk hi207_8
                                have HC207_8 := Aside0.mk hl207_8
                                clear hi207_8 hl207_8
                                replace p207 := eq_true p207
                                replace q207 := eq_true q207
                                have p208 : 0 ≤ (x10_2 : Int) := of_decide_eq_true (by first | (with_reducible assumption) | assumption)
                                have q208 : x10_2 < (l2.length : Int) := of_decide_eq_true (by first | (with_reducible assumption) | assumption)
                                obtain ⟨ad208, e208, hx208_0⟩ := Kd.at_int HR2.out x10_2 p208 q208
                                obtain rfl : ad206 = ad208 := (by injection e208)
                                replace hx208_0 := (HB.out.cell (World.block_lt_of_cell? w _ hx208_0)).trans hx208_0
                                replace p208 := eq_true p208
                                replace q208 := eq_true q208
                                have p209 : 0 ≤ ((ji20) : Int) := of_decide_eq_true (by first | (with_reducible assumption) | assumption)
                                have q209 : (ji20) < (l0.length : Int) := of_decide_eq_true (by first | (with_reducible assumption) | assumption)
                                obtain ⟨ad209, A209_8, c209_8, e209, hx209_0, hx209_1, hx209_2, hx209_3, hx209_4, hx209_5, hx209_6, hx209_7, hx209_8, hl209_8, hi209_8⟩ := at_T61 (Kd.V_reads' HO_0.out).2.2 (ji20) p209 q209
                                obtain rfl : ad207 = ad209 := (by injection e209)
                                obtain ⟨ce209, hce209, hMe209, hcc209⟩ := Kd.V_get HO_0.out z61 (ji20) p209 (by first | exact q209 | exact of_decide_eq_true (by first | (with_reducible assumption) | assumption) | (have e_ := (Kd.V_reads' HO_0.out).1; omega))
                                obtain ⟨ua209_8, uc209_8, rfl, ul209_8, ge209_8⟩ := k61_openF hMe209
                                have hv209_8 := hcc209 8 _ rfl
                                rw [add_field _ _ 8 (by omega)] at hv209_8
                                replace hv209_8 := Option.some.inj (hv209_8.symm.trans hx209_8)
                                injection hv209_8 with hva_ hvn_ hvc_
                                rw [hva_] at ge209_8
                                rw [hvc_] at ul209_8
                                have HL209_8 := Aside0.mk (show Kd.V (Kd.int .i64) 3 _ w.heap.size _ _ ((rd_T61 l0 (ji20)).f8) from Kd.V_mk ul209_8 ge209_8)
                                clear hva_ hvn_ hvc_ ge209_8 ul209_8
                                clear hcc209 hce209
                                have HR209_8 := Aside0.mk hi209_8
                                have HC209_8 := Aside0.mk hl209_8
                                clear hi209_8 hl209_8
                                replace p209 := eq_true p209
                                replace q209 := eq_true q209
                                have ea_ := Option.some.inj (hx207_8.symm.trans hx209_8)
                                injection ea_ with ea_ en_ ec_
                                subst ea_
                                subst ec_
                                clear en_
                                have p210 : 0 ≤ (x10_2 : Int) := of_decide_eq_true (by first | (with_reducible assumption) | assumption)
                                have q210 : x10_2 < (l2.length : Int) := of_decide_eq_true (by first | (with_reducible assumption) | assumption)
                                obtain ⟨ad210, e210, hx210_0⟩ := Kd.at_int HR2.out x10_2 p210 q210
                                obtain rfl : ad206 = ad210 := (by injection e210)
                                replace hx210_0 := (HB.out.cell (World.block_lt_of_cell? w _ hx210_0)).trans hx210_0
                                replace p210 := eq_true p210
                                replace q210 := eq_true q210
                                obtain ⟨Ao31, co31, eo31⟩ := Kd.R_slice HO_9.out
                                subst eo31
                                go_wp2_with (first | (go_at_call 34; (with_reducible refine (towncrierref01_Has.calls k2 _ _ t203 (rd l2 x10_2) false _ ?side1 ?side2 A25.out).mono ?_); (case side1 => repeat (first | exact (Kd.R_reads' HO_9.out).2.2 | (with_reducible refine Kd.C_alloc ?_ _) | (with_reducible refine Kd.C_drewN ?_ _) | (with_reducible refine Kd.C_drew ?_))); (case side2 => exact (Kd.R_reads' HO_9.out).2.1); rintro e w' ⟨rfl, ⟨nd, rfl⟩⟩; (try first | exact ⟨rfl, _, World.drewN_drewN _ _ _⟩ | exact ⟨rfl, _, Eq.trans (World.drewN_drewN _ _ _) (congrArg (World.drewN _) (Nat.add_assoc _ _ _))⟩)))
                                repeat (go_quiet (first | (go_at_call 34; (with_reducible refine (towncrierref01_Has.calls k2 _ _ t203 (rd l2 x10_2) false _ ?side1 ?side2 A25.out).mono ?_); (case side1 => repeat (first | exact (Kd.R_reads' HO_9.out).2.2 | (with_reducible refine Kd.C_alloc ?_ _) | (with_reducible refine Kd.C_drewN ?_ _) | (with_reducible refine Kd.C_drew ?_))); (case side2 => exact (Kd.R_reads' HO_9.out).2.1); rintro e w' ⟨rfl, ⟨nd, rfl⟩⟩; (try first | exact ⟨rfl, _, World.drewN_drewN _ _ _⟩ | exact ⟨rfl, _, Eq.trans (World.drewN_drewN _ _ _) (congrArg (World.drewN _) (Nat.add_assoc _ _ _))⟩))); try go_wp2_with (first | (go_at_call 34; (with_reducible refine (towncrierref01_Has.calls k2 _ _ t203 (rd l2 x10_2) false _ ?side1 ?side2 A25.out).mono ?_); (case side1 => repeat (first | exact (Kd.R_reads' HO_9.out).2.2 | (with_reducible refine Kd.C_alloc ?_ _) | (with_reducible refine Kd.C_drewN ?_ _) | (with_reducible refine Kd.C_drew ?_))); (case side2 => exact (Kd.R_reads' HO_9.out).2.1); rintro e w' ⟨rfl, ⟨nd, rfl⟩⟩; (try first | exact ⟨rfl, _, World.drewN_drewN _ _ _⟩ | exact ⟨rfl, _, Eq.trans (World.drewN_drewN _ _ _) (congrArg (World.drewN _) (Nat.add_assoc _ _ _))⟩))))
                                go_roundg k2
                                case measure => have := HK1.out; have := HK2.out; omega
                                case rel => exact ⟨(wrap64 (x10_2 + 1)), (by first | rfl | (simp; done) | (simp [*]; done)), H', ⟨by have := HK1.out; have := HK2.out; omega⟩, ⟨by (with_reducible repeat (first | apply Kd.V_alloc | apply Kd.V_drewN | apply Kd.V_drew)); exact HO_0.out⟩, ⟨by (with_reducible repeat (first | apply Kd.R_alloc | apply Kd.R_drewN | apply Kd.R_drew)); exact HO_9.out⟩, ⟨by repeat (first | (with_reducible first | exact HB.out | apply below_alloc | apply pw_below_drewN | apply below_drew1) | exact HB.out)⟩⟩
                              · rw [if_neg c30] at H
                                have c30b0 : (((rd_T61 l0 (ji20)).f1) == a1) = false := beq_eq_false_iff_ne.mpr c30
                                have c30b1 : (((rd_T61 l0 (ji20)).f1) != a1) = true := bne_iff_ne.mpr c30
                                simp only [Option.some.injEq, Prod.mk.injEq] at H
                                obtain ⟨rfl, rfl⟩ := H
                                have p206 : 0 ≤ (x10_2 : Int) := of_decide_eq_true (by first | (with_reducible assumption) | assumption)
                                have q206 : x10_2 < (l2.length : Int) := of_decide_eq_true (by first | (with_reducible assumption) | assumption)
                                obtain ⟨ad206, e206, hx206_0⟩ := Kd.at_int HR2.out x10_2 p206 q206
                                cases e206
                                replace hx206_0 := (HB.out.cell (World.block_lt_of_cell? w _ hx206_0)).trans hx206_0
                                replace p206 := eq_true p206
                                replace q206 := eq_true q206
                                have p207 : 0 ≤ ((ji20) : Int) := of_decide_eq_true (by first | (with_reducible assumption) | assumption)
                                have q207 : (ji20) < (l0.length : Int) := of_decide_eq_true (by first | (with_reducible assumption) | assumption)
                                obtain ⟨ad207, A207_8, c207_8, e207, hx207_0, hx207_1, hx207_2, hx207_3, hx207_4, hx207_5, hx207_6, hx207_7, hx207_8, hl207_8, hi207_8⟩ := at_T61 (Kd.V_reads' HO_0.out).2.2 (ji20) p207 q207
                                cases e207
                                obtain ⟨ce207, hce207, hMe207, hcc207⟩ := Kd.V_get HO_0.out z61 (ji20) p207 (by first | exact q207 | exact of_decide_eq_true (by first | (with_reducible assumption) | assumption) | (have e_ := (Kd.V_reads' HO_0.out).1; omega))
                                obtain ⟨ua207_8, uc207_8, rfl, ul207_8, ge207_8⟩ := k61_openF hMe207
                                have hv207_8 := hcc207 8 _ rfl
                                rw [add_field _ _ 8 (by omega)] at hv207_8
                                replace hv207_8 := Option.some.inj (hv207_8.symm.trans hx207_8)
                                injection hv207_8 with hva_ hvn_ hvc_
                                rw [hva_] at ge207_8
                                rw [hvc_] at ul207_8
                                have HL207_8 := Aside0.mk (show Kd.V (Kd.int .i64) 3 _ w.heap.size _ _ ((rd_T61 l0 (ji20)).f8) from Kd.V_mk ul207_8 ge207_8)
                                clear hva_ hvn_ hvc_ ge207_8 ul207_8
                                clear hcc207 hce207
                                have HR207_8 := Aside0.mk hi207_8
                                have HC207_8 := Aside0.mk hl207_8
                                clear hi207_8 hl207_8
                                replace p207 := eq_true p207
                                replace q207 := eq_true q207
                                have p208 : 0 ≤ (x10_2 : Int) := of_decide_eq_true (by first | (with_reducible assumption) | assumption)
                                have q208 : x10_2 < (l2.length : Int) := of_decide_eq_true (by first | (with_reducible assumption) | assumption)
                                obtain ⟨ad208, e208, hx208_0⟩ := Kd.at_int HR2.out x10_2 p208 q208
                                obtain rfl : ad206 = ad208 := (by injection e208)
                                replace hx208_0 := (HB.out.cell (World.block_lt_of_cell? w _ hx208_0)).trans hx208_0
                                replace p208 := eq_true p208
                                replace q208 := eq_true q208
                                have p209 : 0 ≤ ((ji20) : Int) := of_decide_eq_true (by first | (with_reducible assumption) | assumption)
                                have q209 : (ji20) < (l0.length : Int) := of_decide_eq_true (by first | (with_reducible assumption) | assumption)
                                obtain ⟨ad209, A209_8, c209_8, e209, hx209_0, hx209_1, hx209_2, hx209_3, hx209_4, hx209_5, hx209_6, hx209_7, hx209_8, hl209_8, hi209_8⟩ := at_T61 (Kd.V_reads' HO_0.out).2.2 (ji20) p209 q209
                                obtain rfl : ad207 = ad209 := (by injection e209)
                                obtain ⟨ce209, hce209, hMe209, hcc209⟩ := Kd.V_get HO_0.out z61 (ji20) p209 (by first | exact q209 | exact of_decide_eq_true (by first | (with_reducible assumption) | assumption) | (have e_ := (Kd.V_reads' HO_0.out).1; omega))
                                obtain ⟨ua209_8, uc209_8, rfl, ul209_8, ge209_8⟩ := k61_openF hMe209
                                have hv209_8 := hcc209 8 _ rfl
                                rw [add_field _ _ 8 (by omega)] at hv209_8
                                replace hv209_8 := Option.some.inj (hv209_8.symm.trans hx209_8)
                                injection hv209_8 with hva_ hvn_ hvc_
                                rw [hva_] at ge209_8
                                rw [hvc_] at ul209_8
                                have HL209_8 := Aside0.mk (show Kd.V (Kd.int .i64) 3 _ w.heap.size _ _ ((rd_T61 l0 (ji20)).f8) from Kd.V_mk ul209_8 ge209_8)
                                clear hva_ hvn_ hvc_ ge209_8 ul209_8
                                clear hcc209 hce209
                                have HR209_8 := Aside0.mk hi209_8
                                have HC209_8 := Aside0.mk hl209_8
                                clear hi209_8 hl209_8
                                replace p209 := eq_true p209
                                replace q209 := eq_true q209
                                have ea_ := Option.some.inj (hx207_8.symm.trans hx209_8)
                                injection ea_ with ea_ en_ ec_
                                subst ea_
                                subst ec_
                                clear en_
                                have p210 : 0 ≤ (x10_2 : Int) := of_decide_eq_true (by first | (with_reducible assumption) | assumption)
                                have q210 : x10_2 < (l2.length : Int) := of_decide_eq_true (by first | (with_reducible assumption) | assumption)
                                obtain ⟨ad210, e210, hx210_0⟩ := Kd.at_int HR2.out x10_2 p210 q210
                                obtain rfl : ad206 = ad210 := (by injection e210)
                                replace hx210_0 := (HB.out.cell (World.block_lt_of_cell? w _ hx210_0)).trans hx210_0
                                replace p210 := eq_true p210
                                replace q210 := eq_true q210
                                obtain ⟨Ao32, co32, eo32⟩ := Kd.R_slice HO_9.out
                                subst eo32
                                go_wp2_with (first | (go_at_call 34; (with_reducible refine (towncrierref01_Has.calls k2 _ _ t203 (rd l2 x10_2) false _ ?side1 ?side2 A25.out).mono ?_); (case side1 => repeat (first | exact (Kd.R_reads' HO_9.out).2.2 | (with_reducible refine Kd.C_alloc ?_ _) | (with_reducible refine Kd.C_drewN ?_ _) | (with_reducible refine Kd.C_drew ?_))); (case side2 => exact (Kd.R_reads' HO_9.out).2.1); rintro e w' ⟨rfl, ⟨nd, rfl⟩⟩; (try first | exact ⟨rfl, _, World.drewN_drewN _ _ _⟩ | exact ⟨rfl, _, Eq.trans (World.drewN_drewN _ _ _) (congrArg (World.drewN _) (Nat.add_assoc _ _ _))⟩)))
                                repeat (go_quiet (first | (go_at_call 34; (with_reducible refine (towncrierref01_Has.calls k2 _ _ t203 (rd l2 x10_2) false _ ?side1 ?side2 A25.out).mono ?_); (case side1 => repeat (first | exact (Kd.R_reads' HO_9.out).2.2 | (with_reducible refine Kd.C_alloc ?_ _) | (with_reducible refine Kd.C_drewN ?_ _) | (with_reducible refine Kd.C_drew ?_))); (case side2 => exact (Kd.R_reads' HO_9.out).2.1); rintro e w' ⟨rfl, ⟨nd, rfl⟩⟩; (try first | exact ⟨rfl, _, World.drewN_drewN _ _ _⟩ | exact ⟨rfl, _, Eq.trans (World.drewN_drewN _ _ _) (congrArg (World.drewN _) (Nat.add_assoc _ _ _))⟩))); try go_wp2_with (first | (go_at_call 34; (with_reducible refine (towncrierref01_Has.calls k2 _ _ t203 (rd l2 x10_2) false _ ?side1 ?side2 A25.out).mono ?_); (case side1 => repeat (first | exact (Kd.R_reads' HO_9.out).2.2 | (with_reducible refine Kd.C_alloc ?_ _) | (with_reducible refine Kd.C_drewN ?_ _) | (with_reducible refine Kd.C_drew ?_))); (case side2 => exact (Kd.R_reads' HO_9.out).2.1); rintro e w' ⟨rfl, ⟨nd, rfl⟩⟩; (try first | exact ⟨rfl, _, World.drewN_drewN _ _ _⟩ | exact ⟨rfl, _, Eq.trans (World.drewN_drewN _ _ _) (congrArg (World.drewN _) (Nat.add_assoc _ _ _))⟩))))
                                go_ret2
                                exact ⟨_, by first | rfl | (simp [errW_none, errW_some] <;> rfl) | (simp only [← hji20]; first | rfl | (simp [errW_none, errW_some] <;> rfl)) | (simp [*, errW_none, errW_some] <;> rfl), by (with_reducible repeat (first | apply Kd.V_alloc | apply Kd.V_drewN | apply Kd.V_drew)); exact Kd.V_mono HO_0.out (fun _ hk => hk.1), by repeat (first | (with_reducible first | exact HB.out | apply below_alloc | apply pw_below_drewN | apply below_drew1) | exact HB.out)⟩
                    · rw [if_neg c22] at H
                      exact absurd H (by simp)
                  · rw [if_neg c21] at H
                    exact absurd H (by simp)
                · rw [if_neg c19] at H
                  exact absurd H (by simp)
              · rw [if_neg c18] at H
                have c18b0 : decide (x10_2 < (l2.length : Int)) = false := decide_eq_false c18
                clear c18
                replace H := Option.bind_eq_some_iff.mp H
                obtain ⟨t212, A330, H⟩ := H
                replace H : (towncrierref04_Put.l2 k2 a1 l2 t212 0) = some (r1, r2) := H
                have A33 := Aside0.mk A330
                clear A330
                have H' := Aside0.mk H
                clear H
                go_wp2_with (first | (go_at_call 66; (with_reducible refine (towncrierref04_Copy.calls k2 (fun k_ => ((P0_ k_ ∨ w.heap.size ≤ k_) ∧ some k_ ≠ (v204 : Value).ownBlock)) _ _ l0 t212 _ ?side1 A33.out).mono ?_); (case side1 => exact HO_0.out); rintro e w34 ⟨v213, rfl, ho0, hb⟩; have n0_ := Aside0.mk (Kd.V_elder' (by (with_reducible repeat (first | apply Kd.V_alloc | apply Kd.V_drewN | apply Kd.V_drew)); exact HO_0.out) (Kd.N_base ho0) hb); have n1_ := Aside0.mk (Kd.R_below (by (with_reducible repeat (first | apply Kd.R_alloc | apply Kd.R_drewN | apply Kd.R_drew)); exact HO_9.out) hb); have n2_ := Aside0.mk (Kd.N_lower (Kd.N_mono (ok' := fun k_ => (P0_ k_ ∨ w.heap.size ≤ k_) ∧ some k_ ≠ (v204 : Value).ownBlock) ho0 (fun k_ hk_ => ⟨Or.elim hk_ (fun hs_ => hs_.1) (fun hn_ => (.inr (Nat.le_trans (below_size (by repeat (first | (with_reducible first | exact HB.out | apply below_alloc | apply pw_below_drewN | apply below_drew1) | exact HB.out))) hn_))), Or.elim hk_ (fun hs_ => hs_.2) (fun hn_ => (Kd.fresh' (Kd.R_lt (by (with_reducible repeat (first | apply Kd.R_alloc | apply Kd.R_drewN | apply Kd.R_drew)); exact HO_9.out)) k_ hn_))⟩)) (below_size (by repeat (first | (with_reducible first | exact HB.out | apply below_alloc | apply pw_below_drewN | apply below_drew1) | exact HB.out)))); have n3_ := Aside0.mk (below_step (by repeat (first | (with_reducible first | exact HB.out | apply below_alloc | apply pw_below_drewN | apply below_drew1) | exact HB.out)) hb); clear HO_0; clear HO_9; clear HB; have HO_0 := n0_; have HO_9 := n1_; have HO214 := n2_; have HB := n3_; clear n0_ n1_ n2_ n3_; (try clear hb); (try clear hb2); (try clear hk); (try clear hi); (try clear ho0)))
                repeat (go_quiet (first | (go_at_call 66; (with_reducible refine (towncrierref04_Copy.calls k2 (fun k_ => ((P0_ k_ ∨ w.heap.size ≤ k_) ∧ some k_ ≠ (v204 : Value).ownBlock)) _ _ l0 t212 _ ?side1 A33.out).mono ?_); (case side1 => exact HO_0.out); rintro e w34 ⟨v213, rfl, ho0, hb⟩; have n0_ := Aside0.mk (Kd.V_elder' (by (with_reducible repeat (first | apply Kd.V_alloc | apply Kd.V_drewN | apply Kd.V_drew)); exact HO_0.out) (Kd.N_base ho0) hb); have n1_ := Aside0.mk (Kd.R_below (by (with_reducible repeat (first | apply Kd.R_alloc | apply Kd.R_drewN | apply Kd.R_drew)); exact HO_9.out) hb); have n2_ := Aside0.mk (Kd.N_lower (Kd.N_mono (ok' := fun k_ => (P0_ k_ ∨ w.heap.size ≤ k_) ∧ some k_ ≠ (v204 : Value).ownBlock) ho0 (fun k_ hk_ => ⟨Or.elim hk_ (fun hs_ => hs_.1) (fun hn_ => (.inr (Nat.le_trans (below_size (by repeat (first | (with_reducible first | exact HB.out | apply below_alloc | apply pw_below_drewN | apply below_drew1) | exact HB.out))) hn_))), Or.elim hk_ (fun hs_ => hs_.2) (fun hn_ => (Kd.fresh' (Kd.R_lt (by (with_reducible repeat (first | apply Kd.R_alloc | apply Kd.R_drewN | apply Kd.R_drew)); exact HO_9.out)) k_ hn_))⟩)) (below_size (by repeat (first | (with_reducible first | exact HB.out | apply below_alloc | apply pw_below_drewN | apply below_drew1) | exact HB.out)))); have n3_ := Aside0.mk (below_step (by repeat (first | (with_reducible first | exact HB.out | apply below_alloc | apply pw_below_drewN | apply below_drew1) | exact HB.out)) hb); clear HO_0; clear HO_9; clear HB; have HO_0 := n0_; have HO_9 := n1_; have HO214 := n2_; have HB := n3_; clear n0_ n1_ n2_ n3_; (try clear hb); (try clear hb2); (try clear hk); (try clear hi); (try clear ho0))); try go_wp2_with (first | (go_at_call 66; (with_reducible refine (towncrierref04_Copy.calls k2 (fun k_ => ((P0_ k_ ∨ w.heap.size ≤ k_) ∧ some k_ ≠ (v204 : Value).ownBlock)) _ _ l0 t212 _ ?side1 A33.out).mono ?_); (case side1 => exact HO_0.out); rintro e w34 ⟨v213, rfl, ho0, hb⟩; have n0_ := Aside0.mk (Kd.V_elder' (by (with_reducible repeat (first | apply Kd.V_alloc | apply Kd.V_drewN | apply Kd.V_drew)); exact HO_0.out) (Kd.N_base ho0) hb); have n1_ := Aside0.mk (Kd.R_below (by (with_reducible repeat (first | apply Kd.R_alloc | apply Kd.R_drewN | apply Kd.R_drew)); exact HO_9.out) hb); have n2_ := Aside0.mk (Kd.N_lower (Kd.N_mono (ok' := fun k_ => (P0_ k_ ∨ w.heap.size ≤ k_) ∧ some k_ ≠ (v204 : Value).ownBlock) ho0 (fun k_ hk_ => ⟨Or.elim hk_ (fun hs_ => hs_.1) (fun hn_ => (.inr (Nat.le_trans (below_size (by repeat (first | (with_reducible first | exact HB.out | apply below_alloc | apply pw_below_drewN | apply below_drew1) | exact HB.out))) hn_))), Or.elim hk_ (fun hs_ => hs_.2) (fun hn_ => (Kd.fresh' (Kd.R_lt (by (with_reducible repeat (first | apply Kd.R_alloc | apply Kd.R_drewN | apply Kd.R_drew)); exact HO_9.out)) k_ hn_))⟩)) (below_size (by repeat (first | (with_reducible first | exact HB.out | apply below_alloc | apply pw_below_drewN | apply below_drew1) | exact HB.out)))); have n3_ := Aside0.mk (below_step (by repeat (first | (with_reducible first | exact HB.out | apply below_alloc | apply pw_below_drewN | apply below_drew1) | exact HB.out)) hb); clear HO_0; clear HO_9; clear HB; have HO_0 := n0_; have HO_9 := n1_; have HO214 := n2_; have HB := n3_; clear n0_ n1_ n2_ n3_; (try clear hb); (try clear hb2); (try clear hk); (try clear hi); (try clear ho0))))
                go_loopg [14] k2 (fun kq v14 w' => ∃ (x13_3 : List (S61)) (x14_3 : Int), v14 = .int .i64 x14_3 ∧ Aside0 (towncrierref04_Put.l2 kq a1 l2 x13_3 x14_3 = some (r1, r2)) ∧ Aside0 (kq ≤ k2) ∧ Aside0 (Kd.N k61 61 w' w.heap.size (fun k_ => (P0_ k_ ∨ w.heap.size ≤ k_)) v213 x13_3) ∧ Aside0 (Below w.heap.size w w'))
                case atStart => exact ⟨(t212), (0), (by first | rfl | (simp; done) | (simp [*]; done)), H', ⟨Nat.le_refl _⟩, ⟨by (with_reducible repeat (first | apply Kd.N_alloc | apply Kd.N_drewN | apply Kd.N_drew)); exact Kd.N_mono HO214.out (fun _ hk => hk.1)⟩, ⟨by repeat (first | (with_reducible first | exact HB.out | apply below_alloc | apply pw_below_drewN | apply below_drew1) | exact HB.out)⟩⟩
                case round =>
                  clear H'
                  try clear c1
                  try clear p1
                  try clear q1
                  try clear hx1
                  try clear c2
                  try clear p2
                  try clear q2
                  try clear hx2
                  try clear c3
                  try clear c5
                  try clear c6
                  try clear c6b0
                  try clear p6
                  try clear c7
                  try clear c7b0
                  try clear c9
                  try clear c10
                  try clear c10b0
                  try clear c11
                  try clear c11b0
                  try clear c11b1
                  try clear c13
                  try clear c18
                  try clear c18b0
                  try clear c19
                  try clear c19b0
                  try clear p19
                  try clear q19
                  try clear hx19
                  try clear c20
                  try clear p20
                  try clear q20
                  try clear hx20
                  try clear c21
                  try clear c21b0
                  try clear p21
                  try clear q21
                  try clear hx21
                  try clear c22
                  try clear c22b0
                  try clear c23
                  try clear c23b0
                  try clear c23b1
                  try clear c24
                  try clear c24b0
                  try clear c24b1
                  try clear c26
                  try clear c28
                  try clear c28b0
                  try clear c28b1
                  try clear c30
                  try clear c30b0
                  try clear c30b1
                  try clear hx198_0
                  try clear hx201_0
                  try clear hx206_0
                  try clear hx207_0
                  try clear hx207_1
                  try clear hx207_2
                  try clear hx207_3
                  try clear hx207_4
                  try clear hx207_5
                  try clear hx207_6
                  try clear hx207_7
                  try clear hx207_8
                  try clear hx208_0
                  try clear hx209_0
                  try clear hx209_1
                  try clear hx209_2
                  try clear hx209_3
                  try clear hx209_4
                  try clear hx209_5
                  try clear hx209_6
                  try clear hx209_7
                  try clear hx209_8
                  try clear hx210_0
                  try clear p1
                  try clear p198
                  try clear p2
                  try clear p201
                  try clear p206
                  try clear p207
                  try clear p208
                  try clear p209
                  try clear p210
                  try clear p6
                  try clear q1
                  try clear q198
                  try clear q2
                  try clear q201
                  try clear q206
                  try clear q207
                  try clear q208
                  try clear q209
                  try clear q210
                  obtain ⟨x13_3, x14_3, rfl, HA, HK3, HO_13, HB⟩ := hrel
                  cases gk with
                  | zero => exact absurd HA.out (by simp [towncrierref04_Put.l2])
                  | succ k3 =>
                    have H := HA.out
                    clear HA
                    simp only [towncrierref04_Put.l2] at H
                    by_cases c35 : x14_3 < (x13_3.length : Int)
                    · rw [if_pos c35] at H
                      have c35b0 : decide (x14_3 < (x13_3.length : Int)) = true := decide_eq_true c35
                      clear c35
                      by_cases c36 : 0 ≤ x14_3
                      · rw [if_pos c36] at H
                        have c36b0 : decide (0 ≤ x14_3) = true := decide_eq_true c36
                        clear c36
                        by_cases c37 : ((rd_T61 x13_3 x14_3).f1) = a1
                        · rw [if_pos c37] at H
                          have c37b0 : (((rd_T61 x13_3 x14_3).f1) == a1) = true := beq_iff_eq.mpr c37
                          have c37b1 : (((rd_T61 x13_3 x14_3).f1) != a1) = false := bne_eq_false_iff_eq.mpr c37
                          clear c37
                          obtain ⟨y216, hy216⟩ : ∃ y_ : List (S61), y_ = (x13_3.set (x14_3 : Int).toNat (⟨(rd_T61 x13_3 x14_3).f0, 0, (rd_T61 x13_3 x14_3).f2, (rd_T61 x13_3 x14_3).f3, (rd_T61 x13_3 x14_3).f4, (rd_T61 x13_3 x14_3).f5, (rd_T61 x13_3 x14_3).f6, (rd_T61 x13_3 x14_3).f7, (rd_T61 x13_3 x14_3).f8⟩ : S61)) := ⟨_, rfl⟩
                          replace H : (towncrierref04_Put.l2 k3 a1 l2 y216 (wrap64 (x14_3 + 1))) = some (r1, r2) := by first | (rw [hy216]; with_reducible exact H) | (have H2_ := (Option.bind_some _ _).symm.trans H; rw [hy216]; with_reducible exact H2_) | (have H2_ := (Option.bind_some _ _).symm.trans H; with_reducible exact H2_) | with_reducible exact H | (rw [hy216]; exact H) | exact H
                          have Ny216 := Aside0.mk hy216
                          clear hy216
                          have H' := Aside0.mk H
                          clear H
                          obtain ⟨Ao39, co39, eo39⟩ := Kd.N_slice HO_13.out
                          subst eo39
                          have p215 : 0 ≤ (x14_3 : Int) := of_decide_eq_true (by first | (with_reducible assumption) | assumption)
                          have q215 : x14_3 < (x13_3.length : Int) := of_decide_eq_true (by first | (with_reducible assumption) | assumption)
                          obtain ⟨ad215, A215_8, c215_8, e215, hx215_0, hx215_1, hx215_2, hx215_3, hx215_4, hx215_5, hx215_6, hx215_7, hx215_8, hl215_8, hi215_8⟩ := at_T61 (Kd.N_reads' HO_13.out).2.2 x14_3 p215 q215
                          cases e215
                          obtain ⟨ce215, hce215, hMe215, hcc215⟩ := Kd.N_get HO_13.out z61 x14_3 p215 (by first | exact q215 | exact of_decide_eq_true (by first | (with_reducible assumption) | assumption) | (have e_ := (Kd.N_reads' HO_13.out).1; omega))
                          obtain ⟨ua215_8, uc215_8, rfl, ul215_8, ge215_8⟩ := k61_openF hMe215
                          have hv215_8 := hcc215 8 _ rfl
                          rw [add_field _ _ 8 (by omega)] at hv215_8
                          replace hv215_8 := Option.some.inj (hv215_8.symm.trans hx215_8)
                          injection hv215_8 with hva_ hvn_ hvc_
                          rw [hva_] at ge215_8
                          rw [hvc_] at ul215_8
                          have HL215_8 := Aside0.mk (show Kd.V (Kd.int .i64) 3 _ w.heap.size _ _ ((rd_T61 x13_3 x14_3).f8) from Kd.V_mk ul215_8 ge215_8)
                          clear hva_ hvn_ hvc_ ge215_8 ul215_8
                          clear hcc215 hce215
                          have HR215_8 := Aside0.mk hi215_8
                          have HC215_8 := Aside0.mk hl215_8
                          clear hi215_8 hl215_8
                          replace p215 := eq_true p215
                          replace q215 := eq_true q215
                          have p38 : 0 ≤ (x14_3 : Int) := of_decide_eq_true (by first | (with_reducible assumption) | assumption)
                          have q38 : (x14_3 : Int) < ((x13_3.length : Int) : Int) := of_decide_eq_true (by first | (with_reducible assumption) | assumption)
                          obtain ⟨go38, co38, eo38, gb38, gl38, cl38, HG38⟩ := Kd.N_form HO_13.out (by omega)
                          (first | cases eo38 | (injection eo38 with ea_ en_ ec_; (first | subst ea_ | (injection ea_ with ea_; subst ea_)); subst ec_; clear en_))
                          have GB38 := Aside0.mk gb38
                          have GG38 := Aside0.mk HG38
                          clear gb38 gl38 HG38
                          (first | simp only [add_plain] at hx215_0 | skip)
                          (first | simp only [add_plain] at hx215_1 | skip)
                          (first | simp only [add_plain] at hx215_2 | skip)
                          (first | simp only [add_plain] at hx215_3 | skip)
                          (first | simp only [add_plain] at hx215_4 | skip)
                          (first | simp only [add_plain] at hx215_5 | skip)
                          (first | simp only [add_plain] at hx215_6 | skip)
                          (first | simp only [add_plain] at hx215_7 | skip)
                          (first | simp only [add_plain] at hx215_8 | skip)
                          obtain ⟨ce38, hcl38, hM38, hcc38, hfr38⟩ := Kd.N_elem HO_13.out z61 (x14_3 : Int) p38 q38
                          obtain ⟨ua38_8, uc38_8, rfl, ul38_8, ge38_8⟩ := k61_openF hM38
                          have hx38_0 : wr.cell? ⟨go38, (x14_3 : Int).toNat * 9, none⟩ = some (.int .i64 ((rd_T61 x13_3 x14_3).f0)) := hcc38 0 _ rfl
                          have hx38_1 : wr.cell? ⟨go38, (x14_3 : Int).toNat * 9 + 1, none⟩ = some (.int .i64 ((rd_T61 x13_3 x14_3).f1)) := hcc38 1 _ rfl
                          have hx38_2 : wr.cell? ⟨go38, (x14_3 : Int).toNat * 9 + 2, none⟩ = some (.int .i64 ((rd_T61 x13_3 x14_3).f2)) := hcc38 2 _ rfl
                          have hx38_3 : wr.cell? ⟨go38, (x14_3 : Int).toNat * 9 + 3, none⟩ = some (.int .i64 ((rd_T61 x13_3 x14_3).f3)) := hcc38 3 _ rfl
                          have hx38_4 : wr.cell? ⟨go38, (x14_3 : Int).toNat * 9 + 4, none⟩ = some (.int .i64 ((rd_T61 x13_3 x14_3).f4)) := hcc38 4 _ rfl
                          have hx38_5 : wr.cell? ⟨go38, (x14_3 : Int).toNat * 9 + 5, none⟩ = some (.bool ((rd_T61 x13_3 x14_3).f5)) := hcc38 5 _ rfl
                          have hx38_6 : wr.cell? ⟨go38, (x14_3 : Int).toNat * 9 + 6, none⟩ = some (.string ((rd_T61 x13_3 x14_3).f6)) := hcc38 6 _ rfl
                          have hx38_7 : wr.cell? ⟨go38, (x14_3 : Int).toNat * 9 + 7, none⟩ = some (.string ((rd_T61 x13_3 x14_3).f7)) := hcc38 7 _ rfl
                          have hx38_8 : wr.cell? ⟨go38, (x14_3 : Int).toNat * 9 + 8, none⟩ = some (.slice ua38_8 ((rd_T61 x13_3 x14_3).f8).length uc38_8) := hcc38 8 _ rfl
                          have hf38_0 : wr.frozen? ⟨go38, (x14_3 : Int).toNat * 9, none⟩ = false := hfr38 0
                          have hf38_1 : wr.frozen? ⟨go38, (x14_3 : Int).toNat * 9 + 1, none⟩ = false := hfr38 1
                          have hf38_2 : wr.frozen? ⟨go38, (x14_3 : Int).toNat * 9 + 2, none⟩ = false := hfr38 2
                          have hf38_3 : wr.frozen? ⟨go38, (x14_3 : Int).toNat * 9 + 3, none⟩ = false := hfr38 3
                          have hf38_4 : wr.frozen? ⟨go38, (x14_3 : Int).toNat * 9 + 4, none⟩ = false := hfr38 4
                          have hf38_5 : wr.frozen? ⟨go38, (x14_3 : Int).toNat * 9 + 5, none⟩ = false := hfr38 5
                          have hf38_6 : wr.frozen? ⟨go38, (x14_3 : Int).toNat * 9 + 6, none⟩ = false := hfr38 6
                          have hf38_7 : wr.frozen? ⟨go38, (x14_3 : Int).toNat * 9 + 7, none⟩ = false := hfr38 7
                          have hf38_8 : wr.frozen? ⟨go38, (x14_3 : Int).toNat * 9 + 8, none⟩ = false := hfr38 8
                          clear hcl38 hcc38 hfr38 hM38
                          replace p38 := eq_true p38
                          replace q38 := eq_true q38
                          have HX40 := Aside0.mk (show Kd.N k61 61 wr w.heap.size (fun k_ => (P0_ k_ ∨ w.heap.size ≤ k_)) (.slice (some ⟨go38, 0, none⟩) x13_3.length co39) x13_3 from (by (with_reducible repeat (first | apply Kd.N_alloc | apply Kd.N_drewN | apply Kd.N_drew)); exact HO_13.out))
                          obtain ⟨ce40, hcl40, hM40, hcc40, hfr40⟩ := Kd.N_elem HX40.out z61 (x14_3 : Int) (of_decide_eq_true (by first | (with_reducible assumption) | assumption)) (by have h_ : (x14_3 : Int) < ((x13_3.length : Int) : Int) := of_decide_eq_true (by first | (with_reducible assumption) | assumption); first | exact h_ | (have e_ := (Kd.N_reads' HO_13.out).1; omega) | simpa using h_)
                          obtain ⟨ua40_8, uc40_8, rfl, ul40_8, ge40_8⟩ := k61_openF hM40
                          have HP40 := Kd.N_seg HX40.out (x14_3 : Int) (of_decide_eq_true (by first | (with_reducible assumption) | assumption)) (by have h_ : (x14_3 : Int) < ((x13_3.length : Int) : Int) := of_decide_eq_true (by first | (with_reducible assumption) | assumption); first | exact h_ | (have e_ := (Kd.N_reads' HO_13.out).1; omega) | simpa using h_) (seg := [.int .i64 0]) (j := 1) hcl40 hcc40 (show 2 ≤ 9 from by decide) (x' := (⟨(rd_T61 x13_3 x14_3).f0, 0, (rd_T61 x13_3 x14_3).f2, (rd_T61 x13_3 x14_3).f3, (rd_T61 x13_3 x14_3).f4, (rd_T61 x13_3 x14_3).f5, (rd_T61 x13_3 x14_3).f6, (rd_T61 x13_3 x14_3).f7, (rd_T61 x13_3 x14_3).f8⟩ : S61)) (k61_mkF _ _ (⟨(rd_T61 x13_3 x14_3).f0, 0, (rd_T61 x13_3 x14_3).f2, (rd_T61 x13_3 x14_3).f3, (rd_T61 x13_3 x14_3).f4, (rd_T61 x13_3 x14_3).f5, (rd_T61 x13_3 x14_3).f6, (rd_T61 x13_3 x14_3).f7, (rd_T61 x13_3 x14_3).f8⟩ : S61) ul40_8 ge40_8) (fun _ hk => hk)
                          have hx40_1 := hcc40 1 _ rfl
                          (try simp only [show (k61).sz = 9 from rfl, Nat.mul_one, Nat.add_zero] at hx40_1)
                          have hf40_1 := hfr40 1
                          (try simp only [show (k61).sz = 9 from rfl, Nat.mul_one, Nat.add_zero] at hf40_1)
                          clear hcl40 hcc40 hfr40 hM40
                          go_wp2_with (first | ((with_reducible refine gate_store (t := 3) (p := 114) rfl ?_); (try (rw [drewN_self wr]; generalize hq_ : World.drewN wr _ = wr; have n0_ := Aside0.mk (Kd.N_at hq_ HO_13.out); have n1_ := Aside0.mk (Kd.V_at hq_ HL215_8.out); have n2_ := Aside0.mk (below_at hq_ HB.out); clear hq_ HO_13 HL215_8 HB; have HO_13 := n0_; have HL215_8 := n1_; have HB := n2_; clear n0_ n1_ n2_; (try (have HX40 := Aside0.mk (show Kd.N k61 61 wr w.heap.size (fun k_ => (P0_ k_ ∨ w.heap.size ≤ k_)) (.slice (some ⟨go38, 0, none⟩) x13_3.length co39) x13_3 from (by (with_reducible repeat (first | apply Kd.N_alloc | apply Kd.N_drewN | apply Kd.N_drew)); exact HO_13.out)))); (try (obtain ⟨ce40, hcl40, hM40, hcc40, hfr40⟩ := Kd.N_elem HX40.out z61 (x14_3 : Int) (of_decide_eq_true (by first | (with_reducible assumption) | assumption)) (by have h_ : (x14_3 : Int) < ((x13_3.length : Int) : Int) := of_decide_eq_true (by first | (with_reducible assumption) | assumption); first | exact h_ | (have e_ := (Kd.N_reads' HO_13.out).1; omega) | simpa using h_))); (try (obtain ⟨ua40_8, uc40_8, rfl, ul40_8, ge40_8⟩ := k61_openF hM40)); (try (have HP40 := Kd.N_seg HX40.out (x14_3 : Int) (of_decide_eq_true (by first | (with_reducible assumption) | assumption)) (by have h_ : (x14_3 : Int) < ((x13_3.length : Int) : Int) := of_decide_eq_true (by first | (with_reducible assumption) | assumption); first | exact h_ | (have e_ := (Kd.N_reads' HO_13.out).1; omega) | simpa using h_) (seg := [.int .i64 0]) (j := 1) hcl40 hcc40 (show 2 ≤ 9 from by decide) (x' := (⟨(rd_T61 x13_3 x14_3).f0, 0, (rd_T61 x13_3 x14_3).f2, (rd_T61 x13_3 x14_3).f3, (rd_T61 x13_3 x14_3).f4, (rd_T61 x13_3 x14_3).f5, (rd_T61 x13_3 x14_3).f6, (rd_T61 x13_3 x14_3).f7, (rd_T61 x13_3 x14_3).f8⟩ : S61)) (k61_mkF _ _ (⟨(rd_T61 x13_3 x14_3).f0, 0, (rd_T61 x13_3 x14_3).f2, (rd_T61 x13_3 x14_3).f3, (rd_T61 x13_3 x14_3).f4, (rd_T61 x13_3 x14_3).f5, (rd_T61 x13_3 x14_3).f6, (rd_T61 x13_3 x14_3).f7, (rd_T61 x13_3 x14_3).f8⟩ : S61) ul40_8 ge40_8) (fun _ hk => hk))); (try (have hx40_1 := hcc40 1 _ rfl)); (try (try simp only [show (k61).sz = 9 from rfl, Nat.mul_one, Nat.add_zero] at hx40_1)); (try (have hf40_1 := hfr40 1)); (try (try simp only [show (k61).sz = 9 from rfl, Nat.mul_one, Nat.add_zero] at hf40_1)); (try (clear hcl40 hcc40 hfr40 hM40)))); refine store_event (t := 3) (p := 114) (v := ?vo_w41) (w1 := (wr.setCell ⟨go38, (x14_3 : Int).toNat * 9 + 1, none⟩ (.int .i64 0))) ?hg ?ho ?hn ?hr ?_; (case ho => rfl); (case hg => rfl); (case hn => rfl); (case hr => first | (go_simp; done) | (go_simp; rfl)); intro w41 hw; have hg : wr.grownBy w41 (some go38) := (by rw [hw]; exact HP40.2); have hp_ : Kd.N k61 61 w41 w.heap.size (fun k_ => (P0_ k_ ∨ w.heap.size ≤ k_)) (.slice (some ⟨go38, 0, none⟩) x13_3.length co39) y216 := (by rw [hw, Ny216.out]; exact HP40.1); clear HP40; have n0_ := Aside0.mk (hp_); have n1_ := Aside0.mk (Kd.V_afterv (v := (.slice (some ⟨go38, 0, none⟩) x13_3.length co39)) (v1 := (.slice (some ⟨go38, 0, none⟩) x13_3.length co39)) (ok := (fun k_ => (P0_ k_ ∨ w.heap.size ≤ k_))) (by (with_reducible repeat (first | apply Kd.V_alloc | apply Kd.V_drewN | apply Kd.V_drew)); exact HL215_8.out) hg (.inl rfl)); have n2_ := Aside0.mk ((by rw [hw]; exact below_set (HB.out) GB38.out : Below w.heap.size w w41)); clear HO_13; clear HL215_8; clear HB; have HO_13 := n0_; have HL215_8 := n1_; have HB := n2_; clear n0_ n1_ n2_; clear hg hw hp_))
                          repeat (go_quiet (first | ((with_reducible refine gate_store (t := 3) (p := 114) rfl ?_); (try (rw [drewN_self wr]; generalize hq_ : World.drewN wr _ = wr; have n0_ := Aside0.mk (Kd.N_at hq_ HO_13.out); have n1_ := Aside0.mk (Kd.V_at hq_ HL215_8.out); have n2_ := Aside0.mk (below_at hq_ HB.out); clear hq_ HO_13 HL215_8 HB; have HO_13 := n0_; have HL215_8 := n1_; have HB := n2_; clear n0_ n1_ n2_; (try (have HX40 := Aside0.mk (show Kd.N k61 61 wr w.heap.size (fun k_ => (P0_ k_ ∨ w.heap.size ≤ k_)) (.slice (some ⟨go38, 0, none⟩) x13_3.length co39) x13_3 from (by (with_reducible repeat (first | apply Kd.N_alloc | apply Kd.N_drewN | apply Kd.N_drew)); exact HO_13.out)))); (try (obtain ⟨ce40, hcl40, hM40, hcc40, hfr40⟩ := Kd.N_elem HX40.out z61 (x14_3 : Int) (of_decide_eq_true (by first | (with_reducible assumption) | assumption)) (by have h_ : (x14_3 : Int) < ((x13_3.length : Int) : Int) := of_decide_eq_true (by first | (with_reducible assumption) | assumption); first | exact h_ | (have e_ := (Kd.N_reads' HO_13.out).1; omega) | simpa using h_))); (try (obtain ⟨ua40_8, uc40_8, rfl, ul40_8, ge40_8⟩ := k61_openF hM40)); (try (have HP40 := Kd.N_seg HX40.out (x14_3 : Int) (of_decide_eq_true (by first | (with_reducible assumption) | assumption)) (by have h_ : (x14_3 : Int) < ((x13_3.length : Int) : Int) := of_decide_eq_true (by first | (with_reducible assumption) | assumption); first | exact h_ | (have e_ := (Kd.N_reads' HO_13.out).1; omega) | simpa using h_) (seg := [.int .i64 0]) (j := 1) hcl40 hcc40 (show 2 ≤ 9 from by decide) (x' := (⟨(rd_T61 x13_3 x14_3).f0, 0, (rd_T61 x13_3 x14_3).f2, (rd_T61 x13_3 x14_3).f3, (rd_T61 x13_3 x14_3).f4, (rd_T61 x13_3 x14_3).f5, (rd_T61 x13_3 x14_3).f6, (rd_T61 x13_3 x14_3).f7, (rd_T61 x13_3 x14_3).f8⟩ : S61)) (k61_mkF _ _ (⟨(rd_T61 x13_3 x14_3).f0, 0, (rd_T61 x13_3 x14_3).f2, (rd_T61 x13_3 x14_3).f3, (rd_T61 x13_3 x14_3).f4, (rd_T61 x13_3 x14_3).f5, (rd_T61 x13_3 x14_3).f6, (rd_T61 x13_3 x14_3).f7, (rd_T61 x13_3 x14_3).f8⟩ : S61) ul40_8 ge40_8) (fun _ hk => hk))); (try (have hx40_1 := hcc40 1 _ rfl)); (try (try simp only [show (k61).sz = 9 from rfl, Nat.mul_one, Nat.add_zero] at hx40_1)); (try (have hf40_1 := hfr40 1)); (try (try simp only [show (k61).sz = 9 from rfl, Nat.mul_one, Nat.add_zero] at hf40_1)); (try (clear hcl40 hcc40 hfr40 hM40)))); refine store_event (t := 3) (p := 114) (v := ?vo_w41) (w1 := (wr.setCell ⟨go38, (x14_3 : Int).toNat * 9 + 1, none⟩ (.int .i64 0))) ?hg ?ho ?hn ?hr ?_; (case ho => rfl); (case hg => rfl); (case hn => rfl); (case hr => first | (go_simp; done) | (go_simp; rfl)); intro w41 hw; have hg : wr.grownBy w41 (some go38) := (by rw [hw]; exact HP40.2); have hp_ : Kd.N k61 61 w41 w.heap.size (fun k_ => (P0_ k_ ∨ w.heap.size ≤ k_)) (.slice (some ⟨go38, 0, none⟩) x13_3.length co39) y216 := (by rw [hw, Ny216.out]; exact HP40.1); clear HP40; have n0_ := Aside0.mk (hp_); have n1_ := Aside0.mk (Kd.V_afterv (v := (.slice (some ⟨go38, 0, none⟩) x13_3.length co39)) (v1 := (.slice (some ⟨go38, 0, none⟩) x13_3.length co39)) (ok := (fun k_ => (P0_ k_ ∨ w.heap.size ≤ k_))) (by (with_reducible repeat (first | apply Kd.V_alloc | apply Kd.V_drewN | apply Kd.V_drew)); exact HL215_8.out) hg (.inl rfl)); have n2_ := Aside0.mk ((by rw [hw]; exact below_set (HB.out) GB38.out : Below w.heap.size w w41)); clear HO_13; clear HL215_8; clear HB; have HO_13 := n0_; have HL215_8 := n1_; have HB := n2_; clear n0_ n1_ n2_; clear hg hw hp_)); try go_wp2_with (first | ((with_reducible refine gate_store (t := 3) (p := 114) rfl ?_); (try (rw [drewN_self wr]; generalize hq_ : World.drewN wr _ = wr; have n0_ := Aside0.mk (Kd.N_at hq_ HO_13.out); have n1_ := Aside0.mk (Kd.V_at hq_ HL215_8.out); have n2_ := Aside0.mk (below_at hq_ HB.out); clear hq_ HO_13 HL215_8 HB; have HO_13 := n0_; have HL215_8 := n1_; have HB := n2_; clear n0_ n1_ n2_; (try (have HX40 := Aside0.mk (show Kd.N k61 61 wr w.heap.size (fun k_ => (P0_ k_ ∨ w.heap.size ≤ k_)) (.slice (some ⟨go38, 0, none⟩) x13_3.length co39) x13_3 from (by (with_reducible repeat (first | apply Kd.N_alloc | apply Kd.N_drewN | apply Kd.N_drew)); exact HO_13.out)))); (try (obtain ⟨ce40, hcl40, hM40, hcc40, hfr40⟩ := Kd.N_elem HX40.out z61 (x14_3 : Int) (of_decide_eq_true (by first | (with_reducible assumption) | assumption)) (by have h_ : (x14_3 : Int) < ((x13_3.length : Int) : Int) := of_decide_eq_true (by first | (with_reducible assumption) | assumption); first | exact h_ | (have e_ := (Kd.N_reads' HO_13.out).1; omega) | simpa using h_))); (try (obtain ⟨ua40_8, uc40_8, rfl, ul40_8, ge40_8⟩ := k61_openF hM40)); (try (have HP40 := Kd.N_seg HX40.out (x14_3 : Int) (of_decide_eq_true (by first | (with_reducible assumption) | assumption)) (by have h_ : (x14_3 : Int) < ((x13_3.length : Int) : Int) := of_decide_eq_true (by first | (with_reducible assumption) | assumption); first | exact h_ | (have e_ := (Kd.N_reads' HO_13.out).1; omega) | simpa using h_) (seg := [.int .i64 0]) (j := 1) hcl40 hcc40 (show 2 ≤ 9 from by decide) (x' := (⟨(rd_T61 x13_3 x14_3).f0, 0, (rd_T61 x13_3 x14_3).f2, (rd_T61 x13_3 x14_3).f3, (rd_T61 x13_3 x14_3).f4, (rd_T61 x13_3 x14_3).f5, (rd_T61 x13_3 x14_3).f6, (rd_T61 x13_3 x14_3).f7, (rd_T61 x13_3 x14_3).f8⟩ : S61)) (k61_mkF _ _ (⟨(rd_T61 x13_3 x14_3).f0, 0, (rd_T61 x13_3 x14_3).f2, (rd_T61 x13_3 x14_3).f3, (rd_T61 x13_3 x14_3).f4, (rd_T61 x13_3 x14_3).f5, (rd_T61 x13_3 x14_3).f6, (rd_T61 x13_3 x14_3).f7, (rd_T61 x13_3 x14_3).f8⟩ : S61) ul40_8 ge40_8) (fun _ hk => hk))); (try (have hx40_1 := hcc40 1 _ rfl)); (try (try simp only [show (k61).sz = 9 from rfl, Nat.mul_one, Nat.add_zero] at hx40_1)); (try (have hf40_1 := hfr40 1)); (try (try simp only [show (k61).sz = 9 from rfl, Nat.mul_one, Nat.add_zero] at hf40_1)); (try (clear hcl40 hcc40 hfr40 hM40)))); refine store_event (t := 3) (p := 114) (v := ?vo_w41) (w1 := (wr.setCell ⟨go38, (x14_3 : Int).toNat * 9 + 1, none⟩ (.int .i64 0))) ?hg ?ho ?hn ?hr ?_; (case ho => rfl); (case hg => rfl); (case hn => rfl); (case hr => first | (go_simp; done) | (go_simp; rfl)); intro w41 hw; have hg : wr.grownBy w41 (some go38) := (by rw [hw]; exact HP40.2); have hp_ : Kd.N k61 61 w41 w.heap.size (fun k_ => (P0_ k_ ∨ w.heap.size ≤ k_)) (.slice (some ⟨go38, 0, none⟩) x13_3.length co39) y216 := (by rw [hw, Ny216.out]; exact HP40.1); clear HP40; have n0_ := Aside0.mk (hp_); have n1_ := Aside0.mk (Kd.V_afterv (v := (.slice (some ⟨go38, 0, none⟩) x13_3.length co39)) (v1 := (.slice (some ⟨go38, 0, none⟩) x13_3.length co39)) (ok := (fun k_ => (P0_ k_ ∨ w.heap.size ≤ k_))) (by (with_reducible repeat (first | apply Kd.V_alloc | apply Kd.V_drewN | apply Kd.V_drew)); exact HL215_8.out) hg (.inl rfl)); have n2_ := Aside0.mk ((by rw [hw]; exact below_set (HB.out) GB38.out : Below w.heap.size w w41)); clear HO_13; clear HL215_8; clear HB; have HO_13 := n0_; have HL215_8 := n1_; have HB := n2_; clear n0_ n1_ n2_; clear hg hw hp_)))
                          go_roundg k3
                          case measure => have := HK1.out; have := HK2.out; have := HK3.out; omega
                          case rel => exact ⟨(y216), (wrap64 (x14_3 + 1)), (by first | rfl | (simp; done) | (simp [*]; done)), H', ⟨by have := HK1.out; have := HK2.out; have := HK3.out; omega⟩, ⟨by (with_reducible repeat (first | apply Kd.N_alloc | apply Kd.N_drewN | apply Kd.N_drew)); exact HO_13.out⟩, ⟨by repeat (first | (with_reducible first | exact HB.out | apply below_alloc | apply pw_below_drewN | apply below_drew1) | exact HB.out)⟩⟩
                        · rw [if_neg c37] at H
                          have c37b0 : (((rd_T61 x13_3 x14_3).f1) == a1) = false := beq_eq_false_iff_ne.mpr c37
                          have c37b1 : (((rd_T61 x13_3 x14_3).f1) != a1) = true := bne_iff_ne.mpr c37
                          have H' := Aside0.mk H
                          clear H
                          obtain ⟨Ao42, co42, eo42⟩ := Kd.N_slice HO_13.out
                          subst eo42
                          have p215 : 0 ≤ (x14_3 : Int) := of_decide_eq_true (by first | (with_reducible assumption) | assumption)
                          have q215 : x14_3 < (x13_3.length : Int) := of_decide_eq_true (by first | (with_reducible assumption) | assumption)
                          obtain ⟨ad215, A215_8, c215_8, e215, hx215_0, hx215_1, hx215_2, hx215_3, hx215_4, hx215_5, hx215_6, hx215_7, hx215_8, hl215_8, hi215_8⟩ := at_T61 (Kd.N_reads' HO_13.out).2.2 x14_3 p215 q215
                          cases e215
                          obtain ⟨ce215, hce215, hMe215, hcc215⟩ := Kd.N_get HO_13.out z61 x14_3 p215 (by first | exact q215 | exact of_decide_eq_true (by first | (with_reducible assumption) | assumption) | (have e_ := (Kd.N_reads' HO_13.out).1; omega))
                          obtain ⟨ua215_8, uc215_8, rfl, ul215_8, ge215_8⟩ := k61_openF hMe215
                          have hv215_8 := hcc215 8 _ rfl
                          rw [add_field _ _ 8 (by omega)] at hv215_8
                          replace hv215_8 := Option.some.inj (hv215_8.symm.trans hx215_8)
                          injection hv215_8 with hva_ hvn_ hvc_
                          rw [hva_] at ge215_8
                          rw [hvc_] at ul215_8
                          have HL215_8 := Aside0.mk (show Kd.V (Kd.int .i64) 3 _ w.heap.size _ _ ((rd_T61 x13_3 x14_3).f8) from Kd.V_mk ul215_8 ge215_8)
                          clear hva_ hvn_ hvc_ ge215_8 ul215_8
                          clear hcc215 hce215
                          have HR215_8 := Aside0.mk hi215_8
                          have HC215_8 := Aside0.mk hl215_8
                          clear hi215_8 hl215_8
                          replace p215 := eq_true p215
                          replace q215 := eq_true q215
                          go_wp2
                          repeat (go_quiet (fail); try go_wp2)
                          go_roundg k3
                          case measure => have := HK1.out; have := HK2.out; have := HK3.out; omega
                          case rel => exact ⟨(x13_3), (wrap64 (x14_3 + 1)), (by first | rfl | (simp; done) | (simp [*]; done)), H', ⟨by have := HK1.out; have := HK2.out; have := HK3.out; omega⟩, ⟨by (with_reducible repeat (first | apply Kd.N_alloc | apply Kd.N_drewN | apply Kd.N_drew)); exact HO_13.out⟩, ⟨by repeat (first | (with_reducible first | exact HB.out | apply below_alloc | apply pw_below_drewN | apply below_drew1) | exact HB.out)⟩⟩
                      · rw [if_neg c36] at H
                        exact absurd H (by simp)
                    · rw [if_neg c35] at H
                      have c35b0 : decide (x14_3 < (x13_3.length : Int)) = false := decide_eq_false c35
                      clear c35
                      have H' := Aside0.mk H
                      clear H
                      obtain ⟨Ao43, co43, eo43⟩ := Kd.N_slice HO_13.out
                      subst eo43
                      go_wp2
                      repeat (go_quiet (fail); try go_wp2)
                      go_loopg [15] k3 (fun kq v15 w' => ∃ (x13_4 : List (S61)) (x15_4 : Int), v15 = .int .i64 x15_4 ∧ Aside0 (towncrierref04_Put.l3 kq a1 l2 x13_4 x15_4 = some (r1, r2)) ∧ Aside0 (kq ≤ k3) ∧ Aside0 (Kd.N k61 61 w' w.heap.size (fun k_ => (P0_ k_ ∨ w.heap.size ≤ k_)) (.slice Ao43 x13_3.length co43) x13_4) ∧ Aside0 (Below w.heap.size w w'))
                      case atStart => exact ⟨(x13_3), (0), (by first | rfl | (simp; done) | (simp [*]; done)), H', ⟨Nat.le_refl _⟩, ⟨by (with_reducible repeat (first | apply Kd.N_alloc | apply Kd.N_drewN | apply Kd.N_drew)); exact HO_13.out⟩, ⟨by repeat (first | (with_reducible first | exact HB.out | apply below_alloc | apply pw_below_drewN | apply below_drew1) | exact HB.out)⟩⟩
                      case round =>
                        clear H'
                        try clear c1
                        try clear p1
                        try clear q1
                        try clear hx1
                        try clear c2
                        try clear p2
                        try clear q2
                        try clear hx2
                        try clear c3
                        try clear p3
                        try clear q3
                        try clear hx3
                        try clear hf3
                        try clear c4
                        try clear hx4
                        try clear hf4
                        try clear c5
                        try clear c6
                        try clear c6b0
                        try clear p6
                        try clear c7
                        try clear c7b0
                        try clear c9
                        try clear c10
                        try clear c10b0
                        try clear c11
                        try clear c11b0
                        try clear c11b1
                        try clear c13
                        try clear c18
                        try clear c18b0
                        try clear c19
                        try clear c19b0
                        try clear p19
                        try clear q19
                        try clear hx19
                        try clear c20
                        try clear p20
                        try clear q20
                        try clear hx20
                        try clear c21
                        try clear c21b0
                        try clear p21
                        try clear q21
                        try clear hx21
                        try clear c22
                        try clear c22b0
                        try clear c23
                        try clear c23b0
                        try clear c23b1
                        try clear c24
                        try clear c24b0
                        try clear c24b1
                        try clear c26
                        try clear c28
                        try clear c28b0
                        try clear c28b1
                        try clear c30
                        try clear c30b0
                        try clear c30b1
                        try clear c35
                        try clear c35b0
                        try clear c36
                        try clear c36b0
                        try clear c37
                        try clear c37b0
                        try clear c37b1
                        try clear c38
                        try clear p38
                        try clear q38
                        try clear hx38
                        try clear hf38
                        try clear c40
                        try clear hx40
                        try clear hf40
                        try clear hx198_0
                        try clear hx201_0
                        try clear hx206_0
                        try clear hx207_0
                        try clear hx207_1
                        try clear hx207_2
                        try clear hx207_3
                        try clear hx207_4
                        try clear hx207_5
                        try clear hx207_6
                        try clear hx207_7
                        try clear hx207_8
                        try clear hx208_0
                        try clear hx209_0
                        try clear hx209_1
                        try clear hx209_2
                        try clear hx209_3
                        try clear hx209_4
                        try clear hx209_5
                        try clear hx209_6
                        try clear hx209_7
                        try clear hx209_8
                        try clear hx210_0
                        try clear hx215_0
                        try clear hx215_1
                        try clear hx215_2
                        try clear hx215_3
                        try clear hx215_4
                        try clear hx215_5
                        try clear hx215_6
                        try clear hx215_7
                        try clear hx215_8
                        try clear hx38_0
                        try clear hx38_1
                        try clear hx38_2
                        try clear hx38_3
                        try clear hx38_4
                        try clear hx38_5
                        try clear hx38_6
                        try clear hx38_7
                        try clear hx38_8
                        try clear hx40_1
                        try clear p1
                        try clear p19
                        try clear p198
                        try clear p2
                        try clear p20
                        try clear p201
                        try clear p206
                        try clear p207
                        try clear p208
                        try clear p209
                        try clear p21
                        try clear p210
                        try clear p215
                        try clear p38
                        try clear p6
                        try clear q1
                        try clear q19
                        try clear q198
                        try clear q2
                        try clear q20
                        try clear q201
                        try clear q206
                        try clear q207
                        try clear q208
                        try clear q209
                        try clear q21
                        try clear q210
                        try clear q215
                        try clear q38
                        obtain ⟨x13_4, x15_4, rfl, HA, HK4, HO_13, HB⟩ := hrel
                        have hl13_4 := (Kd.N_reads' HO_13.out).1
                        rw [hl13_4] at HO_13
                        (try simp only [hl13_4])
                        cases gk with
                        | zero => exact absurd HA.out (by simp [towncrierref04_Put.l3])
                        | succ k4 =>
                          have H := HA.out
                          clear HA
                          simp only [towncrierref04_Put.l3] at H
                          by_cases c44 : x15_4 < (l2.length : Int)
                          · rw [if_pos c44] at H
                            have c44b0 : decide (x15_4 < (l2.length : Int)) = true := decide_eq_true c44
                            clear c44
                            by_cases c45 : 0 ≤ x15_4
                            · rw [if_pos c45] at H
                              have c45b0 : decide (0 ≤ x15_4) = true := decide_eq_true c45
                              clear c45
                              obtain ⟨ji46, hji46⟩ : ∃ j_ : Int, (wrap64 ((rd l2 x15_4) - 1)) = j_ := ⟨_, rfl⟩
                              replace H : (if 0 ≤ (ji46) then (if (ji46) < (x13_4.length : Int) then (towncrierref04_Put.l3 k4 a1 l2 (x13_4.set ((ji46) : Int).toNat (⟨(rd_T61 x13_4 (ji46)).f0, a1, (rd_T61 x13_4 (ji46)).f2, (rd_T61 x13_4 (ji46)).f3, (rd_T61 x13_4 (ji46)).f4, (rd_T61 x13_4 (ji46)).f5, (rd_T61 x13_4 (ji46)).f6, (rd_T61 x13_4 (ji46)).f7, (rd_T61 x13_4 (ji46)).f8⟩ : S61)) (wrap64 (x15_4 + 1))) else (none)) else (none)) = some (r1, r2) := by first | (rw [hji46] at H; exact H) | (simp only [hji46] at H ⊢; exact H)
                              have hji46w : (IntKind.i64.wrap ((rd l2 x15_4) - 1)) = ji46 := (i64_w _).trans hji46
                              by_cases c47 : 0 ≤ (ji46)
                              · rw [if_pos c47] at H
                                have c47b0 : decide (0 ≤ (ji46)) = true := decide_eq_true c47
                                clear c47
                                by_cases c48 : (ji46) < (x13_4.length : Int)
                                · rw [if_pos c48] at H
                                  have c48b0 : decide ((ji46) < (x13_4.length : Int)) = true := decide_eq_true c48
                                  clear c48
                                  obtain ⟨y218, hy218⟩ : ∃ y_ : List (S61), y_ = (x13_4.set ((ji46) : Int).toNat (⟨(rd_T61 x13_4 (ji46)).f0, a1, (rd_T61 x13_4 (ji46)).f2, (rd_T61 x13_4 (ji46)).f3, (rd_T61 x13_4 (ji46)).f4, (rd_T61 x13_4 (ji46)).f5, (rd_T61 x13_4 (ji46)).f6, (rd_T61 x13_4 (ji46)).f7, (rd_T61 x13_4 (ji46)).f8⟩ : S61)) := ⟨_, rfl⟩
                                  replace H : (towncrierref04_Put.l3 k4 a1 l2 y218 (wrap64 (x15_4 + 1))) = some (r1, r2) := by first | (rw [hy218]; with_reducible exact H) | (have H2_ := (Option.bind_some _ _).symm.trans H; rw [hy218]; with_reducible exact H2_) | (have H2_ := (Option.bind_some _ _).symm.trans H; with_reducible exact H2_) | with_reducible exact H | (rw [hy218]; exact H) | exact H
                                  have Ny218 := Aside0.mk hy218
                                  clear hy218
                                  have H' := Aside0.mk H
                                  clear H
                                  have p217 : 0 ≤ (x15_4 : Int) := of_decide_eq_true (by first | (with_reducible assumption) | assumption)
                                  have q217 : x15_4 < (l2.length : Int) := of_decide_eq_true (by first | (with_reducible assumption) | assumption)
                                  obtain ⟨ad217, e217, hx217_0⟩ := Kd.at_int HR2.out x15_4 p217 q217
                                  cases e217
                                  replace hx217_0 := (HB.out.cell (World.block_lt_of_cell? w _ hx217_0)).trans hx217_0
                                  replace p217 := eq_true p217
                                  replace q217 := eq_true q217
                                  have p49 : 0 ≤ ((ji46) : Int) := of_decide_eq_true (by first | (with_reducible assumption) | assumption)
                                  have q49 : ((ji46) : Int) < ((x13_4.length : Int) : Int) := of_decide_eq_true (by first | (with_reducible assumption) | assumption)
                                  obtain ⟨go49, co49, eo49, gb49, gl49, cl49, HG49⟩ := Kd.N_form HO_13.out (by omega)
                                  (first | cases eo49 | (injection eo49 with ea_ en_ ec_; (first | subst ea_ | (injection ea_ with ea_; subst ea_)); subst ec_; clear en_))
                                  have GB49 := Aside0.mk gb49
                                  have GG49 := Aside0.mk HG49
                                  clear gb49 gl49 HG49
                                  obtain ⟨ce49, hcl49, hM49, hcc49, hfr49⟩ := Kd.N_elem HO_13.out z61 ((ji46) : Int) p49 q49
                                  obtain ⟨ua49_8, uc49_8, rfl, ul49_8, ge49_8⟩ := k61_openF hM49
                                  have hx49_0 : wr.cell? ⟨go49, ((ji46) : Int).toNat * 9, none⟩ = some (.int .i64 ((rd_T61 x13_4 (ji46)).f0)) := hcc49 0 _ rfl
                                  have hx49_1 : wr.cell? ⟨go49, ((ji46) : Int).toNat * 9 + 1, none⟩ = some (.int .i64 ((rd_T61 x13_4 (ji46)).f1)) := hcc49 1 _ rfl
                                  have hx49_2 : wr.cell? ⟨go49, ((ji46) : Int).toNat * 9 + 2, none⟩ = some (.int .i64 ((rd_T61 x13_4 (ji46)).f2)) := hcc49 2 _ rfl
                                  have hx49_3 : wr.cell? ⟨go49, ((ji46) : Int).toNat * 9 + 3, none⟩ = some (.int .i64 ((rd_T61 x13_4 (ji46)).f3)) := hcc49 3 _ rfl
                                  have hx49_4 : wr.cell? ⟨go49, ((ji46) : Int).toNat * 9 + 4, none⟩ = some (.int .i64 ((rd_T61 x13_4 (ji46)).f4)) := hcc49 4 _ rfl
                                  have hx49_5 : wr.cell? ⟨go49, ((ji46) : Int).toNat * 9 + 5, none⟩ = some (.bool ((rd_T61 x13_4 (ji46)).f5)) := hcc49 5 _ rfl
                                  have hx49_6 : wr.cell? ⟨go49, ((ji46) : Int).toNat * 9 + 6, none⟩ = some (.string ((rd_T61 x13_4 (ji46)).f6)) := hcc49 6 _ rfl
                                  have hx49_7 : wr.cell? ⟨go49, ((ji46) : Int).toNat * 9 + 7, none⟩ = some (.string ((rd_T61 x13_4 (ji46)).f7)) := hcc49 7 _ rfl
                                  have hx49_8 : wr.cell? ⟨go49, ((ji46) : Int).toNat * 9 + 8, none⟩ = some (.slice ua49_8 ((rd_T61 x13_4 (ji46)).f8).length uc49_8) := hcc49 8 _ rfl
                                  have hf49_0 : wr.frozen? ⟨go49, ((ji46) : Int).toNat * 9, none⟩ = false := hfr49 0
                                  have hf49_1 : wr.frozen? ⟨go49, ((ji46) : Int).toNat * 9 + 1, none⟩ = false := hfr49 1
                                  have hf49_2 : wr.frozen? ⟨go49, ((ji46) : Int).toNat * 9 + 2, none⟩ = false := hfr49 2
                                  have hf49_3 : wr.frozen? ⟨go49, ((ji46) : Int).toNat * 9 + 3, none⟩ = false := hfr49 3
                                  have hf49_4 : wr.frozen? ⟨go49, ((ji46) : Int).toNat * 9 + 4, none⟩ = false := hfr49 4
                                  have hf49_5 : wr.frozen? ⟨go49, ((ji46) : Int).toNat * 9 + 5, none⟩ = false := hfr49 5
                                  have hf49_6 : wr.frozen? ⟨go49, ((ji46) : Int).toNat * 9 + 6, none⟩ = false := hfr49 6
                                  have hf49_7 : wr.frozen? ⟨go49, ((ji46) : Int).toNat * 9 + 7, none⟩ = false := hfr49 7
                                  have hf49_8 : wr.frozen? ⟨go49, ((ji46) : Int).toNat * 9 + 8, none⟩ = false := hfr49 8
                                  clear hcl49 hcc49 hfr49 hM49
                                  replace p49 := eq_true p49
                                  replace q49 := eq_true q49
                                  have HX50 := Aside0.mk (show Kd.N k61 61 wr w.heap.size (fun k_ => (P0_ k_ ∨ w.heap.size ≤ k_)) (.slice (some ⟨go49, 0, none⟩) x13_4.length co43) x13_4 from (by (with_reducible repeat (first | apply Kd.N_alloc | apply Kd.N_drewN | apply Kd.N_drew)); exact HO_13.out))
                                  obtain ⟨ce50, hcl50, hM50, hcc50, hfr50⟩ := Kd.N_elem HX50.out z61 ((ji46) : Int) (of_decide_eq_true (by first | (with_reducible assumption) | assumption)) (by have h_ : ((ji46) : Int) < ((x13_4.length : Int) : Int) := of_decide_eq_true (by first | (with_reducible assumption) | assumption); first | exact h_ | (have e_ := (Kd.N_reads' HO_13.out).1; omega) | simpa using h_)
                                  obtain ⟨ua50_8, uc50_8, rfl, ul50_8, ge50_8⟩ := k61_openF hM50
                                  have HP50 := Kd.N_seg HX50.out ((ji46) : Int) (of_decide_eq_true (by first | (with_reducible assumption) | assumption)) (by have h_ : ((ji46) : Int) < ((x13_4.length : Int) : Int) := of_decide_eq_true (by first | (with_reducible assumption) | assumption); first | exact h_ | (have e_ := (Kd.N_reads' HO_13.out).1; omega) | simpa using h_) (seg := [.int .i64 a1]) (j := 1) hcl50 hcc50 (show 2 ≤ 9 from by decide) (x' := (⟨(rd_T61 x13_4 (ji46)).f0, a1, (rd_T61 x13_4 (ji46)).f2, (rd_T61 x13_4 (ji46)).f3, (rd_T61 x13_4 (ji46)).f4, (rd_T61 x13_4 (ji46)).f5, (rd_T61 x13_4 (ji46)).f6, (rd_T61 x13_4 (ji46)).f7, (rd_T61 x13_4 (ji46)).f8⟩ : S61)) (k61_mkF _ _ (⟨(rd_T61 x13_4 (ji46)).f0, a1, (rd_T61 x13_4 (ji46)).f2, (rd_T61 x13_4 (ji46)).f3, (rd_T61 x13_4 (ji46)).f4, (rd_T61 x13_4 (ji46)).f5, (rd_T61 x13_4 (ji46)).f6, (rd_T61 x13_4 (ji46)).f7, (rd_T61 x13_4 (ji46)).f8⟩ : S61) ul50_8 ge50_8) (fun _ hk => hk)
                                  have hx50_1 := hcc50 1 _ rfl
                                  (try simp only [show (k61).sz = 9 from rfl, Nat.mul_one, Nat.add_zero] at hx50_1)
                                  have hf50_1 := hfr50 1
                                  (try simp only [show (k61).sz = 9 from rfl, Nat.mul_one, Nat.add_zero] at hf50_1)
                                  clear hcl50 hcc50 hfr50 hM50
                                  go_wp2_with (first | ((with_reducible refine gate_store (t := 3) (p := 129) rfl ?_); (try (rw [drewN_self wr]; generalize hq_ : World.drewN wr _ = wr; have n0_ := Aside0.mk (Kd.N_at hq_ HO_13.out); have n1_ := Aside0.mk (below_at hq_ HB.out); clear hq_ HO_13 HB; have HO_13 := n0_; have HB := n1_; clear n0_ n1_; (try (have HX50 := Aside0.mk (show Kd.N k61 61 wr w.heap.size (fun k_ => (P0_ k_ ∨ w.heap.size ≤ k_)) (.slice (some ⟨go49, 0, none⟩) x13_4.length co43) x13_4 from (by (with_reducible repeat (first | apply Kd.N_alloc | apply Kd.N_drewN | apply Kd.N_drew)); exact HO_13.out)))); (try (obtain ⟨ce50, hcl50, hM50, hcc50, hfr50⟩ := Kd.N_elem HX50.out z61 ((ji46) : Int) (of_decide_eq_true (by first | (with_reducible assumption) | assumption)) (by have h_ : ((ji46) : Int) < ((x13_4.length : Int) : Int) := of_decide_eq_true (by first | (with_reducible assumption) | assumption); first | exact h_ | (have e_ := (Kd.N_reads' HO_13.out).1; omega) | simpa using h_))); (try (obtain ⟨ua50_8, uc50_8, rfl, ul50_8, ge50_8⟩ := k61_openF hM50)); (try (have HP50 := Kd.N_seg HX50.out ((ji46) : Int) (of_decide_eq_true (by first | (with_reducible assumption) | assumption)) (by have h_ : ((ji46) : Int) < ((x13_4.length : Int) : Int) := of_decide_eq_true (by first | (with_reducible assumption) | assumption); first | exact h_ | (have e_ := (Kd.N_reads' HO_13.out).1; omega) | simpa using h_) (seg := [.int .i64 a1]) (j := 1) hcl50 hcc50 (show 2 ≤ 9 from by decide) (x' := (⟨(rd_T61 x13_4 (ji46)).f0, a1, (rd_T61 x13_4 (ji46)).f2, (rd_T61 x13_4 (ji46)).f3, (rd_T61 x13_4 (ji46)).f4, (rd_T61 x13_4 (ji46)).f5, (rd_T61 x13_4 (ji46)).f6, (rd_T61 x13_4 (ji46)).f7, (rd_T61 x13_4 (ji46)).f8⟩ : S61)) (k61_mkF _ _ (⟨(rd_T61 x13_4 (ji46)).f0, a1, (rd_T61 x13_4 (ji46)).f2, (rd_T61 x13_4 (ji46)).f3, (rd_T61 x13_4 (ji46)).f4, (rd_T61 x13_4 (ji46)).f5, (rd_T61 x13_4 (ji46)).f6, (rd_T61 x13_4 (ji46)).f7, (rd_T61 x13_4 (ji46)).f8⟩ : S61) ul50_8 ge50_8) (fun _ hk => hk))); (try (have hx50_1 := hcc50 1 _ rfl)); (try (try simp only [show (k61).sz = 9 from rfl, Nat.mul_one, Nat.add_zero] at hx50_1)); (try (have hf50_1 := hfr50 1)); (try (try simp only [show (k61).sz = 9 from rfl, Nat.mul_one, Nat.add_zero] at hf50_1)); (try (clear hcl50 hcc50 hfr50 hM50)))); refine store_event (t := 3) (p := 129) (v := ?vo_w51) (w1 := (wr.setCell ⟨go49, ((ji46) : Int).toNat * 9 + 1, none⟩ (.int .i64 a1))) ?hg ?ho ?hn ?hr ?_; (case ho => rfl); (case hg => rfl); (case hn => rfl); (case hr => first | (go_simp; done) | (go_simp; rfl)); intro w51 hw; have hg : wr.grownBy w51 (some go49) := (by rw [hw]; exact HP50.2); have hp_ : Kd.N k61 61 w51 w.heap.size (fun k_ => (P0_ k_ ∨ w.heap.size ≤ k_)) (.slice (some ⟨go49, 0, none⟩) x13_4.length co43) y218 := (by rw [hw, Ny218.out]; exact HP50.1); clear HP50; have n0_ := Aside0.mk (hp_); have n1_ := Aside0.mk ((by rw [hw]; exact below_set (HB.out) GB49.out : Below w.heap.size w w51)); clear HO_13; clear HB; have HO_13 := n0_; have HB := n1_; clear n0_ n1_; clear hg hw hp_))
                                  repeat (go_quiet (first | ((with_reducible refine gate_store (t := 3) (p := 129) rfl ?_); (try (rw [drewN_self wr]; generalize hq_ : World.drewN wr _ = wr; have n0_ := Aside0.mk (Kd.N_at hq_ HO_13.out); have n1_ := Aside0.mk (below_at hq_ HB.out); clear hq_ HO_13 HB; have HO_13 := n0_; have HB := n1_; clear n0_ n1_; (try (have HX50 := Aside0.mk (show Kd.N k61 61 wr w.heap.size (fun k_ => (P0_ k_ ∨ w.heap.size ≤ k_)) (.slice (some ⟨go49, 0, none⟩) x13_4.length co43) x13_4 from (by (with_reducible repeat (first | apply Kd.N_alloc | apply Kd.N_drewN | apply Kd.N_drew)); exact HO_13.out)))); (try (obtain ⟨ce50, hcl50, hM50, hcc50, hfr50⟩ := Kd.N_elem HX50.out z61 ((ji46) : Int) (of_decide_eq_true (by first | (with_reducible assumption) | assumption)) (by have h_ : ((ji46) : Int) < ((x13_4.length : Int) : Int) := of_decide_eq_true (by first | (with_reducible assumption) | assumption); first | exact h_ | (have e_ := (Kd.N_reads' HO_13.out).1; omega) | simpa using h_))); (try (obtain ⟨ua50_8, uc50_8, rfl, ul50_8, ge50_8⟩ := k61_openF hM50)); (try (have HP50 := Kd.N_seg HX50.out ((ji46) : Int) (of_decide_eq_true (by first | (with_reducible assumption) | assumption)) (by have h_ : ((ji46) : Int) < ((x13_4.length : Int) : Int) := of_decide_eq_true (by first | (with_reducible assumption) | assumption); first | exact h_ | (have e_ := (Kd.N_reads' HO_13.out).1; omega) | simpa using h_) (seg := [.int .i64 a1]) (j := 1) hcl50 hcc50 (show 2 ≤ 9 from by decide) (x' := (⟨(rd_T61 x13_4 (ji46)).f0, a1, (rd_T61 x13_4 (ji46)).f2, (rd_T61 x13_4 (ji46)).f3, (rd_T61 x13_4 (ji46)).f4, (rd_T61 x13_4 (ji46)).f5, (rd_T61 x13_4 (ji46)).f6, (rd_T61 x13_4 (ji46)).f7, (rd_T61 x13_4 (ji46)).f8⟩ : S61)) (k61_mkF _ _ (⟨(rd_T61 x13_4 (ji46)).f0, a1, (rd_T61 x13_4 (ji46)).f2, (rd_T61 x13_4 (ji46)).f3, (rd_T61 x13_4 (ji46)).f4, (rd_T61 x13_4 (ji46)).f5, (rd_T61 x13_4 (ji46)).f6, (rd_T61 x13_4 (ji46)).f7, (rd_T61 x13_4 (ji46)).f8⟩ : S61) ul50_8 ge50_8) (fun _ hk => hk))); (try (have hx50_1 := hcc50 1 _ rfl)); (try (try simp only [show (k61).sz = 9 from rfl, Nat.mul_one, Nat.add_zero] at hx50_1)); (try (have hf50_1 := hfr50 1)); (try (try simp only [show (k61).sz = 9 from rfl, Nat.mul_one, Nat.add_zero] at hf50_1)); (try (clear hcl50 hcc50 hfr50 hM50)))); refine store_event (t := 3) (p := 129) (v := ?vo_w51) (w1 := (wr.setCell ⟨go49, ((ji46) : Int).toNat * 9 + 1, none⟩ (.int .i64 a1))) ?hg ?ho ?hn ?hr ?_; (case ho => rfl); (case hg => rfl); (case hn => rfl); (case hr => first | (go_simp; done) | (go_simp; rfl)); intro w51 hw; have hg : wr.grownBy w51 (some go49) := (by rw [hw]; exact HP50.2); have hp_ : Kd.N k61 61 w51 w.heap.size (fun k_ => (P0_ k_ ∨ w.heap.size ≤ k_)) (.slice (some ⟨go49, 0, none⟩) x13_4.length co43) y218 := (by rw [hw, Ny218.out]; exact HP50.1); clear HP50; have n0_ := Aside0.mk (hp_); have n1_ := Aside0.mk ((by rw [hw]; exact below_set (HB.out) GB49.out : Below w.heap.size w w51)); clear HO_13; clear HB; have HO_13 := n0_; have HB := n1_; clear n0_ n1_; clear hg hw hp_)); try go_wp2_with (first | ((with_reducible refine gate_store (t := 3) (p := 129) rfl ?_); (try (rw [drewN_self wr]; generalize hq_ : World.drewN wr _ = wr; have n0_ := Aside0.mk (Kd.N_at hq_ HO_13.out); have n1_ := Aside0.mk (below_at hq_ HB.out); clear hq_ HO_13 HB; have HO_13 := n0_; have HB := n1_; clear n0_ n1_; (try (have HX50 := Aside0.mk (show Kd.N k61 61 wr w.heap.size (fun k_ => (P0_ k_ ∨ w.heap.size ≤ k_)) (.slice (some ⟨go49, 0, none⟩) x13_4.length co43) x13_4 from (by (with_reducible repeat (first | apply Kd.N_alloc | apply Kd.N_drewN | apply Kd.N_drew)); exact HO_13.out)))); (try (obtain ⟨ce50, hcl50, hM50, hcc50, hfr50⟩ := Kd.N_elem HX50.out z61 ((ji46) : Int) (of_decide_eq_true (by first | (with_reducible assumption) | assumption)) (by have h_ : ((ji46) : Int) < ((x13_4.length : Int) : Int) := of_decide_eq_true (by first | (with_reducible assumption) | assumption); first | exact h_ | (have e_ := (Kd.N_reads' HO_13.out).1; omega) | simpa using h_))); (try (obtain ⟨ua50_8, uc50_8, rfl, ul50_8, ge50_8⟩ := k61_openF hM50)); (try (have HP50 := Kd.N_seg HX50.out ((ji46) : Int) (of_decide_eq_true (by first | (with_reducible assumption) | assumption)) (by have h_ : ((ji46) : Int) < ((x13_4.length : Int) : Int) := of_decide_eq_true (by first | (with_reducible assumption) | assumption); first | exact h_ | (have e_ := (Kd.N_reads' HO_13.out).1; omega) | simpa using h_) (seg := [.int .i64 a1]) (j := 1) hcl50 hcc50 (show 2 ≤ 9 from by decide) (x' := (⟨(rd_T61 x13_4 (ji46)).f0, a1, (rd_T61 x13_4 (ji46)).f2, (rd_T61 x13_4 (ji46)).f3, (rd_T61 x13_4 (ji46)).f4, (rd_T61 x13_4 (ji46)).f5, (rd_T61 x13_4 (ji46)).f6, (rd_T61 x13_4 (ji46)).f7, (rd_T61 x13_4 (ji46)).f8⟩ : S61)) (k61_mkF _ _ (⟨(rd_T61 x13_4 (ji46)).f0, a1, (rd_T61 x13_4 (ji46)).f2, (rd_T61 x13_4 (ji46)).f3, (rd_T61 x13_4 (ji46)).f4, (rd_T61 x13_4 (ji46)).f5, (rd_T61 x13_4 (ji46)).f6, (rd_T61 x13_4 (ji46)).f7, (rd_T61 x13_4 (ji46)).f8⟩ : S61) ul50_8 ge50_8) (fun _ hk => hk))); (try (have hx50_1 := hcc50 1 _ rfl)); (try (try simp only [show (k61).sz = 9 from rfl, Nat.mul_one, Nat.add_zero] at hx50_1)); (try (have hf50_1 := hfr50 1)); (try (try simp only [show (k61).sz = 9 from rfl, Nat.mul_one, Nat.add_zero] at hf50_1)); (try (clear hcl50 hcc50 hfr50 hM50)))); refine store_event (t := 3) (p := 129) (v := ?vo_w51) (w1 := (wr.setCell ⟨go49, ((ji46) : Int).toNat * 9 + 1, none⟩ (.int .i64 a1))) ?hg ?ho ?hn ?hr ?_; (case ho => rfl); (case hg => rfl); (case hn => rfl); (case hr => first | (go_simp; done) | (go_simp; rfl)); intro w51 hw; have hg : wr.grownBy w51 (some go49) := (by rw [hw]; exact HP50.2); have hp_ : Kd.N k61 61 w51 w.heap.size (fun k_ => (P0_ k_ ∨ w.heap.size ≤ k_)) (.slice (some ⟨go49, 0, none⟩) x13_4.length co43) y218 := (by rw [hw, Ny218.out]; exact HP50.1); clear HP50; have n0_ := Aside0.mk (hp_); have n1_ := Aside0.mk ((by rw [hw]; exact below_set (HB.out) GB49.out : Below w.heap.size w w51)); clear HO_13; clear HB; have HO_13 := n0_; have HB := n1_; clear n0_ n1_; clear hg hw hp_)))
                                  (try simp only [← hl13_4])
                                  go_roundg k4
                                  case measure => have := HK1.out; have := HK2.out; have := HK3.out; have := HK4.out; omega
                                  case rel => exact ⟨(y218), (wrap64 (x15_4 + 1)), (by first | rfl | (simp; done) | (simp [*]; done)), H', ⟨by have := HK1.out; have := HK2.out; have := HK3.out; have := HK4.out; omega⟩, ⟨by (try simp only [hl13_4]); (with_reducible repeat (first | apply Kd.N_alloc | apply Kd.N_drewN | apply Kd.N_drew)); exact HO_13.out⟩, ⟨by repeat (first | (with_reducible first | exact HB.out | apply below_alloc | apply pw_below_drewN | apply below_drew1) | exact HB.out)⟩⟩
                                · rw [if_neg c48] at H
                                  exact absurd H (by simp)
                              · rw [if_neg c47] at H
                                exact absurd H (by simp)
                            · rw [if_neg c45] at H
                              exact absurd H (by simp)
                          · rw [if_neg c44] at H
                            have c44b0 : decide (x15_4 < (l2.length : Int)) = false := decide_eq_false c44
                            clear c44
                            simp only [Option.bind_some, List.nil_append, List.length_nil, Nat.zero_add] at H
                            split at H
                            case isFalse => cases H
                            rename_i c52
                            split at H
                            case isFalse => cases H
                            rename_i c54
                            split at H
                            case isFalse => cases H
                            rename_i c55
                            obtain ⟨j, hji⟩ : ∃ j : Nat, wrap64 (a1 - 1) = (j : Int) := ⟨(wrap64 (a1 - 1)).toNat, by omega⟩
                            rw [hji] at H c54 c55
                            have hjw : IntKind.i64.wrap (a1 - 1) = (j : Int) := (i64_w _).trans hji
                            simp only [Option.some.injEq, Prod.mk.injEq] at H
                            obtain ⟨rfl, rfl⟩ := H
                            have hlt : j < x13_4.length := by omega
                            have hN := HO_13.out
                            have hBw := HB.out
                            have hl2 := Kd.C_below HR2.out hBw
                            obtain ⟨x, hx⟩ : ∃ x, x13_4[j]? = some x := ⟨_, List.getElem?_eq_getElem hlt⟩
                            obtain ⟨g, cap, e1, hgb, hgs, -⟩ := Kd.N_form hN (by omega)
                            injection e1 with e1 e2 e3
                            subst e1 e3
                            obtain ⟨c, hcl, hFK, hcc, -⟩ := Kd.N_elem hN z61 (j : Int) (by omega) (by omega)
                            have hxd : x13_4.getD (j : Int).toNat z61 = x := by rw [Int.toNat_natCast, List.getD_eq_getElem?_getD, hx]; rfl
                            rw [hxd] at hFK
                            obtain ⟨Ax, cx, rfl, -, -⟩ := k61_openF hFK
                            have hrx : rd_T61 x13_4 (j : Int) = x := by unfold rd_T61; exact hxd
                            have hrx2 := Aside0.mk hrx
                            have hS := R_lit0 wr wr.heap.size (Nat.le_refl _)
                            have hBa := below_alloc (Below.refl _ wr) (.cells #[] 3)
                            have hDa := Kd.C_below hl2 hBa
                            have c54b : (0 ≤ (j : Int)) = True := eq_true c54
                            have c55b : ((j : Int) < (x13_4.length : Int)) = True := eq_true c55
                            clear hx hxd hrx e2 hFK hji HO_0 HO214 HO_9 HO205
                            go_wp2_with (first
                              | (at_builtin; refine Kd.R_append_row (Value.int .i64) (0 : Int) (w0 := wr) wr.heap.size rfl (.tmp 133) (.tmp 134) 29 3 (.int .i64 0) 8 rfl Try.underlying29 info3 rfl (by decide) (.slice (some ⟨wr.heap.size, 0, none⟩) 0 0) [] l2 A2 l2.length c2 (fun _ => True) rfl rfl (fun _ _ => trivial) hS hDa hBa hBa.size (by simp; omega) ?_; intro v2 w2 hR2 hB2 hg2 hat2; rw [List.nil_append] at hR2; obtain ⟨A9, c9, e9, l9, -⟩ := Kd.R_reads hR2; subst e9; have hN2 := Kd.N_below hN hB2; have hF9 := Kd.N_F (Kd.R_N (Kd.R_tight rfl hR2)); have hcc2 := fun j u hu => (hB2.cell (World.block_lt_of_cell? _ _ (hcc j u hu))).trans (hcc j u hu))
                              | (refine gate_ (.store 29 (.tmp 137) (.tmp 135)) rfl ?_; refine Kd.N_store k61 (w0 := w) w.heap.size rfl rfl 29 (.tmp 137) (.tmp 135) rfl 61 (g := g) (n := x13_4.length) (cap := co43) (o' := j * 9 + 8) (j : Int) 8 x13_4 ⟨x.f0, x.f1, x.f2, x.f3, x.f4, x.f5, x.f6, x.f7, l2⟩ (.slice A9 l2.length c9) [.slice A9 l2.length c9] _ (fun k => P0_ k ∨ w.heap.size ≤ k) (fun k => some k = (Value.slice A9 l2.length c9).ownBlock) rfl (by rw [Int.toNat_natCast]; rfl) rfl rfl (by kernel_rfl) (by simp [Value.oneCell']) hN2 (by omega) (by omega) hcl hcc2 (Nat.le_refl 9) (k61_mkF w2 _ ⟨x.f0, x.f1, x.f2, x.f3, x.f4, x.f5, x.f6, x.f7, l2⟩ l9 hF9) (fun k hk => ⟨Or.inr (Nat.le_trans hBw.size (Kd.R_base hR2 k hk.symm)), fun e => by have h1 := Kd.R_base hR2 k hk.symm; omega⟩) (hBw.trans (hB2.mono hBw.size)) ?_; intro w3 hN3 hB3 hg3))
                            go_ret2
                            rw [hrx2.out]
                            exact ⟨_, rfl, Kd.N_V hN3, hB3⟩
  · replace c5 := Bool.eq_false_iff.mpr c5
    subst c5
    have H1 : (some (l0, 1)) = some (r1, r2) := by rw [if_neg (show ¬ (false = true) by decide)] at H; exact H
    clear H
    have H := H1
    clear H1
    simp only [Option.some.injEq, Prod.mk.injEq] at H
    obtain ⟨rfl, rfl⟩ := H
    go_enter Try.func54, Try.ntmps54
    go_wp2_with (first | (go_at_call 49; (with_reducible refine (towncrierref04_There.calls _ _ l0 a1 false _ ?side1 ?side2 A4.out).mono ?_); (case side1 => repeat (first | exact (Kd.V_reads' HO0.out).2.2 | (with_reducible refine Kd.C_alloc ?_ _) | (with_reducible refine Kd.C_drewN ?_ _) | (with_reducible refine Kd.C_drew ?_))); (case side2 => exact (Kd.V_reads' HO0.out).2.1); rintro e w' ⟨rfl, ⟨nd, rfl⟩⟩; (try first | exact ⟨rfl, _, World.drewN_drewN _ _ _⟩ | exact ⟨rfl, _, Eq.trans (World.drewN_drewN _ _ _) (congrArg (World.drewN _) (Nat.add_assoc _ _ _))⟩)))
    repeat (go_quiet (first | (go_at_call 49; (with_reducible refine (towncrierref04_There.calls _ _ l0 a1 false _ ?side1 ?side2 A4.out).mono ?_); (case side1 => repeat (first | exact (Kd.V_reads' HO0.out).2.2 | (with_reducible refine Kd.C_alloc ?_ _) | (with_reducible refine Kd.C_drewN ?_ _) | (with_reducible refine Kd.C_drew ?_))); (case side2 => exact (Kd.V_reads' HO0.out).2.1); rintro e w' ⟨rfl, ⟨nd, rfl⟩⟩; (try first | exact ⟨rfl, _, World.drewN_drewN _ _ _⟩ | exact ⟨rfl, _, Eq.trans (World.drewN_drewN _ _ _) (congrArg (World.drewN _) (Nat.add_assoc _ _ _))⟩))); try go_wp2_with (first | (go_at_call 49; (with_reducible refine (towncrierref04_There.calls _ _ l0 a1 false _ ?side1 ?side2 A4.out).mono ?_); (case side1 => repeat (first | exact (Kd.V_reads' HO0.out).2.2 | (with_reducible refine Kd.C_alloc ?_ _) | (with_reducible refine Kd.C_drewN ?_ _) | (with_reducible refine Kd.C_drew ?_))); (case side2 => exact (Kd.V_reads' HO0.out).2.1); rintro e w' ⟨rfl, ⟨nd, rfl⟩⟩; (try first | exact ⟨rfl, _, World.drewN_drewN _ _ _⟩ | exact ⟨rfl, _, Eq.trans (World.drewN_drewN _ _ _) (congrArg (World.drewN _) (Nat.add_assoc _ _ _))⟩))))
    go_ret2
    exact ⟨_, by first | rfl | (simp [errW_none, errW_some] <;> rfl) | (simp [*, errW_none, errW_some] <;> rfl), by (with_reducible repeat (first | apply Kd.V_alloc | apply Kd.V_drewN | apply Kd.V_drew)); exact HO0.out, by repeat (first | (with_reducible first | exact HB.out | apply below_alloc | apply pw_below_drewN | apply below_drew1) | exact HB.out)⟩

end Go.Proofs.Ytmjedjhgomlfiaa.PAuditLeaks
