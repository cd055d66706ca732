/- The law WordNums holds: for every input the call returns true, and the argument reads behind the call as it read before. -/
import Derived.Test.YtmjedjhgomlfiaaDoorRows
import Derived.Test.YtmjedjhgomlfiaaDoorCards
import Derived.Test.YtmjedjhgomlfiaaDoorTie
import Derived.Test.YtmjedjhgomlfiaaDoorNumsLaw
import Derived.Test.YtmjedjhgomlfiaaDoorLays
import Derived.Test.YtmjedjhgomlfiaaDoorJoinsRow
import Derived.ShutString
import Derived.ChangeOld
import Derived.Lay
import Derived.LaidMore
import Derived.Stop.Joined
import Derived.SizedLaws
import Derived.SevenTiedAt
namespace Go.Proofs.YtmjedjhgomlfiaaDoor
open Go.ChangeShapes Go.WideShapes Go.ChangeAt Go.RowKit Go.Proofs.YtmjedjhgomlfiaaDoorW.PrintWords

set_option maxRecDepth 100000 in
theorem nums_lifted (os : Os) (started : os.Started) (H : Type) (enc : TypeId × Value → H) :
    ReturnsInHanded {} Tryd.checked os 10 .any (fun w args => (Rows.wordNumsSpec.pre enc Tryd.prog Tryd.f10 Rows.wordNumsRow.domain false w args ∧ laidMetH Tryd.prog Rows.wordNumsRow.laid w) ∧ sizedMet enc Tryd.prog Tryd.f10 (OpenSpec.ofChange Rows.wordNumsSpec) false w args)
      (Rows.wordNumsSpec.post enc Tryd.prog Tryd.f10 false true false false) := by
  refine inHanded_shaped_and (C := Tryd.checked) (X := fun w _ => laidMetH Tryd.prog Rows.wordNumsRow.laid w) (fun _ _ _ hh h => h.of_heap hh) own started (by kernel_rfl) Tryd.func10
    (ChangeSpec.witness_shaped (enc := enc) (C := Tryd.checked) (os := os) (X := fun w _ => laidMetH Tryd.prog Rows.wordNumsRow.laid w) false (World.laidAll Tryd.prog os Rows.wordNumsRow.laid) #[.int .i64 0] 8 (World.laidAll_os _ _ _)
      (World.shaped_of_ZipB (by kernel_rfl) (by kernel_rfl)) (by kernel_rfl) (by kernel_rfl) (by kernel_rfl)
      (by rw [MakeChecks.laidMetH_plain _ _ _ (by kernel_rfl)]; exact laidMet_laidAll _ (by kernel_rfl) (by kernel_rfl))) ?_
  intro W base args ds gs before hval0 hW hcnd _ hL _hsh0
  have hsh := _hsh0
  have hval : ∀ (j : Nat) t v, Tryd.f10.params[j]? = some t → args[j]? = some v → Value.okWide Tryd.prog W .any base t v := hval0
  have hW' := hW
  obtain ⟨p, q, hA0, hV, rfl, hfz, hnd⟩ := hW
  have hA : DataW.TrodAll enc Tryd.prog W 0 (fun _ => true) true Tryd.f10.params.toList args.toList ds p := hA0
  rw [Tryd.params10] at hA hval
  obtain ⟨v0, d0, rfl, rfl, h0⟩ := trodAll_one hA
  obtain ⟨rfl, rfl⟩ := trodVars_none hV
  obtain ⟨x, rfl, rfl, rfl, wx⟩ := open_int Tryd.underlying3 (hval 0 3 v0 rfl rfl) h0
  clear hA0 hval0
  have bx : -9223372036854775808 ≤ x ∧ x ≤ 9223372036854775807 := by
    have e1 : IntKind.i64.min = -9223372036854775808 := rfl
    have e2 : IntKind.i64.max = 9223372036854775807 := rfl
    simp [Lit.wf, e1, e2] at wx
    omega
  have hLay : Lay W := by
    rw [MakeChecks.laidMetH_plain _ _ _ (by kernel_rfl)] at hL
    exact lay_of_laid hL rfl rfl rfl
  refine (wordNums_any x bx.1 bx.2 W hsh hLay).mono fun e W' ⟨he, bel⟩ => ?_
  subst he
  exact ⟨_, rfl, _, _, _, [], _, [], hW', trodAll_mk1 (shut_bool Tryd.underlying4 _), trodAll_mk1 (shut_int Tryd.underlying3 wx), rfl, bel.frame _, fun h => by cases h⟩

theorem nums_over : Rows.WordNumsSaid :=
  OpenClaim.holds_of_wide 10 Tryd.f10 rfl rfl rfl rfl rfl rfl rfl ⟨rfl, rfl, rfl, rfl, rfl⟩ rfl rfl rfl rfl rfl (by kernel_rfl) Tryd.func10 (by kernel_rfl)
    (of_decide_eq_true (by kernel_rfl)) (by unfold Func.isWrapper; first | (rw [if_pos (by decide +kernel)]; kernel_rfl) | (rw [if_neg (by decide +kernel)]; exact ⟨rfl, rfl⟩))
    (fun os started H enc _ => nums_lifted os started H enc)

/-- The statement. -/
theorem nums_proved : Rows.WordNumsCardSaid :=
  Claim7.holds_tied_plain_at .later [] [.data, .data, .data, .data, .sentinel, .sentinel, .pinned] true _ true nums_over (fun _ h => by cases h) (by kernel_rfl) (fun _ h => by cases h) wordNums_row_tie rfl ⟨rfl, rfl⟩ (by kernel_rfl) rfl
    (fun f fn hf hfn => by
      obtain rfl : f = 10 := Option.some.inj ((show Tryd.prog.funcNamed "towncrier/towncrierlaw01.WordNums" = some 10 by kernel_rfl).symm.trans hf) |>.symm
      obtain rfl : fn = Tryd.f10 := (Option.some.inj (Tryd.func10.symm.trans hfn)).symm
      exact ⟨by kernel_rfl, fun j t ht => by
        rw [Tryd.params10] at ht
        have hm : t ∈ [3] := by simpa using Array.mem_of_getElem? ht
        have hall : ([3].all fun u => !Tryd.prog.wantsStandIn u) = true := by kernel_rfl
        exact (show Tryd.prog.wantsStandIn t = false by simpa using List.all_eq_true.1 hall t hm)⟩)
    (by kernel_rfl)
#print axioms nums_proved
end Go.Proofs.YtmjedjhgomlfiaaDoor
