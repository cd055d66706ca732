/- The law OpNames holds: for every input the call returns true, and each argument reads behind the call as it read before. -/
import Derived.Test.YtmjedjhgomlfiaaDoorRows
import Derived.Test.YtmjedjhgomlfiaaDoorCards
import Derived.Test.YtmjedjhgomlfiaaDoorTie
import Derived.Test.YtmjedjhgomlfiaaDoorOpNames
import Derived.Test.YtmjedjhgomlfiaaDoorLaysO
import Derived.Test.YtmjedjhgomlfiaaDoorFrame
import Derived.ChangeMaps5
namespace Go.Proofs.YtmjedjhgomlfiaaDoor
open Go.ChangeShapes Go.WideShapes Go.ChangeAt Go.RowKit Go.Proofs.YtmjedjhgomlfiaaDoorW.PrintWords

set_option maxRecDepth 100000 in
theorem opnames_lifted (os : Os) (started : os.Started) (H : Type) (enc : TypeId × Value → H) :
    ReturnsInHanded {} Tryd.checked os 8 .any (fun w args => (Rows.opNamesSpec.pre enc Tryd.prog Tryd.f8 Rows.opNamesRow.domain false w args ∧ laidMetH Tryd.prog Rows.opNamesRow.laid w) ∧ sizedMet enc Tryd.prog Tryd.f8 (OpenSpec.ofChange Rows.opNamesSpec) false w args)
      (Rows.opNamesSpec.post enc Tryd.prog Tryd.f8 false true false false) := by
  refine inHanded_sa (C := Tryd.checked) (X := fun w _ => laidMetH Tryd.prog Rows.opNamesRow.laid w) (fun _ _ _ hh h => h.of_heap hh) ownK started (by kernel_rfl) Tryd.func8
    (ChangeSpec.witness_shaped (enc := enc) (C := Tryd.checked) (os := os) (X := fun w _ => laidMetH Tryd.prog Rows.opNamesRow.laid w) false (World.laidAll Tryd.prog os Rows.opNamesRow.laid) #[.int .i64 0] 8 (World.laidAll_os _ _ _)
      (World.shaped_of_ZipB (by kernel_rfl) (by kernel_rfl)) (by kernel_rfl) (by kernel_rfl) (by kernel_rfl)
      (by rw [MakeChecks.laidMetH_plain _ _ _ (by kernel_rfl)]; exact laidMet_laidAll _ (by kernel_rfl) (by kernel_rfl))) ?_
  intro W base args ds gs before hval0 hW hcnd _ hL _hsh0
  have hval : ∀ (j : Nat) t v, Tryd.f8.params[j]? = some t → args[j]? = some v → Value.okWide Tryd.prog W .any base t v := hval0
  have hW' := hW
  obtain ⟨p, q, hA0, hV, rfl, hfz, hnd⟩ := hW
  have hA : DataW.TrodAll enc Tryd.prog W 0 (fun _ => true) true Tryd.f8.params.toList args.toList ds p := hA0
  rw [Tryd.params8] at hA hval
  obtain ⟨v0, d0, rfl, rfl, h0⟩ := trodAll_one hA
  obtain ⟨rfl, rfl⟩ := trodVars_none hV
  obtain ⟨x0, rfl, rfl, rfl, wx0⟩ := open_int Tryd.underlying3 (hval 0 3 v0 rfl rfl) h0
  clear hA0 hval0
  have hLay : LayO W := by
    rw [MakeChecks.laidMetH_plain _ _ _ (by kernel_rfl)] at hL
    exact layO_of_laid hL rfl rfl rfl rfl rfl rfl
  refine (opNames_any x0 W hLay ).mono fun e W' ⟨he, bel⟩ => ?_
  subst he
  exact ⟨_, rfl, _, _, _, [], _, [], hW', trodAll_mk1 (shut_bool Tryd.underlying4 _), (trodAll_mk1 (shut_int Tryd.underlying3 wx0)), rfl, bel.frame _, fun h => by cases h⟩

theorem opnames_over : Rows.OpNamesSaid :=
  OpenClaim.holds_of_wide 8 Tryd.f8 rfl rfl rfl rfl rfl rfl rfl ⟨rfl, rfl, rfl, rfl, rfl⟩ rfl rfl rfl rfl rfl (by kernel_rfl) Tryd.func8 (by kernel_rfl)
    (of_decide_eq_true (by kernel_rfl)) (by unfold Func.isWrapper; first | (rw [if_pos (by decide +kernel)]; kernel_rfl) | (rw [if_neg (by decide +kernel)]; exact ⟨rfl, rfl⟩))
    (fun os started H enc _ => opnames_lifted os started H enc)

/-- The statement. -/
theorem opnames_proved : Rows.OpNamesCardSaid :=
  Claim7.holds_tied_plain_at .later [] [.data, .data, .data, .sentinel, .sentinel, .data, .data, .data] true _ true opnames_over (fun _ h => by cases h) (by kernel_rfl) (fun _ h => by cases h) opNames_row_tie rfl ⟨rfl, rfl⟩ (by kernel_rfl) rfl
    (fun f fn hf hfn => by
      obtain rfl : f = 8 := Option.some.inj ((show Tryd.prog.funcNamed "towncrier/towncrierlaw19.OpNames" = some 8 by kernel_rfl).symm.trans hf) |>.symm
      obtain rfl : fn = Tryd.f8 := (Option.some.inj (Tryd.func8.symm.trans hfn)).symm
      exact ⟨by kernel_rfl, fun j t ht => by
        rw [Tryd.params8] at ht
        have hm : t ∈ [3] := by simpa using Array.mem_of_getElem? ht
        have hall : ([3].all fun u => !Tryd.prog.wantsStandIn u) = true := by kernel_rfl
        exact (show Tryd.prog.wantsStandIn t = false by simpa using List.all_eq_true.1 hall t hm)⟩)
    (by kernel_rfl)
#print axioms opnames_proved
end Go.Proofs.YtmjedjhgomlfiaaDoor
