/- The law ScriptCuts holds: for every input the call returns true, and each argument reads behind the call as it read before. -/
import Derived.Test.YtmjedjhgomlfiaaDoorRows
import Derived.Test.YtmjedjhgomlfiaaDoorCards
import Derived.Test.YtmjedjhgomlfiaaDoorTie
import Derived.Test.YtmjedjhgomlfiaaDoorCutsLaw
import Derived.Test.YtmjedjhgomlfiaaDoorLaysFrame
import Derived.Test.YtmjedjhgomlfiaaDoorOpensProg
import Derived.OpenShut
import Derived.ChangeMaps5
namespace Go.Proofs.YtmjedjhgomlfiaaDoor
open Go.ChangeShapes Go.WideShapes Go.ChangeAt Go.RowKit Go.Proofs.YtmjedjhgomlfiaaDoorW.PrintWords

set_option maxRecDepth 100000 in
theorem sccuts_lifted (os : Os) (started : os.Started) (H : Type) (enc : TypeId × Value → H) :
    ReturnsInHanded {} Tryd.checked os 14 .any (fun w args => (Rows.scriptCutsSpec.pre enc Tryd.prog Tryd.f14 Rows.scriptCutsRow.domain false w args ∧ laidMetH Tryd.prog Rows.scriptCutsRow.laid w) ∧ sizedMet enc Tryd.prog Tryd.f14 (OpenSpec.ofChange Rows.scriptCutsSpec) false w args)
      (Rows.scriptCutsSpec.post enc Tryd.prog Tryd.f14 false true false false) := by
  refine inHanded_sa (C := Tryd.checked) (X := fun w _ => laidMetH Tryd.prog Rows.scriptCutsRow.laid w) (fun _ _ _ hh h => h.of_heap hh) ownK started (by kernel_rfl) Tryd.func14
    (ChangeSpec.witness_shaped (enc := enc) (C := Tryd.checked) (os := os) (X := fun w _ => laidMetH Tryd.prog Rows.scriptCutsRow.laid w) false (World.laidAll Tryd.prog os Rows.scriptCutsRow.laid) #[.agg #[.slice none 0 0, .slice none 0 0], .int .u16 0] 8 (World.laidAll_os _ _ _)
      (World.shaped_of_ZipB (by kernel_rfl) (by kernel_rfl)) (by kernel_rfl) (by kernel_rfl) (by kernel_rfl)
      (by rw [MakeChecks.laidMetH_plain _ _ _ (by kernel_rfl)]; exact laidMet_laidAll _ (by kernel_rfl) (by kernel_rfl))) ?_
  intro W base args ds gs before hval0 hW hcnd hwt hL _hsh0
  have hval : ∀ (j : Nat) t v, Tryd.f14.params[j]? = some t → args[j]? = some v → Value.okWide Tryd.prog W .any base t v := hval0
  have hW' := hW
  obtain ⟨p, q, hA0, hV, rfl, hfz, hnd⟩ := hW
  have hA : DataW.TrodAll enc Tryd.prog W 0 (fun _ => true) true Tryd.f14.params.toList args.toList ds p := hA0
  rw [Tryd.params14] at hA hval hwt
  obtain ⟨v0, vs0, d0, ds0, p0, q0, hargs, rfl, rfl, h0, r0⟩ := trodAll_cons hA
  obtain ⟨v1, vs1, d1, ds1, p1, q1, rfl, rfl, rfl, h1, r1⟩ := trodAll_cons r0
  obtain ⟨rfl, rfl, rfl⟩ := trodAll_nil r1
  obtain rfl : args = #[v0, v1] := by cases args; simp_all
  obtain ⟨rfl, rfl⟩ := trodVars_none hV
  have k0 := h0
  have lt0 : ∀ x ∈ p0, x.block < W.heap.size := by obtain ⟨m, hm⟩ := k0; exact DataW.trod_lt m _ _ _ hm
  obtain ⟨cs0, rfl, _⟩ := okWide_struct Tryd.underlying60 (hval 0 60 v0 rfl rfl)
  obtain ⟨f0, hf0⟩ := h0
  obtain ⟨x0, vm0, vc0, hx0, hR0, hm0, hc0⟩ := prog_of_trod hf0 (light_head hwt)
  obtain rfl : cs0 = #[vm0, vc0] := Array.toList_inj.1 hx0
  obtain ⟨x1, rfl, rfl, rfl, wx1⟩ := open_int Tryd.underlying67 (hval 1 67 v1 rfl rfl) h1
  clear hA0 hval0
  have hLay : LayO W := by
    rw [MakeChecks.laidMetH_plain _ _ _ (by kernel_rfl)] at hL
    exact layO_of_laid hL rfl rfl rfl rfl rfl rfl
  refine (scriptCuts_any vm0 vc0 x0 x1 W _hsh0 hLay hR0 hm0 hc0 (u16_lo wx1) (u16_hi wx1)).mono fun e W' ⟨he, bel⟩ => ?_
  subst he
  exact ⟨_, rfl, _, _, _, [], _, [], hW', trodAll_mk1 (shut_bool Tryd.underlying4 _), (trodAll_cons_mk (Below.trod laidOutK (by kernel_rfl) (of_decide_eq_true (by kernel_rfl)) k0 bel lt0) (trodAll_cons_mk (shut_int Tryd.underlying67 wx1) trodAll_mk0)), rfl, bel.frame _, fun h => by cases h⟩

theorem sccuts_over : Rows.ScriptCutsSaid :=
  OpenClaim.holds_of_wide 14 Tryd.f14 rfl rfl rfl rfl rfl rfl rfl ⟨rfl, rfl, rfl, rfl, rfl⟩ rfl rfl rfl rfl rfl (by kernel_rfl) Tryd.func14 (by kernel_rfl)
    (of_decide_eq_true (by kernel_rfl)) (by unfold Func.isWrapper; first | (rw [if_pos (by decide +kernel)]; kernel_rfl) | (rw [if_neg (by decide +kernel)]; exact ⟨rfl, rfl⟩))
    (fun os started H enc _ => sccuts_lifted os started H enc)

/-- The statement. -/
theorem sccuts_proved : Rows.ScriptCutsCardSaid :=
  Claim7.holds_tied_plain_at .later [] [.data, .data, .data, .data, .sentinel, .sentinel, .data, .data, .data, .pinned] true _ true sccuts_over (fun _ h => by cases h) (by kernel_rfl) (fun _ h => by cases h) scriptCuts_row_tie rfl ⟨rfl, rfl⟩ (by kernel_rfl) rfl
    (fun f fn hf hfn => by
      obtain rfl : f = 14 := Option.some.inj ((show Tryd.prog.funcNamed "towncrier/towncrierlaw21.ScriptCuts" = some 14 by kernel_rfl).symm.trans hf) |>.symm
      obtain rfl : fn = Tryd.f14 := (Option.some.inj (Tryd.func14.symm.trans hfn)).symm
      exact ⟨by kernel_rfl, fun j t ht => by
        rw [Tryd.params14] at ht
        have hm : t ∈ [60, 67] := by simpa using Array.mem_of_getElem? ht
        have hall : ([60, 67].all fun u => !Tryd.prog.wantsStandIn u) = true := by kernel_rfl
        exact (show Tryd.prog.wantsStandIn t = false by simpa using List.all_eq_true.1 hall t hm)⟩)
    (by kernel_rfl)
#print axioms sccuts_proved
end Go.Proofs.YtmjedjhgomlfiaaDoor
