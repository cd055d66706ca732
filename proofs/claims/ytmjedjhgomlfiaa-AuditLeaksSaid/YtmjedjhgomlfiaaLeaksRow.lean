/- The law AuditLeaks holds: for every input the call returns true, and each argument reads behind the call as it read before. -/
import Derived.Test.YtmjedjhgomlfiaaRows
import Derived.Test.YtmjedjhgomlfiaaLeaksLaw
import Derived.Test.YtmjedjhgomlfiaaOpensAll
import Derived.ShutString
import Derived.ChangeOld
namespace Go.Proofs.Ytmjedjhgomlfiaa
open Go.ChangeShapes Go.WideShapes Go.ChangeAt Go.RowKit Go.Proofs.YtmjedjhgomlfiaaW.PrintWords

theorem ownL : ownKnob Try.prog.godebug = none := by kernel_rfl
theorem laidOutL : laidOutB Try.prog = true := by kernel_rfl
theorem slice_max {P : Program} {w : World} {r : Reach} {base : Nat} {t e : TypeId} {a : Option Addr} {n c : Nat} (ht : P.underlying t = some (.slice e)) (h : Value.okWide P w r base t (.slice a n c)) : n ≤ 9223372036854775807 := by
  have hm : IntKind.i64.max = 9223372036854775807 := by decide
  simp only [Value.okWide, ht, Cell.okWide] at h
  cases a with
  | none =>
    cases n with
    | zero => omega
    | succ n => simp [Cell.ok, ht] at h
  | some a =>
    simp only [Cell.ok, ht, hm] at h
    omega
set_option maxRecDepth 100000 in
theorem aleaks_lifted (os : Os) (started : os.Started) (H : Type) (enc : TypeId × Value → H) :
    ReturnsInHanded {} Try.checked os 5 .any (Rows.auditLeaksSpec.pre6 enc Try.prog Try.f5 Rows.auditLeaksRow.domain false) (Rows.auditLeaksSpec.post enc Try.prog Try.f5 false true false false) := by
  refine returnsInHanded_of_change (C := Try.checked) ownL started (by kernel_rfl) Try.func5
    (ChangeSpec.witness6 (enc := enc) (C := Try.checked) false ⟨#[], #[.slice none 0 0, .agg #[.int .i64 0, .int .i64 0, .int .i64 0, .int .i64 0, .int .i64 0, .int .i64 0, .int .i64 0, .slice none 0 0, .bool false, .bool false, .bool false, .bool false, .bool false, .bool false, .bool false, .bool false, .int .i64 0, .int .i64 0, .int .i64 0]], []⟩ 8 (by kernel_rfl) (by kernel_rfl) (by kernel_rfl) (by kernel_rfl)) ?_
  intro W base args ds gs before hval0 hW hcnd _
  have hval : ∀ (j : Nat) t v, Try.f5.params[j]? = some t → args[j]? = some v → Value.okWide Try.prog W .any base t v := hval0
  have hW' := hW
  obtain ⟨p, q, hA0, hV, rfl, hfz, hnd⟩ := hW
  have hA : DataW.TrodAll enc Try.prog W 0 (fun _ => true) true Try.f5.params.toList args.toList ds p := hA0
  rw [Try.params5] at hA hval
  obtain ⟨v0, vs0, d0, ds0, p0, q0, hargs, rfl, rfl, h0, r0⟩ := trodAll_cons hA
  obtain ⟨v1, vs1, d1, ds1, p1, q1, rfl, rfl, rfl, h1, r1⟩ := trodAll_cons r0
  obtain ⟨rfl, rfl, rfl⟩ := trodAll_nil r1
  obtain rfl : args = #[v0, v1] := by cases args; simp_all
  obtain ⟨rfl, rfl⟩ := trodVars_none hV
  have k0 := h0
  have lt0 : ∀ x ∈ p0, x.block < W.heap.size := by obtain ⟨m, hm⟩ := k0; exact DataW.trod_lt m _ _ _ hm
  have k1 := h1
  have lt1 : ∀ x ∈ p1, x.block < W.heap.size := by obtain ⟨m, hm⟩ := k1; exact DataW.trod_lt m _ _ _ hm
  obtain ⟨a0, len0, cap0, rfl⟩ := okWide_slice Try.underlying41 (hval 0 41 v0 rfl rfl)
  have hmax := slice_max Try.underlying41 (hval 0 41 _ rfl rfl)
  obtain ⟨f0, hf0⟩ := h0
  obtain ⟨x0, ⟨A0, c0, he0, hc0, hC0⟩, _⟩ := opens_63s _ _ _ _ _ _ _ _ _ hf0
  simp [Value.cells] at he0
  obtain ⟨rfl, rfl, rfl⟩ := he0
  obtain ⟨cs1, rfl, _⟩ := okWide_struct Try.underlying34 (hval 1 34 v1 rfl rfl)
  obtain ⟨f1, hf1⟩ := h1
  obtain ⟨x1, hK1, _⟩ := opens_34 _ _ _ _ _ _ _ _ _ hf1
  obtain ⟨A1, c1, he1, hc1, hC1⟩ := PAuditTells.k34_open hK1
  obtain rfl : cs1 = _ := Array.toList_inj.1 (he1.trans (List.toList_toArray).symm)
  clear hA0 hval0
  refine (leaksLaw_any x0 a0 cap0 W hC0 hc0 hmax _ _ _ _ _ _ _ A1 c1 _ _ _ _ _ _ _ _ _ _ _ _ hC1 hc1).mono fun e W' ⟨he, bel⟩ => ?_
  subst he
  exact ⟨_, rfl, _, _, _, [], _, [], hW', trodAll_mk1 (shut_bool Try.underlying4 _), (trodAll_cons_mk (Below.trod laidOutL (by kernel_rfl) (of_decide_eq_true (by kernel_rfl)) k0 bel lt0) (trodAll_cons_mk (Below.trod laidOutL (by kernel_rfl) (of_decide_eq_true (by kernel_rfl)) k1 bel lt1) trodAll_mk0)), rfl, bel.frame _, fun h => by cases h⟩

theorem aleaks_over : Rows.auditLeaksRow.holds Try.pinned (OpenSpec.ofChange Rows.auditLeaksSpec) :=
  OpenClaim.holds_of_wide 5 Try.f5 rfl rfl rfl rfl rfl rfl rfl ⟨rfl, rfl, rfl, rfl, rfl⟩ rfl rfl rfl rfl rfl (by kernel_rfl) Try.func5 (by kernel_rfl)
    (of_decide_eq_true (by kernel_rfl)) (by unfold Func.isWrapper; first | (rw [if_pos (by decide +kernel)]; kernel_rfl) | (rw [if_neg (by decide +kernel)]; exact ⟨rfl, rfl⟩))
    (fun os started H enc _ => aleaks_lifted os started H enc)

/-- The statement. -/
theorem aleaks_proved : Rows.AuditLeaksSaid := aleaks_over
#print axioms aleaks_proved
end Go.Proofs.Ytmjedjhgomlfiaa
