/- slices.Backward's closure: for every loop body. -/
import Derived.Test.YtmjedjhgomlfiaaRPlan
import Derived.Test.YtmjedjhgomlfiaaHeldIn
import Derived.RangeFuncNested
import Derived.RangeFuncLeaves
import Derived.TacticsInMore
import Derived.LoopIn
namespace Go.Proofs.Ytmjedjhgomlfiaa
open Go.RowKit Go.Proofs.YtmjedjhgomlfiaaW.PrintWords Go.Proofs.Ytmjedjhgomlfiaa.PAuditTells

def v57 (x : S57) : Value := .agg #[.int .i64 x.f0, .int .i64 x.f1, .int .i64 x.f2, .bool x.f3, .bool x.f4]
def v55 (x : S55) : Value := .agg #[.int .i64 x.f0, .int .i64 x.f1, .bool x.f2]

set_option maxRecDepth 100000 in
set_option maxHeartbeats 2000000 in
theorem back_in (n l Bs : Nat) (A : Option Addr) (c : Nat) (zs : List S57) (hzl : zs.length ≤ 1000000) (J : Nat → World → Prop)
    (hJ : ∀ k W, J k W → W.cell? ⟨Bs, 0, none⟩ = some (.slice A zs.length c) ∧ Kd.C k57 W A zs.length zs)
    (hY : ∀ (k : Nat) (x : S57) W, zs[k]? = some x → J (k + 1) W → YieldAt Fence.wide (n - 1) Try.prog l #[.int .i64 k, v57 x] W fun e W' => e = .returned (.bool true) ∧ J k W')
    (W : World) (h0 : J zs.length W) :
    CallsIn Fence.wide n Try.prog 58 #[.func (.yield l) #[] #[], .pointer (some ⟨Bs, 0, none⟩)] W fun e W' => (∃ v, e = .returned v) ∧ J 0 W' := by
  refine callsIn_of_wp Try.func58 rfl trivial ?_ rfl
  simp only [Try.ntmps58, List.size_toArray, List.length_cons, List.length_nil, Nat.reduceAdd, Nat.reduceSub, Array.replicate_succ, Array.replicate_zero, List.push_toArray, List.append_toArray, List.nil_append, List.cons_append]
  have hB0 := (hJ _ _ h0).1
  gi_wp2
  gi_loopw [3] (fun i wr => ∃ k : Nat, k ≤ zs.length ∧ i = .int .i64 ((k : Int) - 1) ∧ J k wr) (fun i _ => (intOf i + 1).toNat)
  case atStart => exact ⟨zs.length, Nat.le_refl _, by go_num, h0⟩
  case round =>
    obtain ⟨k, hk, rfl, hJk⟩ := hrel
    rcases k with _ | j
    · rw [show (((0 : Nat) : Int) - 1) = -1 from rfl]
      gi_wp2
      go_end0
      exact ⟨⟨_, rfl⟩, hJk⟩
    · obtain ⟨hBs, hC⟩ := hJ _ _ hJk
      obtain ⟨ad, e, rfl, HX, c0, c1, c2, c3, c4⟩ := el_T57 hC j (by omega)
      obtain ⟨fn, tmps, assign, body, hy, hR⟩ := hY j e wr HX.out hJk
      have hj0 : ¬ ((j : Int) + 1 - 1 < 0) := by omega
      dsimp only [v57] at hy
      gi_wp2
      refine ⟨fun h => absurd h (by simp [Fence.wide]), hR.mono ?_⟩
      rintro _ W3 ⟨rfl, hJ3⟩
      gi_wp2
      go_roundw
      case rel => exact ⟨j, by omega, by go_num, hJ3⟩
      case measure => simp [intOf]
end Go.Proofs.Ytmjedjhgomlfiaa
