/- op.Code: a name's code. -/
import Derived.Test.YtmjedjhgomlfiaaGreatDoorOpBase
import Derived.Test.YtmjedjhgomlfiaaGreatDoorBase
import Derived.Test.YtmjedjhgomlfiaaGreatDoorJoins
namespace Go.Proofs.YtmjedjhgomlfiaaGreatDoor
open Go.RowKit Go.Proofs.YtmjedjhgomlfiaaGreatDoorW.PrintWords Go.Lib

section
variable {P : Program}
/-- An array's element, of one cell, at a place within. -/
theorem run_index_cell (w : World) (t e : TypeId) (n : Nat) (cs : Array Value) (k : IntKind) (j : Nat) (v : Value) (h : P.underlying t = some (.array n e)) (hj : j < n) (hs : (P.info? e).map (·.size) = some 1)
    (hp : ∀ off, cs[off]? = some v → (part e cs off).run P w = .ok v w) (hv : cs[j]? = some v) : (Instr.index t (.agg cs) (.int k (j : Int))).run P w = .ok v w := by
  cases hq : P.info? e with
  | none => simp [hq] at hs
  | some i =>
    have hi : i.size = 1 := by simpa [hq] using hs
    have hb : (0 : Int) ≤ j ∧ (j : Int) < n := by omega
    simp [Instr.index, run_underlying h, asIntOf, hb, hj, sizeOf, typeInfo, hq, hi, Sem.run_bind, hp j hv]
theorem run_part_cell {e : TypeId} (w : World) {d : TypeDesc} (hu : P.underlying e = some d) (hd : (match d with | .struct _ | .array _ _ => true | _ => false) = false) {xs : Array Value} {off : Nat} {v : Value} (hx : xs[off]? = some v) : (part e xs off).run P w = .ok v w := by
  cases d <;> simp at hd <;> simp [part, isAgg, run_underlying hu, hx]
end

/-- The first place from j on, behind the first, where a text stands. -/
def codeAt : List ByteArray → Nat → ByteArray → Int
  | [], _, _ => 0
  | n :: r, j, x => if 0 < j ∧ n = x then (j : Int) else codeAt r (j + 1) x
def codeW (x : ByteArray) : Int := codeAt opNames 0 x

theorem names_load (w : World) (hO : LayO w) : ∀ j v, (opNames.map Value.string)[j]? = some v → w.cell? ((⟨0, 0, none⟩ : Addr).add j) = some v := by
  intro j v hv
  rw [List.getElem?_map] at hv
  obtain ⟨x, hx, rfl⟩ := Option.map_eq_some_iff.1 hv
  have := hO.name hx
  rw [Lib.add_plain]
  simpa using this

set_option maxRecDepth 100000 in
theorem code_any (s : ByteArray) (w : World) (hO : LayO w) : Calls Tryz.prog 60 #[.string s] w fun e w' => e = .returned (.int .i64 (codeW s)) ∧ w' = w := by
  have HC := hide_ (names_load w hO)
  have hlen := opNames_length
  have hC : Hid (codeAt (opNames.drop 0) 0 s = codeW s) := ⟨rfl⟩
  have HI : Hid ((Tryz.prog.info? 84).map (·.size) = some (opNames.map Value.string).length) := ⟨by kernel_rfl⟩
  generalize codeW s = res at *
  generalize opNames = ns at *
  go_enter Tryz.func60, Tryz.ntmps60
  go_wp2_with (refine gate_ (.load 84 (.global 0)) rfl ?_; refine wpList_load_list rfl 84 (.global 0) rfl ⟨0, 0, none⟩ rfl (ns.map Value.string) _ HC.out Tryz.underlying84 rfl HI.out ?_)
  go_loopw [6] (fun v wr => ∃ j : Nat, j ≤ 18 ∧ v = .int .i64 j ∧ wr = w ∧ Hid (codeAt (ns.drop j) j s = res)) (fun v _ => 18 - (intOf v).toNat)
  case atStart => exact ⟨0, by omega, rfl, rfl, hC⟩
  case round =>
    obtain ⟨j, hj, rfl, rfl, hC⟩ := hrel
    by_cases hlt : j < 18
    · obtain ⟨x, hx⟩ : ∃ x, ns[j]? = some x := ⟨_, List.getElem?_eq_getElem (by omega)⟩
      have hE : (ns.map Value.string).toArray[j]? = some (.string x) := by simp [hx]
      have hD : Hid (codeAt (ns.drop j) j s = if 0 < j ∧ x = s then (j : Int) else codeAt (ns.drop (j + 1)) (j + 1) s) := ⟨by
        have h := List.getElem?_eq_some_iff.1 hx
        rw [List.drop_eq_getElem_cons h.1, h.2, codeAt]⟩
      have hix : ∀ W, (Instr.index 84 (.agg (ns.map Value.string).toArray) (.int .i64 (j : Int))).run Tryz.prog W = .ok (.string x) W := fun W =>
        run_index_cell W 84 9 18 _ .i64 j _ Tryz.underlying84 hlt (by kernel_rfl) (fun off h => run_part_cell W Tryz.underlying9 rfl h) hE
      by_cases h0 : 0 < j
      · by_cases hxs : x = s
        · have hb : (x.toList == s.toList) = true := by rw [hxs]; exact beq_self_eq_true _
          have HR : Hid (res = (j : Int)) := ⟨by
            have h := hC.out
            rw [hD.out, if_pos ⟨h0, hxs⟩] at h
            exact h.symm⟩
          clear hxs hx hE
          go_wp2
          go_ret
          exact ⟨by first | trivial | (rw [HR.out]; rfl), rfl⟩
        · have hb : (x.toList == s.toList) = false := by
            rw [beq_eq_false_iff_ne]; intro h; exact hxs (toList_inj h)
          have HR : Hid (codeAt (ns.drop (j + 1)) (j + 1) s = res) := ⟨by
            have h := hC.out
            rw [hD.out, if_neg (fun q => hxs q.2)] at h
            exact h⟩
          clear hxs hx hE
          go_wp2
          go_roundw
          case rel => exact ⟨j + 1, by omega, by go_num, trivial, HR⟩
          case measure => simp [intOf]; omega
      · have HR : Hid (codeAt (ns.drop (j + 1)) (j + 1) s = res) := ⟨by
          have h := hC.out
          rw [hD.out, if_neg (fun q => h0 q.1)] at h
          exact h⟩
        obtain rfl : j = 0 := by omega
        have hix' : ∀ W, (Instr.index 84 (.agg (ns.map Value.string).toArray) (.int .i64 0)).run Tryz.prog W = .ok (.string x) W := hix
        clear hx hE hix
        go_wp2
        go_roundw
        case rel => exact ⟨1, by omega, rfl, trivial, HR⟩
        case measure => simp [intOf]
    · obtain rfl : j = 18 := by omega
      have HR : Hid (res = 0) := ⟨by
        have h := hC.out
        rw [List.drop_eq_nil_of_le (by omega), codeAt] at h
        exact h.symm⟩
      go_wp2
      go_ret
      exact ⟨by first | trivial | (rw [HR.out]; rfl), rfl⟩
end Go.Proofs.YtmjedjhgomlfiaaGreatDoor
