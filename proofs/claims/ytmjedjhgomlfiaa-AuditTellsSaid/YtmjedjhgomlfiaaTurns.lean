/- The document's turns of a path: what the Go function answers. It writes nothing that was there. -/
import Derived.Test.YtmjedjhgomlfiaaPairs
namespace Go.Proofs.Ytmjedjhgomlfiaa
open Go.RowKit Go.Proofs.YtmjedjhgomlfiaaW.PrintWords Go.Proofs.Ytmjedjhgomlfiaa.PAuditTells

/-- The turns down from place i. -/
def downT (l : List S57) : Nat → List S55
  | 0 => []
  | i + 1 => ⟨i, if (l.getD i z57).f1 = 0 then 1 else 2, true⟩ :: downT l i
/-- The turn at a place on the way up. -/
def upOne (l : List S57) (b : Bool) (i : Nat) : List S55 := if (l.getD i z57).f1 = 0 then (if b = true then [⟨i, 3, false⟩] else []) else [⟨i, 2, false⟩]
/-- The turns up from place i, of m places. -/
def upT (l : List S57) (b : Bool) : Nat → Nat → List S55
  | _, 0 => []
  | i, m + 1 => upOne l b i ++ upT l b (i + 1) m
/-- The turns of a path. -/
def turnsW (l : List S57) (b : Bool) : List S55 := downT l l.length ++ upT l b 0 l.length
theorem downT_length (l : List S57) : ∀ k, (downT l k).length = k
  | 0 => rfl
  | k + 1 => by rw [downT, List.length_cons, downT_length]
theorem upOne_length (l : List S57) (b : Bool) (i : Nat) : (upOne l b i).length ≤ 1 := by
  unfold upOne; split
  · split <;> simp
  · simp
theorem upT_length (l : List S57) (b : Bool) : ∀ m i, (upT l b i m).length ≤ m
  | 0, i => Nat.le_refl _
  | m + 1, i => by
    rw [upT, List.length_append]
    have := upOne_length l b i
    have := upT_length l b m (i + 1)
    omega
theorem turnsW_length (l : List S57) (b : Bool) : (turnsW l b).length ≤ 2 * l.length := by
  rw [turnsW, List.length_append, downT_length]
  have := upT_length l b l.length 0
  omega
theorem info55' : (Try.prog.info? 55).map (fun i => (i.zero, i.size, i.bytes)) = some (some (.agg #[.int .i64 0, .int .i64 0, .bool false]), 3, 24) := by kernel_rfl

set_option maxRecDepth 100000 in
set_option maxHeartbeats 3200000 in
theorem turns_any (l : List S57) (A : Option Addr) (c : Nat) (b : Bool) (w : World) (hl : Kd.C k57 w A l.length l) (hll : l.length ≤ 1000000) :
    Calls Try.prog 24 #[.slice A l.length c, .bool b] w fun e w' => ∃ v, e = .returned v ∧ k55.R 55 w' w.heap.size (fun _ => True) v (turnsW l b) ∧ Below w.heap.size w w' := by
  go_enter Try.func24, Try.ntmps24
  go_wp2
  go_loopw [6, 5] (fun iv lv wr => ∃ (k : Nat) (v0 : Value) (done : List S55), k ≤ l.length ∧ iv = .int .i64 ((k : Int) - 1) ∧ v0 = lv ∧ k55.R 55 wr w.heap.size (fun _ => True) v0 done ∧ Hid (done ++ downT l k = downT l l.length) ∧ done.length + k = l.length ∧ Below w.heap.size w wr) (fun iv _ _ => (intOf iv + 1).toNat)
  case atStart => exact ⟨l.length, _, [], Nat.le_refl _, by go_num, rfl, Kd.R_nil _ _ _ _ _, rfl, by simp, Below.refl _ _⟩
  case round =>
    obtain ⟨k, v, done, hk, rfl, rfl, hR, HD, hdl, hB⟩ := hrel
    rcases k with _ | j
    · have HD1 := hide_ (show done = downT l l.length by have h := HD.out; rw [downT, List.append_nil] at h; exact h)
      clear HD
      rw [show (((0 : Nat) : Int) - 1) = -1 from rfl]
      go_wp2
      go_loopw [8, 5] (fun iv lv wr => ∃ (j : Nat) (v0 : Value) (done : List S55), j ≤ l.length ∧ iv = .int .i64 j ∧ v0 = lv ∧ k55.R 55 wr w.heap.size (fun _ => True) v0 done ∧ Hid (done ++ upT l b j (l.length - j) = turnsW l b) ∧ done.length ≤ l.length + j ∧ Below w.heap.size w wr) (fun iv _ _ => l.length - (intOf iv).toNat)
      case atStart => exact ⟨0, v, done, Nat.zero_le _, rfl, rfl, hR, by rw [HD1.out]; rfl, by omega, hB⟩
      case round =>
        clear hR HD1 hdl hB
        obtain ⟨j, v, done, hj, rfl, rfl, hR, HD, hdl, hB⟩ := hrel
        by_cases hlt : j < l.length
        · obtain ⟨ad, e, rfl, HX, c0, c1, _, _, _⟩ := el_T57 (Kd.C_below hl hB) j hlt
          have hge : l.getD j z57 = e := by rw [List.getD, HX.out]; rfl
          have HN := hide_ (show upT l b j (l.length - j) = (if e.f1 = 0 then (if b = true then [⟨j, 3, false⟩] else []) else [⟨j, 2, false⟩]) ++ upT l b (j + 1) (l.length - (j + 1)) by
            rw [show l.length - j = (l.length - (j + 1)) + 1 by omega, upT, upOne, hge])
          clear hge
          by_cases h1 : e.f1 = 0
          · have h1b : (e.f1 != 0) = false := by simp [h1]
            cases b with
            | true =>
              have HN2 := hide_ (show upT l true j (l.length - j) = [⟨j, 3, false⟩] ++ upT l true (j + 1) (l.length - (j + 1)) by rw [HN.out]; rw [if_pos h1, if_pos rfl])
              clear h1 HN
              go_wp2_with (first | (at_builtin; refine Kd.R_append k55 (w0 := w) w.heap.size rfl (.tmp 47) (.tmp 50) 58 55 _ 24 rfl Try.underlying58 info55' rfl (by decide) (by decide) v done ⟨j, 3, false⟩ _ (fun _ => True) (fun _ => False) rfl rfl (k55_mkM _ _ _ _) (fun _ hk => hk.elim) (fun _ _ => trivial) hR hB hB.size (by omega) ?_; intro v1 w2 hR1 hB2 hg2 hat2; clear hg2 hat2))
              go_roundw
              case rel => exact ⟨j + 1, v1, _, hlt, by go_num, rfl, hR1, by rw [List.append_assoc, ← HN2.out]; exact HD, by simp; omega, hB2⟩
              case measure => simp [intOf]; omega
            | false =>
              have HN2 := hide_ (show upT l false j (l.length - j) = upT l false (j + 1) (l.length - (j + 1)) by rw [HN.out, if_pos h1]; rfl)
              clear h1 HN
              go_wp2
              go_roundw
              case rel => exact ⟨j + 1, v, _, hlt, by go_num, rfl, hR, by rw [← HN2.out]; exact HD, by omega, hB⟩
              case measure => simp [intOf]; omega
          · have h1b : (e.f1 != 0) = true := by simp [h1]
            have HN2 := hide_ (show upT l b j (l.length - j) = [⟨j, 2, false⟩] ++ upT l b (j + 1) (l.length - (j + 1)) by rw [HN.out]; rw [if_neg h1])
            clear h1 HN
            go_wp2_with (first | (at_builtin; refine Kd.R_append k55 (w0 := w) w.heap.size rfl (.tmp 41) (.tmp 44) 58 55 _ 24 rfl Try.underlying58 info55' rfl (by decide) (by decide) v done ⟨j, 2, false⟩ _ (fun _ => True) (fun _ => False) rfl rfl (k55_mkM _ _ _ _) (fun _ hk => hk.elim) (fun _ _ => trivial) hR hB hB.size (by omega) ?_; intro v1 w2 hR1 hB2 hg2 hat2; clear hg2 hat2))
            go_roundw
            case rel => exact ⟨j + 1, v1, _, hlt, by go_num, rfl, hR1, by rw [List.append_assoc, ← HN2.out]; exact HD, by simp; omega, hB2⟩
            case measure => simp [intOf]; omega
        · have HZ := hide_ (show done = turnsW l b by
            have h := HD.out
            rw [show l.length - j = 0 by omega, upT, List.append_nil] at h
            exact h)
          go_wp2
          go_ret
          exact ⟨v, rfl, by rw [← HZ.out]; exact hR, hB⟩
    · obtain ⟨ad, e, rfl, HX, c0, c1, _, _, _⟩ := el_T57 (Kd.C_below hl hB) j (by omega)
      have hge : l.getD j z57 = e := by rw [List.getD, HX.out]; rfl
      have HN := hide_ (show downT l (j + 1) = ⟨j, if e.f1 = 0 then 1 else 2, true⟩ :: downT l j by rw [downT, hge])
      clear hge
      have hc1 : ∀ X, (wr.alloc X).cell? ⟨(ad.add (j * 5)).block, (ad.add (j * 5)).off + 1, none⟩ = some (.int .i64 e.f1) := fun X => pw_cell_below (below_alloc (Below.refl _ _) _) c1
      have hj0 : ¬ ((j : Int) + 1 - 1 < 0) := by omega
      by_cases h1 : e.f1 = 0
      · have h1b : (e.f1 != 0) = false := by simp [h1]
        have HN2 := hide_ (show downT l (j + 1) = ⟨j, 1, true⟩ :: downT l j by rw [HN.out, if_pos h1])
        have hcx := hc1 (.cells #[.int .i64 j, .int .i64 1, .bool true] 55)
        clear h1 HN
        go_wp2_with (first
          | (at_builtin; refine Kd.R_append k55 (w0 := w) w.heap.size rfl (.tmp 25) (.tmp 27) 58 55 _ 24 rfl Try.underlying58 info55' rfl (by decide) (by decide) v done ⟨j, 1, true⟩ _ (fun _ => True) (fun _ => False) rfl (by rw [World.size_alloc]; rfl) (k55_mkM _ _ _ _) (fun _ hk => hk.elim) (fun _ _ => trivial) (Kd.R_alloc hR _) (below_alloc hB _) (below_alloc hB _).size (by omega) ?_; intro v1 w2 hR1 hB2 hg2 hat2; clear hg2 hat2))
        go_roundw
        case rel => exact ⟨j, v1, _, by omega, rfl, rfl, hR1, by rw [List.append_assoc, List.singleton_append, ← HN2.out]; exact HD, by simp; omega, hB2⟩
        case measure => simp [intOf]
      · have h1b : (e.f1 != 0) = true := by simp [h1]
        have HN2 := hide_ (show downT l (j + 1) = ⟨j, 2, true⟩ :: downT l j by rw [HN.out, if_neg h1])
        have hcx := hc1 (.cells #[.int .i64 j, .int .i64 1, .bool true] 55)
        clear h1 HN
        go_wp2_with (first
          | (at_builtin; refine Kd.R_append k55 (w0 := w) w.heap.size rfl (.tmp 25) (.tmp 27) 58 55 _ 24 rfl Try.underlying58 info55' rfl (by decide) (by decide) v done ⟨j, 2, true⟩ _ (fun _ => True) (fun _ => False) rfl (by rw [World.size_alloc]; rfl) (k55_mkM _ _ _ _) (fun _ hk => hk.elim) (fun _ _ => trivial) (Kd.R_alloc hR _) (below_alloc hB _) (below_alloc hB _).size (by omega) ?_; intro v1 w2 hR1 hB2 hg2 hat2; clear hg2 hat2))
        go_roundw
        case rel => exact ⟨j, v1, _, by omega, rfl, rfl, hR1, by rw [List.append_assoc, List.singleton_append, ← HN2.out]; exact HD, by simp; omega, hB2⟩
        case measure => simp [intOf]
end Go.Proofs.Ytmjedjhgomlfiaa
