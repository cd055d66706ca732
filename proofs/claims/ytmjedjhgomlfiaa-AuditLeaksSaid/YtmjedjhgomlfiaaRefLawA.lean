/- ref's forests are the program's: plain law, first part. -/
import Derived.Test.YtmjedjhgomlfiaaForWFs
import Derived.Test.YtmjedjhgomlfiaaForMk
import Derived.Test.YtmjedjhgomlfiaaRefFor3
set_option linter.unusedSimpArgs false
set_option linter.unusedVariables false
namespace Go.Proofs.Ytmjedjhgomlfiaa
open Go.RowKit Go.Proofs.YtmjedjhgomlfiaaW.PrintWords Go.Proofs.YtmjedjhgomlfiaaW.PrintLast Go.Proofs.Ytmjedjhgomlfiaa.PAuditLeaks

/-- With fuel enough. -/
def Ev {α : Type} (f : Nat → Option α) (r : α) : Prop := ∃ K, ∀ k, K ≤ k → f k = some r
theorem Ev.of_mono {α : Type} {f : Nat → Option α} {r : α} (hm : ∀ k, LeO (f k) (f (k + 1))) {K : Nat} (h : f K = some r) : Ev f r := by
  refine ⟨K, fun k hk => ?_⟩
  obtain ⟨d, rfl⟩ := Nat.exists_eq_add_of_le hk
  clear hk
  induction d with
  | zero => exact h
  | succ d ih => exact hm _ _ ih
theorem there_some {l : List S61} {a : Int} {x : S61} (h : nodeF l a = some x) : towncrierref04_There.f l a = some true := by
  have := nodeF_range h
  unfold towncrierref04_There.f
  rw [if_pos (by omega)]
  simp; omega
theorem there_none {l : List S61} {a : Int} (h : nodeF l a = none) : towncrierref04_There.f l a = some false := by
  have := nodeF_none h
  unfold towncrierref04_There.f
  split
  · simp; omega
  · rfl
theorem nd {l : List S61} {a : Int} {x : S61} (h : nodeF l a = some x) (h128 : l.length ≤ 128) : 0 ≤ wrap64 (a - 1) ∧ wrap64 (a - 1) < (l.length : Int) ∧ rd_T61 l (wrap64 (a - 1)) = x ∧ (wrap64 (a - 1)).toNat = (a - 1).toNat := by
  have hr := nodeF_range h
  have hg := nodeF_get h
  rw [IntWalk.wrap64_in _ (by omega)]
  refine ⟨by omega, by omega, ?_, rfl⟩
  unfold rd_T61
  rw [List.getD_eq_getElem?_getD, hg]
  rfl
theorem copy_to (l : List S61) (hl : l.length ≤ 1000) (hk : ∀ x ∈ l, x.f8.length ≤ 100000) : ∀ (m j : Nat), j + m = l.length → ∀ k, m + 1 ≤ k → towncrierref04_Copy.l0 k l l (j : Int) = some l
  | 0, j, h, k, hk' => by
    obtain ⟨k, rfl⟩ : ∃ k2, k = k2 + 1 := ⟨k - 1, by omega⟩
    rw [towncrierref04_Copy.l0, if_neg (by omega)]
  | m + 1, j, h, k, hk' => by
    obtain ⟨k, rfl⟩ : ∃ k2, k = k2 + 1 := ⟨k - 1, by omega⟩
    have hlt : j < l.length := by omega
    have hx : rd_T61 l (j : Int) = l[j] := by simp [rd_T61, hlt]
    have hb := hk l[j] (List.getElem_mem hlt)
    rw [towncrierref04_Copy.l0, if_pos (by omega)]
    simp only [Option.bind_some, List.nil_append, List.length_nil]
    rw [if_pos (by omega), if_pos (by omega), if_pos (by rw [hx]; omega)]
    have hset : l.set (j : Int).toNat ⟨(rd_T61 l j).f0, (rd_T61 l j).f1, (rd_T61 l j).f2, (rd_T61 l j).f3, (rd_T61 l j).f4, (rd_T61 l j).f5, (rd_T61 l j).f6, (rd_T61 l j).f7, (rd_T61 l j).f8⟩ = l := by
      rw [hx, Int.toNat_natCast]
      exact List.set_getElem_self hlt
    rw [hset, IntWalk.wrap64_in _ (by omega), show ((j : Int) + 1) = ((j + 1 : Nat) : Int) by omega]
    exact copy_to l hl hk m (j + 1) (by omega) k (by omega)
theorem copy_f {l : List S61} (hl : l.length ≤ 1000) (hk : ∀ x ∈ l, x.f8.length ≤ 100000) : Ev (fun k => towncrierref04_Copy.f k l) l := by
  refine ⟨l.length + 1, fun k hk' => ?_⟩
  show towncrierref04_Copy.f k l = _
  unfold towncrierref04_Copy.f
  simp only [Option.bind_some, List.nil_append, List.length_nil]
  rw [if_pos (by omega)]
  exact copy_to l hl hk l.length 0 (by omega) k hk'
theorem named_f (s : ByteArray) : Ev (fun k => towncrierref04_named.f k s) (namedW s) := by
  obtain ⟨K, hK⟩ := right_f s
  refine Ev.of_mono (fun k => towncrierref04_named.mono s k) (K := K) ?_
  show towncrierref04_named.f K s = _
  unfold towncrierref04_named.f namedW
  by_cases h : s.toList = []
  · rw [if_pos h, h]; rfl
  · rw [if_neg h, hK]; simp [h]
theorem has_to (xs : List Int) (a : Int) (hl : xs.length ≤ 4294967296) : ∀ (m j : Nat), j + m = xs.length → ∀ k, m + 1 ≤ k → towncrierref01_Has.l0 k xs a (j : Int) = some (decide (a ∈ xs.drop j))
  | 0, j, h, k, hk => by
    obtain ⟨k, rfl⟩ : ∃ k2, k = k2 + 1 := ⟨k - 1, by omega⟩
    rw [towncrierref01_Has.l0, if_neg (by omega), List.drop_eq_nil_of_le (by omega)]
    rfl
  | m + 1, j, h, k, hk => by
    obtain ⟨k, rfl⟩ : ∃ k2, k = k2 + 1 := ⟨k - 1, by omega⟩
    have hlt : j < xs.length := by omega
    have hr : rd xs (j : Int) = xs[j] := by simp [rd, hlt]
    rw [towncrierref01_Has.l0, if_pos (by omega), if_pos (by omega), hr, List.drop_eq_getElem_cons hlt]
    by_cases e : xs[j] = a
    · rw [if_pos e]; simp [e]
    · rw [if_neg e, IntWalk.wrap64_in _ (by omega), show ((j : Int) + 1) = ((j + 1 : Nat) : Int) by omega, has_to xs a hl m (j + 1) (by omega) k (by omega)]
      simp only [List.mem_cons, Ne.symm e, false_or]
theorem has_f (xs : List Int) (a : Int) (hl : xs.length ≤ 4294967296) : Ev (fun k => towncrierref01_Has.f k xs a) (decide (a ∈ xs)) :=
  ⟨xs.length + 1, fun k hk => has_to xs a hl xs.length 0 (by omega) k hk⟩
theorem over_to {l : List S61} (h128 : l.length ≤ 128) : ∀ (m : Nat) (id : Int) (o : List Int) (j : Nat), EndsO l m id → j + m ≤ l.length → o.length = j → ∀ k, 2 * m + 2 ≤ k → towncrierref04_Over.l0 k l id o (j : Int) = some (o ++ overL l m id)
  | m, id, o, j, he, hj, ho, k, hk => by
    obtain ⟨k, rfl⟩ : ∃ k2, k = k2 + 2 := ⟨k - 2, by omega⟩
    rw [towncrierref04_Over.l0, if_pos (by omega)]
    cases hn : nodeF l id with
    | none =>
      rw [there_none hn, overL_none hn, Option.bind_some, towncrierref04_Over.j1, if_neg (by simp), List.append_nil]
    | some x =>
      cases m with
      | zero => exact absurd (show nodeF l id = none from he) (by rw [hn]; simp)
      | succ m =>
        obtain ⟨n1, n2, n3, n4⟩ := nd hn h128
        have he' := he x hn
        rw [there_some hn, Option.bind_some, towncrierref04_Over.j1, if_pos rfl, if_pos (by omega), Option.bind_some, if_pos n1, if_pos n2, n3, IntWalk.wrap64_in _ (by omega), show ((j : Int) + 1) = ((j + 1 : Nat) : Int) by omega, overL_some hn]
        unfold ovF at he' ⊢
        by_cases h0 : x.f1 = 0
        · rw [if_pos h0] at he' ⊢
          rw [if_pos h0, over_to h128 m _ _ (j + 1) he' (by omega) (by simp [ho]) k (by omega)]
          simp
        · rw [if_neg h0] at he' ⊢
          rw [if_neg h0, over_to h128 m _ _ (j + 1) he' (by omega) (by simp [ho]) k (by omega)]
          simp
theorem over_f {l : List S61} (h128 : l.length ≤ 128) (id : Int) (he : EndsO l l.length id) : Ev (fun k => towncrierref04_Over.f k l id) (overL l l.length id) :=
  ⟨2 * l.length + 2, fun k hk => by
    have := over_to h128 l.length id [] 0 he (by omega) rfl k hk
    rw [List.nil_append] at this
    exact this⟩
theorem overL_length {l : List S61} : ∀ (k : Nat) (id : Int), (overL l k id).length ≤ k
  | 0, _ => Nat.le_refl _
  | k + 1, id => by
    rw [overL]
    cases nodeF l id with
    | none => simp
    | some x => simp only [List.length_cons]; have := overL_length (l := l) k (ovF x); omega
theorem name_f {l : List S61} (h128 : l.length ≤ 128) (hk : ∀ x ∈ l, x.f8.length ≤ 100000) (id : Int) (s : ByteArray) : ∃ v, Ev (fun k => towncrierref04_Name.f k l id s) (nameF l id s, v) := by
  obtain ⟨K1, hc⟩ := copy_f (by omega) hk
  obtain ⟨K2, hm⟩ := named_f s
  cases hn : nodeF l id with
  | none =>
    refine ⟨1, 1, fun k hk => ?_⟩
    obtain ⟨k, rfl⟩ : ∃ k2, k = k2 + 1 := ⟨k - 1, by omega⟩
    simp only [towncrierref04_Name.f, there_none hn, Option.bind_some, nameF, hn]
    rw [if_neg (by simp), towncrierref04_Name.j0, if_pos rfl]
  | some x =>
    obtain ⟨n1, n2, n3, n4⟩ := nd hn h128
    refine ⟨if namedW s = true then if x.f5 = true then 0 else 2 else 1, K1 + K2 + 1, fun k hk => ?_⟩
    obtain ⟨k, rfl⟩ : ∃ k2, k = k2 + 1 := ⟨k - 1, by omega⟩
    have hm' := hm (k + 1) (by omega)
    have hc' := hc k (by omega)
    simp only at hm' hc'
    simp only [towncrierref04_Name.f, there_some hn, Option.bind_some, nameF, hn, if_pos, hm']
    cases hs : namedW s with
    | false => rw [towncrierref04_Name.j0, if_pos (show (!false) = true from rfl)]; simp
    | true =>
      rw [towncrierref04_Name.j0, if_neg (by simp), if_pos n1, if_pos n2, n3]
      cases h5 : x.f5 with
      | false => simp
      | true =>
        simp only [if_pos, hc', Option.bind_some]
        rw [if_pos n2, n3, n4]
        simp [h5]
theorem want_f {l : List S61} (h128 : l.length ≤ 128) (hk : ∀ x ∈ l, x.f8.length ≤ 100000) (id : Int) (s : ByteArray) : ∃ v, Ev (fun k => towncrierref04_Want.f k l id s) (wantF l id s, v) := by
  obtain ⟨K1, hc⟩ := copy_f (by omega) hk
  obtain ⟨K2, hm⟩ := named_f s
  cases hn : nodeF l id with
  | none =>
    refine ⟨1, 1, fun k hk => ?_⟩
    obtain ⟨k, rfl⟩ : ∃ k2, k = k2 + 1 := ⟨k - 1, by omega⟩
    simp only [towncrierref04_Want.f, there_none hn, Option.bind_some, wantF, hn]
    rw [if_neg (by simp), towncrierref04_Want.j0, if_pos rfl]
  | some x =>
    obtain ⟨n1, n2, n3, n4⟩ := nd hn h128
    refine ⟨if namedW s = true then if x.f0 = 2 then 0 else 2 else 1, K1 + K2 + 1, fun k hk => ?_⟩
    obtain ⟨k, rfl⟩ : ∃ k2, k = k2 + 1 := ⟨k - 1, by omega⟩
    have hm' := hm (k + 1) (by omega)
    have hc' := hc k (by omega)
    simp only at hm' hc'
    simp only [towncrierref04_Want.f, there_some hn, Option.bind_some, wantF, hn, if_pos, hm']
    cases hs : namedW s with
    | false => rw [towncrierref04_Want.j0, if_pos (show (!false) = true from rfl)]; simp
    | true =>
      rw [towncrierref04_Want.j0, if_neg (by simp), if_pos n1, if_pos n2, n3]
      by_cases h5 : x.f0 = 2
      · rw [if_pos h5, hc', Option.bind_some, if_pos n2, n3, n4]
        simp [h5]
      · simp [h5]
end Go.Proofs.Ytmjedjhgomlfiaa

set_option linter.unusedSimpArgs false
set_option linter.unusedVariables false
namespace Go.Proofs.Ytmjedjhgomlfiaa
open Go.RowKit Go.Proofs.YtmjedjhgomlfiaaW.PrintWords Go.Proofs.YtmjedjhgomlfiaaW.PrintLast Go.Proofs.Ytmjedjhgomlfiaa.PAuditLeaks

theorem tie_f {l : List S61} (h : WF l) (h128 : l.length ≤ 128) (a b : Int) : ∃ v, Ev (fun k => towncrierref04_Tie.f k l a b) (tieF l a b, v) := by
  cases hx : nodeF l a with
  | none =>
    refine ⟨1, 1, fun k hk => ?_⟩
    obtain ⟨k, rfl⟩ : ∃ k2, k = k2 + 1 := ⟨k - 1, by omega⟩
    simp only [towncrierref04_Tie.f, there_none hx, Option.bind_some, tieF_none b hx]
    rw [if_neg (by simp), towncrierref04_Tie.j0, if_pos rfl]
  | some x =>
    cases hy : nodeF l b with
    | none =>
      refine ⟨1, 1, fun k hk => ?_⟩
      obtain ⟨k, rfl⟩ : ∃ k2, k = k2 + 1 := ⟨k - 1, by omega⟩
      simp only [towncrierref04_Tie.f, there_some hx, there_none hy, Option.bind_some, tieF_none2 hx hy]
      rw [if_pos trivial, towncrierref04_Tie.j0, if_pos (show (!false) = true from rfl)]
    | some y =>
      obtain ⟨n1, n2, n3, n4⟩ := nd hx h128
      obtain ⟨m1, m2, m3, m4⟩ := nd hy h128
      have hdef := tieF_some hx hy
      obtain ⟨K1, hc⟩ := copy_f (by omega) h.kl
      obtain ⟨K2, ho⟩ := over_f h128 a (h.endsO a)
      obtain ⟨K3, hh⟩ := has_f (overL l l.length a) b (by have := overL_length (l := l) l.length a; omega)
      have start : ∀ k, towncrierref04_Tie.f k l a b = towncrierref04_Tie.j0 k l a b false := fun k => by
        simp only [towncrierref04_Tie.f, there_some hx, there_some hy, Option.bind_some, if_pos, Bool.not_true]
      have s0 : ∀ k, towncrierref04_Tie.j0 (k + 1) l a b false = if x.f0 = 2 then towncrierref04_Tie.j1 k l a b (y.f0 != 3) else towncrierref04_Tie.j1 k l a b true := fun k => by
        rw [towncrierref04_Tie.j0, if_neg (by simp), if_pos n1, if_pos n2, n3, if_pos m1, if_pos m2, m3]
      have s1 : ∀ k, towncrierref04_Tie.j1 (k + 1) l a b false = if x.f3 = 0 then towncrierref04_Tie.j2 k l a b (y.f2 != 0) else towncrierref04_Tie.j2 k l a b true := fun k => by
        rw [towncrierref04_Tie.j1, if_neg (by simp), if_pos n1, if_pos n2, n3, if_pos m1, if_pos m2, m3]
      by_cases c1 : x.f0 = 2
      rotate_left
      · refine ⟨2, 3, fun k hk => ?_⟩
        obtain ⟨k, rfl⟩ : ∃ k2, k = k2 + 2 := ⟨k - 2, by omega⟩
        show towncrierref04_Tie.f _ _ _ _ = _
        rw [start, s0, if_neg c1, towncrierref04_Tie.j1, if_pos rfl, hdef, if_neg c1]
      rw [if_pos c1] at hdef
      by_cases c2 : y.f0 = 3
      rotate_left
      · refine ⟨2, 3, fun k hk => ?_⟩
        obtain ⟨k, rfl⟩ : ∃ k2, k = k2 + 2 := ⟨k - 2, by omega⟩
        show towncrierref04_Tie.f _ _ _ _ = _
        rw [start, s0, if_pos c1, towncrierref04_Tie.j1, if_pos (by simpa using c2), hdef, if_neg c2]
      rw [if_pos c2] at hdef
      have d2 : (y.f0 != 3) = false := by simp [c2]
      by_cases c3 : x.f3 = 0
      rotate_left
      · refine ⟨6, 3, fun k hk => ?_⟩
        obtain ⟨k, rfl⟩ : ∃ k2, k = k2 + 3 := ⟨k - 3, by omega⟩
        show towncrierref04_Tie.f _ _ _ _ = _
        rw [start, s0, if_pos c1, d2, s1, if_neg c3, towncrierref04_Tie.j2, if_pos rfl, hdef, if_neg c3]
      rw [if_pos c3] at hdef
      by_cases c4 : y.f2 = 0
      rotate_left
      · refine ⟨6, 3, fun k hk => ?_⟩
        obtain ⟨k, rfl⟩ : ∃ k2, k = k2 + 3 := ⟨k - 3, by omega⟩
        show towncrierref04_Tie.f _ _ _ _ = _
        rw [start, s0, if_pos c1, d2, s1, if_pos c3, towncrierref04_Tie.j2, if_pos (by simpa using c4), hdef, if_neg c4]
      rw [if_pos c4] at hdef
      have d4 : (y.f2 != 0) = false := by simp [c4]
      by_cases c5 : b ∈ overL l l.length a
      · refine ⟨3, K1 + K2 + K3 + 3, fun k hk => ?_⟩
        obtain ⟨k, rfl⟩ : ∃ k2, k = k2 + 3 := ⟨k - 3, by omega⟩
        show towncrierref04_Tie.f _ _ _ _ = _
        have ho' := ho k (by omega)
        have hh' := hh k (by omega)
        simp only at ho' hh'
        rw [start, s0, if_pos c1, d2, s1, if_pos c3, d4, towncrierref04_Tie.j2, if_neg (by simp), ho', Option.bind_some, hh', Option.bind_some, if_pos (by simpa using c5), hdef, if_pos c5]
      · refine ⟨0, K1 + K2 + K3 + 3, fun k hk => ?_⟩
        obtain ⟨k, rfl⟩ : ∃ k2, k = k2 + 3 := ⟨k - 3, by omega⟩
        show towncrierref04_Tie.f _ _ _ _ = _
        have ho' := ho k (by omega)
        have hh' := hh k (by omega)
        have hc' := hc k (by omega)
        simp only at ho' hh' hc'
        have hab : a ≠ b := fun e => by subst e; rw [hx] at hy; obtain rfl := Option.some.inj hy; omega
        have hy2 : nodeF (l.set (a - 1).toNat { x with f3 := b }) b = some y := by rw [nodeF_set hx, if_neg (Ne.symm hab)]; exact hy
        obtain ⟨_, _, p3, _⟩ := nd hy2 (by simpa using h128)
        rw [start, s0, if_pos c1, d2, s1, if_pos c3, d4, towncrierref04_Tie.j2, if_neg (by simp), ho', Option.bind_some, hh', Option.bind_some, if_neg (by simpa using c5), hc', Option.bind_some, if_pos n1, if_pos n2, n3, n4, Option.bind_some, if_pos m1, if_pos m2, p3, m4, hdef, if_neg c5]
theorem make_f {l : List S61} (h128 : l.length ≤ 128) (hk : ∀ x ∈ l, x.f8.length ≤ 100000) (k0 p h s m : Int) (sl : Bool) (nm wt : ByteArray) (ks : List Int) : ∃ v1 v2, Ev (fun k => towncrierref04_Make.f k l k0 p h s m sl nm wt ks) (makeF l k0 m sl nm wt, v1, v2) := by
  obtain ⟨K1, hc⟩ := copy_f (l := l) (by omega) hk
  obtain ⟨K2, hn⟩ := named_f nm
  obtain ⟨K3, hw⟩ := named_f wt
  have e2 : ∀ (bad : Bool), ∃ v1 v2, ∀ k, K1 ≤ k → towncrierref04_Make.j2 (k + 1) l bad k0 p h s m sl nm wt ks = some ((if bad = true then l else if l.length < 128 then l ++ [⟨k0, 0, 0, 0, m, sl, nm, wt, []⟩] else l), v1, v2) := fun bad => by
    cases bad with
    | true => exact ⟨0, 1, fun k hk => by rw [towncrierref04_Make.j2, if_pos rfl]; rfl⟩
    | false =>
      by_cases hl : l.length < 128
      · refine ⟨((l.length + 1 : Nat) : Int), 0, fun k hk => ?_⟩
        have hc' := hc k hk
        simp only at hc'
        rw [towncrierref04_Make.j2, if_neg (by simp), if_neg (by omega), hc', Option.bind_some, Option.bind_some, if_pos (by simp; omega), Option.bind_some]
        simp [hl]
      · refine ⟨0, 9, fun k hk => ?_⟩
        rw [towncrierref04_Make.j2, if_neg (by simp), if_pos (by omega)]
        simp [hl]
  obtain ⟨bad2, hb2⟩ : ∃ bad2, bad2 = !((k0 == 2 || (!sl && wt.toList.isEmpty)) && ((sl || nm.toList.isEmpty) && (namedW nm && namedW wt))) := ⟨_, rfl⟩
  have e1 : ∀ k, K2 ≤ k → K3 ≤ k → towncrierref04_Make.j1 (k + 1) l false k0 p h s m sl nm wt ks = towncrierref04_Make.j2 k l bad2 k0 p h s m sl nm wt ks := fun k h2 h3 => by
    have hn' := hn k h2
    have hw' := hw k h3
    simp only at hn' hw'
    rw [towncrierref04_Make.j1, if_neg (by simp), hb2]
    by_cases c2 : k0 = 2
    · rw [if_pos c2]
      cases sl with
      | true =>
        rw [if_pos rfl, hn', Option.bind_some, hw', Option.bind_some]
        cases namedW nm <;> cases namedW wt <;> simp [c2]
      | false =>
        rw [if_neg (by simp)]
        by_cases en : nm.toList = []
        · rw [if_pos en, hn', Option.bind_some, hw', Option.bind_some]
          cases namedW nm <;> cases namedW wt <;> simp [c2, en]
        · rw [if_neg en]
          have en2 : nm.toList.isEmpty = false := by simpa using en
          simp [c2, en2]
    · rw [if_neg c2]
      have c22 : (k0 == 2) = false := by simpa using c2
      cases sl with
      | true =>
        rw [if_pos rfl]
        simp [c22]
      | false =>
        rw [if_neg (by simp)]
        by_cases ew : wt.toList = []
        · rw [if_pos ew]
          by_cases en : nm.toList = []
          · rw [if_pos en, hn', Option.bind_some, hw', Option.bind_some]
            cases namedW nm <;> cases namedW wt <;> simp [c22, en, ew]
          · rw [if_neg en]
            have en2 : nm.toList.isEmpty = false := by simpa using en
            simp [c22, en2, ew]
        · rw [if_neg ew]
          have ew2 : wt.toList.isEmpty = false := by simpa using ew
          simp [c22, ew2]
  obtain ⟨bad1, hb1⟩ : ∃ bad1, bad1 = (if k0 = 3 then !(m == 1 || m == 2) else m != 0) := ⟨_, rfl⟩
  have e0 : ∀ k, towncrierref04_Make.j0 (k + 1) l false k0 p h s m sl nm wt ks = towncrierref04_Make.j1 k l bad1 k0 p h s m sl nm wt ks := fun k => by
    rw [towncrierref04_Make.j0, if_neg (by simp), hb1]
    by_cases c3 : k0 = 3
    · rw [if_pos c3, if_pos c3]
      by_cases m1 : m = 1
      · rw [if_pos m1]; simp [m1]
      · rw [if_neg m1]
        by_cases m2 : m = 2
        · rw [if_pos m2]; simp [m2]
        · have q1 : (m == 1) = false := by simpa using m1
          have q2 : (m == 2) = false := by simpa using m2
          rw [if_neg m2, q1, q2]; rfl
    · rw [if_neg c3, if_neg c3]
  have hok : okN k0 m sl nm wt = (decide (1 ≤ k0) && (decide (k0 ≤ 4) && (!bad1 && !bad2))) := by
    rw [hb1, hb2]
    unfold okN
    rw [Bool.not_not]
    by_cases c3 : k0 = 3
    · rw [if_pos c3, if_pos c3]; simp
    · rw [if_neg c3, if_neg c3]
      unfold bne
      rw [Bool.not_not]
  by_cases g1 : k0 < 1
  · refine ⟨0, 2, 1, fun k hk => ?_⟩
    obtain ⟨k, rfl⟩ : ∃ k2, k = k2 + 1 := ⟨k - 1, by omega⟩
    show towncrierref04_Make.f _ _ _ _ _ _ _ _ _ _ _ = _
    have : ¬ (1 ≤ k0) := by omega
    rw [towncrierref04_Make.f, if_pos g1, towncrierref04_Make.j0, if_pos rfl, makeF, hok]
    simp [this]
  by_cases g4 : k0 > 4
  · refine ⟨0, 2, 1, fun k hk => ?_⟩
    obtain ⟨k, rfl⟩ : ∃ k2, k = k2 + 1 := ⟨k - 1, by omega⟩
    show towncrierref04_Make.f _ _ _ _ _ _ _ _ _ _ _ = _
    have : ¬ (k0 ≤ 4) := by omega
    rw [towncrierref04_Make.f, if_neg g1, towncrierref04_Make.j0, if_pos (by simpa using g4), makeF, hok]
    simp [this]
  have q1 : 1 ≤ k0 := by omega
  have q4 : k0 ≤ 4 := by omega
  have qd : decide (k0 > 4) = false := by simpa using q4
  cases hbb : bad1 with
  | true =>
    refine ⟨0, 1, 2, fun k hk => ?_⟩
    obtain ⟨k, rfl⟩ : ∃ k2, k = k2 + 2 := ⟨k - 2, by omega⟩
    show towncrierref04_Make.f _ _ _ _ _ _ _ _ _ _ _ = _
    rw [towncrierref04_Make.f, if_neg g1, qd, e0, hbb, towncrierref04_Make.j1, if_pos rfl, makeF, hok, hbb]
    simp
  | false =>
    obtain ⟨v1, v2, hv⟩ := e2 bad2
    refine ⟨v1, v2, K1 + K2 + K3 + 3, fun k hk => ?_⟩
    obtain ⟨k, rfl⟩ : ∃ k2, k = k2 + 3 := ⟨k - 3, by omega⟩
    show towncrierref04_Make.f _ _ _ _ _ _ _ _ _ _ _ = _
    rw [towncrierref04_Make.f, if_neg g1, qd, e0, hbb, e1 (k + 1) (by omega) (by omega), hv k (by omega), makeF, hok, hbb]
    cases bad2 <;> simp [q1, q4]
end Go.Proofs.Ytmjedjhgomlfiaa

set_option linter.unusedSimpArgs false
set_option linter.unusedVariables false
namespace Go.Proofs.Ytmjedjhgomlfiaa
open Go.RowKit Go.Proofs.YtmjedjhgomlfiaaW.PrintWords Go.Proofs.YtmjedjhgomlfiaaW.PrintLast Go.Proofs.Ytmjedjhgomlfiaa.PAuditLeaks

theorem rd_at {ks : List Int} {j : Nat} {k : Int} (h : ks[j]? = some k) : rd ks (j : Int) = k := by
  simp [rd, List.getD_eq_getElem?_getD, h]
theorem wsucc (j : Nat) (h : j ≤ 4294967296) : wrap64 ((j : Int) + 1) = ((j + 1 : Nat) : Int) := by
  rw [IntWalk.wrap64_in _ (by omega)]; omega
theorem put_l0 {l : List S61} {p : Int} {ks ov : List Int} {R1 : List S61 × Int} (hks : ks.length ≤ 100000) (hov : Ev (fun k => towncrierref04_Over.f k l p) ov) :
    ∀ (m j : Nat), j + m = ks.length → (okIds l (ks.take j) (ks.drop j) = true → Ev (fun k => towncrierref04_Put.l1 k l p ks ov 0) R1) → Ev (fun k => towncrierref04_Put.l0 k l p ks (j : Int)) (if okIds l (ks.take j) (ks.drop j) = true then R1 else (l, 1))
  | 0, j, h, h1 => by
    obtain ⟨K1, hov⟩ := hov
    have e0 : okIds l (ks.take j) (ks.drop j) = true := by rw [List.drop_eq_nil_of_le (by omega)]; rfl
    obtain ⟨K2, h1⟩ := h1 e0
    refine ⟨K1 + K2 + 1, fun k hk => ?_⟩
    obtain ⟨k, rfl⟩ : ∃ k2, k = k2 + 1 := ⟨k - 1, by omega⟩
    have a1 := hov k (by omega)
    have a2 := h1 k (by omega)
    simp only at a1 a2 ⊢
    rw [towncrierref04_Put.l0, if_neg (by omega), a1, Option.bind_some, a2, if_pos e0]
  | m + 1, j, h, h1 => by
    obtain ⟨q, hq⟩ : ∃ q, ks[j]? = some q := ⟨_, List.getElem?_eq_getElem (by omega)⟩
    have hd : ks.drop j = q :: ks.drop (j + 1) := by rw [List.drop_eq_getElem_cons (by omega), (List.getElem?_eq_some_iff.1 hq).2]
    have ht : ks.take j ++ [q] = ks.take (j + 1) := by rw [List.take_add_one, hq]; rfl
    rw [hd, okIds, ht] at h1 ⊢
    cases hn : nodeF l q with
    | none =>
      refine ⟨1, fun k hk => ?_⟩
      obtain ⟨k, rfl⟩ : ∃ k2, k = k2 + 1 := ⟨k - 1, by omega⟩
      simp only
      rw [towncrierref04_Put.l0, if_pos (by omega), if_pos (by omega), rd_at hq, there_none hn, Option.bind_some, if_neg (by simp)]
      simp
    | some y =>
      rw [hn] at h1
      obtain ⟨K2, hh⟩ := has_f (ks.take j) q (by rw [List.length_take]; omega)
      by_cases e : q ∈ ks.take j
      · have hcn : (ks.take j).contains q = true := by simpa using e
        refine ⟨K2 + 1, fun k hk => ?_⟩
        obtain ⟨k, rfl⟩ : ∃ k2, k = k2 + 1 := ⟨k - 1, by omega⟩
        have a2 := hh k (by omega)
        simp only at a2 ⊢
        rw [towncrierref04_Put.l0, if_pos (by omega), if_pos (by omega), rd_at hq, there_some hn, Option.bind_some, if_pos rfl, if_pos (by omega), Int.toNat_natCast, a2, Option.bind_some, if_pos (by simpa using e), hcn]
        simp
      · have hcn : (ks.take j).contains q = false := by simpa using e
        rw [hcn] at h1 ⊢
        simp only [Option.isSome_some, Bool.true_and, Bool.not_false] at h1 ⊢
        obtain ⟨K1, ih⟩ := put_l0 hks hov m (j + 1) (by omega) h1
        refine ⟨K1 + K2 + 1, fun k hk => ?_⟩
        obtain ⟨k, rfl⟩ : ∃ k2, k = k2 + 1 := ⟨k - 1, by omega⟩
        have a1 := ih k (by omega)
        have a2 := hh k (by omega)
        simp only at a1 a2 ⊢
        rw [towncrierref04_Put.l0, if_pos (by omega), if_pos (by omega), rd_at hq, there_some hn, Option.bind_some, if_pos rfl, if_pos (by omega), Int.toNat_natCast, a2, Option.bind_some, if_neg (by simpa using e), wsucc j (by omega), a1]
theorem put_l1 {l : List S61} {p : Int} {ks : List Int} {R2 : List S61 × Int} (h128 : l.length ≤ 128) (hks : ks.length ≤ 100000) (hkl : ∀ x ∈ l, x.f8.length ≤ 100000) (hmem : ∀ k ∈ ks, ∃ x, nodeF l k = some x) :
    ∀ (m j : Nat), j + m = ks.length → (okKids l p (ks.drop j) = true → Ev (fun k => towncrierref04_Put.l2 k p ks l 0) R2) → Ev (fun k => towncrierref04_Put.l1 k l p ks (overL l l.length p) (j : Int)) (if okKids l p (ks.drop j) = true then R2 else (l, 3))
  | 0, j, h, h2 => by
    obtain ⟨K1, hc⟩ := copy_f (l := l) (by omega) hkl
    have e0 : okKids l p (ks.drop j) = true := by rw [List.drop_eq_nil_of_le (by omega)]; rfl
    obtain ⟨K2, h2⟩ := h2 e0
    refine ⟨K1 + K2 + 1, fun k hk => ?_⟩
    obtain ⟨k, rfl⟩ : ∃ k2, k = k2 + 1 := ⟨k - 1, by omega⟩
    have a1 := hc k (by omega)
    have a2 := h2 k (by omega)
    simp only at a1 a2 ⊢
    rw [towncrierref04_Put.l1, if_neg (by omega), a1, Option.bind_some, a2, if_pos e0]
  | m + 1, j, h, h2 => by
    obtain ⟨q, hq⟩ : ∃ q, ks[j]? = some q := ⟨_, List.getElem?_eq_getElem (by omega)⟩
    have hd : ks.drop j = q :: ks.drop (j + 1) := by rw [List.drop_eq_getElem_cons (by omega), (List.getElem?_eq_some_iff.1 hq).2]
    obtain ⟨K2, hh⟩ := has_f (overL l l.length p) q (by have := overL_length (l := l) l.length p; omega)
    obtain ⟨y, hn⟩ := hmem q (List.mem_of_getElem? hq)
    obtain ⟨n1, n2, n3, n4⟩ := nd hn h128
    rw [hd, okKids_cons hn] at h2 ⊢
    have first : ∀ k, towncrierref04_Put.l1 (k + 1) l p ks (overL l l.length p) (j : Int) = if y.f0 = 1 then some (l, 3) else if y.f0 = 3 then some (l, 3) else (towncrierref01_Has.f k (overL l l.length p) q).bind fun t => if t = true then some (l, 3) else if y.f1 = 0 then towncrierref04_Put.l1 k l p ks (overL l l.length p) (wrap64 ((j : Int) + 1)) else if y.f1 = p then towncrierref04_Put.l1 k l p ks (overL l l.length p) (wrap64 ((j : Int) + 1)) else some (l, 3) := fun k => by
      rw [towncrierref04_Put.l1, if_pos (by omega), if_pos (by omega), rd_at hq, if_pos n1, if_pos n2, n3]
    by_cases c1 : y.f0 = 1
    · refine ⟨1, fun k hk => ?_⟩
      obtain ⟨k, rfl⟩ : ∃ k2, k = k2 + 1 := ⟨k - 1, by omega⟩
      simp only
      rw [first, if_pos c1, if_pos (show rootedF y = true by simp [rootedF, c1])]; simp
    by_cases c3 : y.f0 = 3
    · refine ⟨1, fun k hk => ?_⟩
      obtain ⟨k, rfl⟩ : ∃ k2, k = k2 + 1 := ⟨k - 1, by omega⟩
      simp only
      rw [first, if_neg c1, if_pos c3, if_pos (show rootedF y = true by simp [rootedF, c3])]; simp
    have hr : ¬ rootedF y = true := by simp [rootedF, c1, c3]
    rw [if_neg hr] at h2 ⊢
    by_cases c4 : q ∈ overL l l.length p
    · refine ⟨K2 + 1, fun k hk => ?_⟩
      obtain ⟨k, rfl⟩ : ∃ k2, k = k2 + 1 := ⟨k - 1, by omega⟩
      have a2 := hh k (by omega)
      simp only at a2 ⊢
      rw [first, if_neg c1, if_neg c3, a2, Option.bind_some, if_pos (by simpa using c4), if_pos c4]; simp
    rw [if_neg c4] at h2 ⊢
    by_cases c5 : y.f1 = 0
    · rw [if_pos c5] at h2 ⊢
      obtain ⟨K1, ih⟩ := put_l1 h128 hks hkl hmem m (j + 1) (by omega) h2
      refine ⟨K1 + K2 + 1, fun k hk => ?_⟩
      obtain ⟨k, rfl⟩ : ∃ k2, k = k2 + 1 := ⟨k - 1, by omega⟩
      have a1 := ih k (by omega)
      have a2 := hh k (by omega)
      simp only at a1 a2 ⊢
      rw [first, if_neg c1, if_neg c3, a2, Option.bind_some, if_neg (by simpa using c4), if_pos c5, wsucc j (by omega), a1]
    rw [if_neg c5] at h2 ⊢
    by_cases c6 : y.f1 = p
    · rw [if_pos c6] at h2 ⊢
      obtain ⟨K1, ih⟩ := put_l1 h128 hks hkl hmem m (j + 1) (by omega) h2
      refine ⟨K1 + K2 + 1, fun k hk => ?_⟩
      obtain ⟨k, rfl⟩ : ∃ k2, k = k2 + 1 := ⟨k - 1, by omega⟩
      have a1 := ih k (by omega)
      have a2 := hh k (by omega)
      simp only at a1 a2 ⊢
      rw [first, if_neg c1, if_neg c3, a2, Option.bind_some, if_neg (by simpa using c4), if_neg c5, if_pos c6, wsucc j (by omega), a1]
    · rw [if_neg c6]
      refine ⟨K2 + 1, fun k hk => ?_⟩
      obtain ⟨k, rfl⟩ : ∃ k2, k = k2 + 1 := ⟨k - 1, by omega⟩
      have a2 := hh k (by omega)
      simp only at a2 ⊢
      rw [first, if_neg c1, if_neg c3, a2, Option.bind_some, if_neg (by simpa using c4), if_neg c5, if_neg c6]; simp
/-- Nobody has p as parent. -/
def clr (p : Int) (y : S61) : S61 := if y.f1 = p then { y with f1 := 0 } else y
theorem put_l2 {l : List S61} {p : Int} {ks : List Int} {R3 : List S61 × Int} (h128 : l.length ≤ 128) (h3 : Ev (fun k => towncrierref04_Put.l3 k p ks (l.map (clr p)) 0) R3) :
    ∀ (m j : Nat), j + m = l.length → Ev (fun k => towncrierref04_Put.l2 k p ks ((l.take j).map (clr p) ++ l.drop j) (j : Int)) R3
  | 0, j, h => by
    obtain ⟨K1, h3⟩ := h3
    refine ⟨K1 + 1, fun k hk => ?_⟩
    obtain ⟨k, rfl⟩ : ∃ k2, k = k2 + 1 := ⟨k - 1, by omega⟩
    have a1 := h3 k (by omega)
    simp only at a1 ⊢
    have e : (l.take j).map (clr p) ++ l.drop j = l.map (clr p) := by rw [List.drop_eq_nil_of_le (by omega), List.take_of_length_le (by omega), List.append_nil]
    rw [e, towncrierref04_Put.l2, if_neg (by rw [List.length_map]; omega), a1]
  | m + 1, j, h => by
    obtain ⟨K1, ih⟩ := put_l2 h128 h3 m (j + 1) (by omega)
    obtain ⟨y, hy⟩ : ∃ y, l[j]? = some y := ⟨_, List.getElem?_eq_getElem (by omega)⟩
    have hd : l.drop j = y :: l.drop (j + 1) := by rw [List.drop_eq_getElem_cons (by omega), (List.getElem?_eq_some_iff.1 hy).2]
    have ht : (l.take (j + 1)).map (clr p) = (l.take j).map (clr p) ++ [clr p y] := by rw [List.take_add_one, hy]; simp
    have hlj : ((l.take j).map (clr p)).length = j := by rw [List.length_map, List.length_take]; omega
    have hr : rd_T61 ((l.take j).map (clr p) ++ l.drop j) (j : Int) = y := by
      unfold rd_T61
      rw [Int.toNat_natCast, List.getD_eq_getElem?_getD, List.getElem?_append_right (by omega), hlj, Nat.sub_self, hd]
      rfl
    have hset : ∀ z, ((l.take j).map (clr p) ++ l.drop j).set j z = (l.take j).map (clr p) ++ z :: l.drop (j + 1) := fun z => by
      rw [List.set_append_right _ _ (by omega), hlj, Nat.sub_self, hd]; rfl
    refine ⟨K1 + 1, fun k hk => ?_⟩
    obtain ⟨k, rfl⟩ : ∃ k2, k = k2 + 1 := ⟨k - 1, by omega⟩
    have a1 := ih k (by omega)
    simp only at a1 ⊢
    rw [ht, List.append_assoc, List.singleton_append] at a1
    rw [towncrierref04_Put.l2, if_pos (by rw [List.length_append, hlj, List.length_drop]; omega), if_pos (by omega), hr, wsucc j (by omega), Int.toNat_natCast]
    by_cases c : y.f1 = p
    · rw [if_pos c, hset]
      rw [show clr p y = { y with f1 := 0 } by unfold clr; rw [if_pos c]] at a1
      exact a1
    · rw [if_neg c, hd]
      rw [show clr p y = y by unfold clr; rw [if_neg c]] at a1
      exact a1
theorem put_l3 {L : List S61} {p : Int} {ks : List Int} (h128 : L.length ≤ 128) (hks : ks.length ≤ 100000) (hmem : ∀ k ∈ ks, ∃ x, nodeF L k = some x) {y : S61} (hy : nodeF (setPar p L ks) p = some y) :
    ∀ (m j : Nat), j + m = ks.length → Ev (fun k => towncrierref04_Put.l3 k p ks (setPar p L (ks.take j)) (j : Int)) ((setPar p L ks).set (p - 1).toNat { y with f8 := ks }, 0)
  | 0, j, h => by
    refine ⟨1, fun k hk => ?_⟩
    obtain ⟨k, rfl⟩ : ∃ k2, k = k2 + 1 := ⟨k - 1, by omega⟩
    obtain ⟨n1, n2, n3, n4⟩ := nd hy (by rw [setPar_length]; exact h128)
    simp only
    rw [List.take_of_length_le (by omega), towncrierref04_Put.l3, if_neg (by omega), Option.bind_some]
    simp only [List.length_nil, Nat.zero_add, List.nil_append]
    rw [if_pos (by omega), if_pos n1, if_pos n2, n3, n4]
  | m + 1, j, h => by
    obtain ⟨K1, ih⟩ := put_l3 h128 hks hmem hy m (j + 1) (by omega)
    obtain ⟨q, hq⟩ : ∃ q, ks[j]? = some q := ⟨_, List.getElem?_eq_getElem (by omega)⟩
    obtain ⟨z0, hz0⟩ := hmem q (List.mem_of_getElem? hq)
    obtain ⟨z, hz⟩ := nodeF_len (setPar_length p (ks.take j) L) hz0
    obtain ⟨n1, n2, n3, n4⟩ := nd hz (by rw [setPar_length]; exact h128)
    refine ⟨K1 + 1, fun k hk => ?_⟩
    obtain ⟨k, rfl⟩ : ∃ k2, k = k2 + 1 := ⟨k - 1, by omega⟩
    have a1 := ih k (by omega)
    simp only at a1 ⊢
    rw [setPar_step hq, setPar1_some hz] at a1
    rw [towncrierref04_Put.l3, if_pos (by omega), if_pos (by omega), rd_at hq, if_pos n1, if_pos n2, n3, n4, wsucc j (by omega)]
    exact a1
theorem nodeF_ext {a b : List S61} (h : ∀ k, nodeF a k = nodeF b k) : a = b := by
  refine List.ext_getElem? (fun i => ?_)
  have := h ((i : Int) + 1)
  unfold nodeF at this
  rw [if_pos (by omega), if_pos (by omega), show ((i : Int) + 1 - 1).toNat = i by omega] at this
  exact this
theorem put_f {l : List S61} (h : WF l) (h128 : l.length ≤ 128) (p : Int) (ks : List Int) (hks : ks.length ≤ 100000) : ∃ v, Ev (fun k => towncrierref04_Put.f k l p ks) (putF l p ks, v) := by
  cases hx : nodeF l p with
  | none =>
    refine ⟨1, 0, fun k hk => ?_⟩
    simp only [towncrierref04_Put.f, there_none hx, Option.bind_some, putF, hx]
    simp
  | some x =>
    have start : ∀ {R}, Ev (fun k => towncrierref04_Put.l0 k l p ks ((0 : Nat) : Int)) R → Ev (fun k => towncrierref04_Put.f k l p ks) R := fun {R} hE => by
      obtain ⟨K, hK⟩ := hE
      refine ⟨K, fun k hk => ?_⟩
      simp only [towncrierref04_Put.f, there_some hx, Option.bind_some]
      exact hK k hk
    have hov := over_f h128 p (h.endsO p)
    have e0 := put_l0 (R1 := if okKids l p ks = true then (putF l p ks, 0) else (l, 3)) hks hov ks.length 0 (by omega)
    rw [List.take_zero, List.drop_zero] at e0
    cases h1 : okIds l [] ks with
    | false =>
      rw [h1] at e0
      rw [putF_bad hx h1]
      exact ⟨1, start (e0 (fun h => by cases h))⟩
    | true =>
      have hmem := okIds_mem h1
      rw [h1, if_pos rfl] at e0
      have e1 := put_l1 (p := p) (R2 := (putF l p ks, 0)) h128 hks h.kl hmem ks.length 0 (by omega)
      rw [List.drop_zero] at e1
      refine ⟨if okKids l p ks = true then 0 else 3, ?_⟩
      have e2 := start (e0 (fun _ => e1 (fun h2 => ?_)))
      · cases h2 : okKids l p ks with
        | false => rw [h2] at e2; rw [putF_bad2 hx h2]; exact e2
        | true => rw [h2] at e2; exact e2
      · have hlen : (setPar p (setPar 0 l x.f8) ks).length = l.length := by rw [setPar_length, setPar_length]
        obtain ⟨y, hy⟩ := nodeF_len hlen hx
        have hcl : l.map (clr p) = setPar 0 l x.f8 := nodeF_ext (fun k => by
          rw [nodeF_setPar]
          have hm : nodeF (l.map (clr p)) k = (nodeF l k).map (clr p) := by
            unfold nodeF
            split
            · rw [List.getElem?_map]
            · rfl
          rw [hm]
          cases hn : nodeF l k with
          | none => rfl
          | some z =>
            simp only [Option.map_some, clr]
            by_cases c : z.f1 = p
            · rw [if_pos c, if_pos ((h.kids p x hx k).2 ⟨z, hn, c⟩)]
            · rw [if_neg c, if_neg (fun hk => by
                obtain ⟨z2, hz2, hp⟩ := (h.kids p x hx k).1 hk
                rw [hn] at hz2; obtain rfl := Option.some.inj hz2
                exact c hp)])
        have e3 := put_l3 (L := setPar 0 l x.f8) (by rw [setPar_length]; exact h128) hks (fun k hk => by
          obtain ⟨z, hz⟩ := hmem k hk
          exact nodeF_len (setPar_length _ _ _) hz) hy ks.length 0 (by omega)
        rw [List.take_zero, show setPar p (setPar 0 l x.f8) [] = setPar 0 l x.f8 from rfl, ← putF_ok hx h1 h2 hy, ← hcl] at e3
        have e4 := put_l2 h128 e3 l.length 0 (by omega)
        rw [List.take_zero, List.drop_zero] at e4
        exact e4
end Go.Proofs.Ytmjedjhgomlfiaa
