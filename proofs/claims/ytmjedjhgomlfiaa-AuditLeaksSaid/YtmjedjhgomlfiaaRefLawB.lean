/- ref's forests are the program's: plain law, second part. -/
import Derived.Test.YtmjedjhgomlfiaaRefLawA
import Derived.Test.YtmjedjhgomlfiaaForMade
import Derived.Test.YtmjedjhgomlfiaaForShade
import Derived.Test.YtmjedjhgomlfiaaPAuditLeaksx3
set_option linter.unusedSimpArgs false
set_option linter.unusedVariables false
namespace Go.Proofs.Ytmjedjhgomlfiaa
open Go.RowKit Go.Proofs.YtmjedjhgomlfiaaW.PrintWords Go.Proofs.YtmjedjhgomlfiaaW.PrintLast Go.Proofs.Ytmjedjhgomlfiaa.PAuditLeaks

theorem doF_length {l : List S61} (h : l.length ≤ 128) (x : S63) : (doF l x).length ≤ 128 := by
  unfold doF
  split
  · unfold makeF
    split
    · split
      · simp; omega
      · exact h
    · exact h
  split
  · unfold putF
    split
    · exact h
    · split
      · split
        · split
          · exact h
          · rw [List.length_set, setPar_length, setPar_length]; exact h
        · exact h
      · exact h
  split
  · unfold tieF
    split
    · exact h
    · split
      · exact h
      · repeat' split
        all_goals (try rw [List.length_set, List.length_set])
        all_goals exact h
  split
  · unfold nameF
    split
    · exact h
    · repeat' split
      all_goals (try rw [List.length_set])
      all_goals exact h
  split
  · unfold wantF
    split
    · exact h
    · repeat' split
      all_goals (try rw [List.length_set])
      all_goals exact h
  · exact h
theorem do_f {l : List S61} (h : WF l) (h128 : l.length ≤ 128) (x : S63) (hx : x.f5.length ≤ 100000) :
    ∃ v, Ev (fun k => towncrierref04_Do.f k l x.f0 x.f1 x.f2 x.f3 x.f4.f0 x.f4.f1 x.f4.f2 x.f4.f3 x.f4.f4 x.f4.f5 x.f4.f6 x.f4.f7 x.f4.f8 x.f5) (doF l x, v) := by
  unfold doF
  by_cases c0 : x.f0 = 0
  · obtain ⟨v1, v2, K, hK⟩ := make_f h128 h.kl x.f4.f0 x.f4.f1 x.f4.f2 x.f4.f3 x.f4.f4 x.f4.f5 x.f4.f6 x.f4.f7 x.f4.f8
    refine ⟨(v1, v2), K, fun k hk => ?_⟩
    have a := hK k hk
    simp only at a ⊢
    rw [towncrierref04_Do.f, if_pos c0, a, if_pos c0]; rfl
  by_cases c1 : x.f0 = 1
  · obtain ⟨v, K, hK⟩ := put_f h h128 x.f1 x.f5 hx
    refine ⟨(0, v), K, fun k hk => ?_⟩
    have a := hK k hk
    simp only at a ⊢
    rw [towncrierref04_Do.f, if_neg c0, if_pos c1, a, if_neg c0, if_pos c1]; rfl
  by_cases c2 : x.f0 = 2
  · obtain ⟨v, K, hK⟩ := tie_f h h128 x.f1 x.f2
    refine ⟨(0, v), K, fun k hk => ?_⟩
    have a := hK k hk
    simp only at a ⊢
    rw [towncrierref04_Do.f, if_neg c0, if_neg c1, if_pos c2, a, if_neg c0, if_neg c1, if_pos c2]; rfl
  by_cases c3 : x.f0 = 3
  · obtain ⟨v, K, hK⟩ := name_f h128 h.kl x.f1 x.f3
    refine ⟨(0, v), K, fun k hk => ?_⟩
    have a := hK k hk
    simp only at a ⊢
    rw [towncrierref04_Do.f, if_neg c0, if_neg c1, if_neg c2, if_pos c3, a, if_neg c0, if_neg c1, if_neg c2, if_pos c3]; rfl
  by_cases c4 : x.f0 = 4
  · obtain ⟨v, K, hK⟩ := want_f h128 h.kl x.f1 x.f3
    refine ⟨(0, v), K, fun k hk => ?_⟩
    have a := hK k hk
    simp only at a ⊢
    rw [towncrierref04_Do.f, if_neg c0, if_neg c1, if_neg c2, if_neg c3, if_pos c4, a, if_neg c0, if_neg c1, if_neg c2, if_neg c3, if_pos c4]; rfl
  · refine ⟨(0, 0), 0, fun k hk => ?_⟩
    simp only
    rw [towncrierref04_Do.f, if_neg c0, if_neg c1, if_neg c2, if_neg c3, if_neg c4, if_neg c0, if_neg c1, if_neg c2, if_neg c3, if_neg c4]
theorem nodes_to {acts : List S63} (hn : acts.length ≤ 300) (hL : ∀ x ∈ acts, x.f5.length ≤ 200) : ∀ (m j : Nat), j + m = acts.length → WF (madeF (acts.take j)) → (madeF (acts.take j)).length ≤ 128 → Ev (fun k => towncrierref04_Nodes.l0 k acts (madeF (acts.take j)) (j : Int)) (madeF acts)
  | 0, j, h, hW, h128 => by
    refine ⟨1, fun k hk => ?_⟩
    obtain ⟨k, rfl⟩ : ∃ k2, k = k2 + 1 := ⟨k - 1, by omega⟩
    simp only
    rw [towncrierref04_Nodes.l0, if_neg (by omega), List.take_of_length_le (by omega)]
  | m + 1, j, h, hW, h128 => by
    obtain ⟨x, hx⟩ : ∃ x, acts[j]? = some x := ⟨_, List.getElem?_eq_getElem (by omega)⟩
    have hxl := hL x (List.mem_of_getElem? hx)
    have hr : rd_T63 acts (j : Int) = x := by
      unfold rd_T63
      rw [Int.toNat_natCast, List.getD_eq_getElem?_getD, hx]; rfl
    have hst := madeF_step hx
    obtain ⟨v, K1, hd⟩ := do_f hW h128 x (by omega)
    obtain ⟨K2, ih⟩ := nodes_to hn hL m (j + 1) (by omega) (by rw [hst]; exact hW.do x (by omega)) (by rw [hst]; exact doF_length h128 x)
    refine ⟨K1 + K2 + 1, fun k hk => ?_⟩
    obtain ⟨k, rfl⟩ : ∃ k2, k = k2 + 1 := ⟨k - 1, by omega⟩
    have a1 := hd k (by omega)
    have a2 := ih k (by omega)
    simp only at a1 a2 ⊢
    rw [towncrierref04_Nodes.l0, if_pos (by omega), if_pos (by omega), hr, a1, Option.bind_some, wsucc j (by omega), ← hst]
    exact a2
theorem nodes_f {acts : List S63} (hn : acts.length ≤ 300) (hL : ∀ x ∈ acts, x.f5.length ≤ 200) : Ev (fun k => towncrierref04_Nodes.f k acts) (madeF acts) := by
  have := nodes_to hn hL acts.length 0 (by omega) WF.nil (by rw [List.take_zero]; exact Nat.zero_le _)
  exact this
end Go.Proofs.Ytmjedjhgomlfiaa

set_option linter.unusedSimpArgs false
namespace Go.Proofs.Ytmjedjhgomlfiaa
open Go.RowKit Go.Proofs.YtmjedjhgomlfiaaW.PrintWords Go.Proofs.YtmjedjhgomlfiaaW.PrintLast Go.Proofs.Ytmjedjhgomlfiaa.PAuditLeaks

/-- What of these is hidden, none twice. -/
def leaksF (l : List S61) (cur : Int) : List Int → List Int → List Int
  | out, [] => out
  | out, x :: r => leaksF l cur (if (hidF l x cur && !decide (x ∈ out)) = true then out ++ [x] else out) r
theorem R_two (W : World) (base : Nat) (hb : base ≤ W.heap.size) (x y : Int) : (Kd.int .i64).R 3 (W.alloc (.cells #[.int .i64 x, .int .i64 y] 3)) base (fun _ => True) (.slice (some ⟨W.heap.size, 0, none⟩) 2 2) [x, y] := by
  refine Kd.R_of_own ?_ (fun _ _ => trivial)
  have h := World.ownsRow_lit (base := base) (e := 3) (size := 1) W #[.int .i64 x, .int .i64 y] 2 hb (by decide) rfl
  simpa [encs] using h
theorem leaksF_step {l : List S61} {cur : Int} {out all : List Int} {j : Nat} {x : Int} (hx : all[j]? = some x) : leaksF l cur out (all.drop j) = leaksF l cur (if (hidF l x cur && !decide (x ∈ out)) = true then out ++ [x] else out) (all.drop (j + 1)) := by
  obtain ⟨hlt, he⟩ := List.getElem?_eq_some_iff.1 hx
  rw [List.drop_eq_getElem_cons hlt, leaksF, he]

set_option maxRecDepth 100000 in
set_option maxHeartbeats 3200000 in
theorem leaks_any (F : Nat) (l : List S61) (w : World) (h : FoR w F l) (hk : kidsOk l) (he : EndsA l) (a0 a1 a2 a3 a4 a5 a6 : Int) (A7 : Option Addr) (c7 : Nat) (p : List Int) (b8 b9 b10 b11 b12 b13 b14 b15 : Bool) (a16 a17 a18 : Int) (hp : (Kd.int .i64).C w A7 p.length p) (hpl : p.length ≤ 100000) :
    Calls Try.prog 19 #[.pointer (some ⟨F, 0, none⟩), .agg #[.int .i64 a0, .int .i64 a1, .int .i64 a2, .int .i64 a3, .int .i64 a4, .int .i64 a5, .int .i64 a6, .slice A7 p.length c7, .bool b8, .bool b9, .bool b10, .bool b11, .bool b12, .bool b13, .bool b14, .bool b15, .int .i64 a16, .int .i64 a17, .int .i64 a18]] w fun e w' =>
      ∃ v, e = .returned v ∧ (Kd.int .i64).R 3 w' w.heap.size (fun _ => True) v (leaksF l a3 [] (a5 :: a6 :: p)) ∧ Below w.heap.size w w' := by
  have hW1 : Below w.heap.size w ((w.alloc (.cells #[.int .i64 a0, .int .i64 a1, .int .i64 a2, .int .i64 a3, .int .i64 a4, .int .i64 a5, .int .i64 a6, .slice A7 p.length c7, .bool b8, .bool b9, .bool b10, .bool b11, .bool b12, .bool b13, .bool b14, .bool b15, .int .i64 a16, .int .i64 a17, .int .i64 a18] 34)).alloc (.cells #[.int .i64 a5, .int .i64 a6] 3)) := below_alloc (below_alloc (Below.refl _ _) _) _
  have hS := R_two (w.alloc (.cells #[.int .i64 a0, .int .i64 a1, .int .i64 a2, .int .i64 a3, .int .i64 a4, .int .i64 a5, .int .i64 a6, .slice A7 p.length c7, .bool b8, .bool b9, .bool b10, .bool b11, .bool b12, .bool b13, .bool b14, .bool b15, .int .i64 a16, .int .i64 a17, .int .i64 a18] 34)) w.heap.size (by simp) a5 a6
  rw [World.size_alloc] at hS
  have hD := Kd.C_below hp hW1
  have hX := alloc_at (alloc_new' (w := w) (o := (.cells #[.int .i64 a0, .int .i64 a1, .int .i64 a2, .int .i64 a3, .int .i64 a4, .int .i64 a5, .int .i64 a6, .slice A7 p.length c7, .bool b8, .bool b9, .bool b10, .bool b11, .bool b12, .bool b13, .bool b14, .bool b15, .int .i64 a16, .int .i64 a17, .int .i64 a18] 34)) rfl) (.cells #[.int .i64 a5, .int .i64 a6] 3)
  go_enter Try.func19, Try.ntmps19
  go_wp2_with (at_builtin; refine Kd.R_append_row (Value.int .i64) (0 : Int) (w0 := w) w.heap.size rfl (.tmp 12) (.tmp 14) 29 3 (.int .i64 0) 8 rfl Try.underlying29 info3 rfl (by decide) (.slice (some ⟨w.heap.size + 1, 0, none⟩) 2 2) [a5, a6] p A7 p.length c7 (fun _ => True) rfl rfl (fun _ _ => trivial) hS hD hW1 hW1.size (by simp; omega) ?_; intro v2 w2 hR2 hB2 hg2 hat2; have hX2 := blk_grown hX hg2 (Kd.R_ne hS hX (by decide)); obtain ⟨A2, c2, e2, hc2, hC2⟩ := Kd.R_reads hR2; subst e2)
  have hF2 := h.below hB2
  have hall : Hid (([a5, a6] ++ p).length = p.length + 1 + 1) := by show _ = _; simp
  rw [hall] at hC2
  have hcell : ∀ W, Below w2.heap.size w2 W → ∀ j x, ([a5, a6] ++ p)[j]? = some x → ∃ b off, A2 = some ⟨b, off, none⟩ ∧ W.cell? ⟨b, off + j, none⟩ = some (.int .i64 x) := fun W hW j x hx => by
    have hj := (List.getElem?_eq_some_iff.1 hx).1
    have hC3 := Kd.C_below hC2 hW
    obtain ⟨ad, rfl, _⟩ := hC3.2.2 (by omega)
    rw [← hall] at hC3
    obtain ⟨b, off, rfl, hc⟩ := ints_cells hC3 (by omega)
    refine ⟨b, off, rfl, ?_⟩
    have := hc j hj
    rw [this, List.getD_eq_getElem?_getD, hx]
    rfl
  have hhid := fun W (hW : Below w2.heap.size w2 W) x => hidden_any F x a3 l W (hF2.below hW) hk he
  have hst := fun o j x => leaksF_step (l := l) (cur := a3) (out := o) (all := [a5, a6] ++ p) (j := j) (x := x)
  have hsz2 : w.heap.size ≤ w2.heap.size := hB2.size
  have HLL : Hid (∀ o, leaksF l a3 o (([a5, a6] ++ p).drop (p.length + 1 + 1)) = o) := by
    intro o
    rw [List.drop_of_length_le (by rw [hall]; exact Nat.le_refl _)]
    rfl
  have hget : ∀ j, j < p.length + 1 + 1 → ∃ x, ([a5, a6] ++ p)[j]? = some x := fun j hj => ⟨_, List.getElem?_eq_getElem (by rw [hall]; exact hj)⟩
  clear hS hD hX hW1 hp hR2 hC2 hF2 h hk he hall hat2 hg2
  generalize hal : [a5, a6] ++ p = all at *
  have HA : Hid (a5 :: a6 :: p = all) := hal
  clear hal
  go_loopw [5, 17] (fun v5 i wr => ∃ (j : Nat) (o : List Int), j ≤ p.length + 1 + 1 ∧ i = .int .i64 j ∧ Hid (leaksF l a3 [] all = leaksF l a3 o (all.drop j)) ∧ (Kd.int .i64).R 3 wr w2.heap.size (fun _ => True) v5 o ∧ Below w2.heap.size w2 wr ∧ o.length ≤ j) (fun _ i _ => p.length + 2 - (intOf i).toNat)
  case atStart => exact ⟨0, [], Nat.zero_le _, rfl, rfl, Kd.R_nil _ _ _ _ _, Below.refl _ _, by simp⟩
  case round =>
    obtain ⟨j, o, hj, rfl, HH, hR, hB, hol⟩ := hrel
    by_cases hlt : j < p.length + 1 + 1
    · obtain ⟨x, hx⟩ := hget j hlt
      obtain ⟨b, off, rfl, hcx⟩ := hcell _ hB j x hx
      have hz := blk_below hX2 hB
      have z3 := blk_cell hz 3
      have hh := hhid wr hB x
      have hs := hst o j x hx
      obtain ⟨A5, c5, rfl, -, hC5⟩ := Kd.R_reads hR
      have hltI : (j : Int) < (p.length : Int) + 1 + 1 := by omega
      clear hget hcell hhid hst hx hz hX2
      cases hv : hidF l x a3 with
      | false =>
        rw [hv] at hh hs
        have HN : Hid (leaksF l a3 [] all = leaksF l a3 o (all.drop (j + 1))) := by show _ = _; rw [HH, hs]; rfl
        clear hs HH hv
        go_wp2_with (go_at_call 25; refine hh.mono ?_; rintro e w3 ⟨rfl, hB3⟩)
        go_roundw
        case rel => exact ⟨j + 1, o, by omega, by go_num, HN, Kd.R_below hR hB3, below_then hB hB.size hB3, by omega⟩
        case measure => simp [intOf]; omega
      | true =>
        rw [hv] at hh hs
        have hcon := fun W hC => contains_any o x A5 c5 W hC (by omega)
        by_cases hm : x ∈ o
        · rw [show o.contains x = true from by simpa using hm] at hcon
          have HN : Hid (leaksF l a3 [] all = leaksF l a3 o (all.drop (j + 1))) := by show _ = _; rw [HH, hs]; simp [hm]
          clear hs HH hv hm
          go_wp2_with (first
            | (go_at_call 25; refine hh.mono ?_; rintro e w3 ⟨rfl, hB3⟩; have hC6 := Kd.C_below hC5 hB3)
            | (go_at_call 26; refine (hcon _ hC6).mono ?_; rintro e w4 ⟨rfl, hw⟩; obtain rfl := hw.symm))
          go_roundw
          case rel => exact ⟨j + 1, o, by omega, by go_num, HN, Kd.R_below hR hB3, below_then hB hB.size hB3, by omega⟩
          case measure => simp [intOf]; omega
        · rw [show o.contains x = false from by simpa using hm] at hcon
          have HN : Hid (leaksF l a3 [] all = leaksF l a3 (o ++ [x]) (all.drop (j + 1))) := by show _ = _; rw [HH, hs]; simp [hm]
          clear hs HH hv hm
          go_wp2_with (first
            | (go_at_call 25; refine hh.mono ?_; rintro e w3 ⟨rfl, hB3⟩; have hC6 := Kd.C_below hC5 hB3; have hR6 := Kd.R_below hR hB3; have hB6 := below_then hB hB.size hB3)
            | (go_at_call 26; refine (hcon _ hC6).mono ?_; rintro e w4 ⟨rfl, hw⟩; obtain rfl := hw.symm)
            | (at_builtin; refine Kd.R_append (Kd.int .i64) (w0 := w2) w2.heap.size rfl (.tmp 32) (.tmp 34) 29 3 (.int .i64 0) 8 rfl Try.underlying29 info3 rfl (by decide) (by decide) _ o x [.int .i64 x] (fun _ => True) (fun _ => False) rfl rfl rfl (fun _ hk => hk.elim) (fun _ _ => trivial) hR6 hB6 hB6.size (by omega) ?_; intro v1 w5 hR5 hB5 hg5 hat5))
          go_roundw
          case rel => exact ⟨j + 1, o ++ [x], by omega, by go_num, HN, hR5, hB5, by simp; omega⟩
          case measure => simp [intOf]; omega
    · obtain rfl : j = p.length + 1 + 1 := by omega
      have HN : Hid (leaksF l a3 [] all = o) := by show _ = _; rw [HH, HLL]
      have hltI : ¬ ((p.length : Int) + 1 + 1 < (p.length : Int) + 1 + 1) := by omega
      clear HH HLL hget hcell hhid hst hX2
      go_wp2
      go_ret
      exact ⟨_, rfl, by rw [show a5 :: a6 :: p = all from HA, HN]; exact Kd.R_lower hR hsz2, hB2.trans (hB.mono hsz2)⟩
end Go.Proofs.Ytmjedjhgomlfiaa

set_option linter.unusedSimpArgs false
set_option linter.unusedVariables false
namespace Go.Proofs.Ytmjedjhgomlfiaa
open Go.RowKit Go.Proofs.YtmjedjhgomlfiaaW.PrintWords Go.Proofs.YtmjedjhgomlfiaaW.PrintLast Go.Proofs.Ytmjedjhgomlfiaa.PAuditLeaks

theorem up_to {l : List S61} (h128 : l.length ≤ 128) : ∀ (m : Nat) (id : Int) (o : List Int) (j : Nat), Ends l m id → j + m ≤ l.length → o.length = j → ∀ k, m + 1 ≤ k → towncrierref04_Up.l0 k l id o (j : Int) = some (o ++ upF l m id)
  | m, id, o, j, he, hj, ho, k, hk => by
    obtain ⟨k, rfl⟩ : ∃ k2, k = k2 + 1 := ⟨k - 1, by omega⟩
    rw [towncrierref04_Up.l0, if_pos (by omega)]
    cases hn : nodeF l id with
    | none => rw [there_none hn, upF_none hn, Option.bind_some, if_neg (by simp), List.append_nil]
    | some x =>
      cases m with
      | zero => exact absurd (show nodeF l id = none from he) (by rw [hn]; simp)
      | succ m =>
        obtain ⟨n1, n2, n3, n4⟩ := nd hn h128
        rw [there_some hn, Option.bind_some, if_pos rfl, if_pos (by omega), if_pos n1, if_pos n2, n3, wsucc j (by omega), up_to h128 m _ _ (j + 1) (he x hn) (by omega) (by simp [ho]) k (by omega), upF, hn]
        simp
theorem up_f {l : List S61} (h128 : l.length ≤ 128) (he : EndsA l) (id : Int) : Ev (fun k => towncrierref04_Up.f k l id) (upF l l.length id) :=
  ⟨l.length + 1, fun k hk => by
    have := up_to h128 l.length id [] 0 (he id) (by omega) rfl k hk
    rw [List.nil_append] at this
    exact this⟩
theorem rd_last (t : List Int) (h : t ≠ []) (ht : t.length ≤ 4294967296) : 0 ≤ wrap64 ((t.length : Int) - 1) ∧ wrap64 ((t.length : Int) - 1) < (t.length : Int) ∧ rd t (wrap64 ((t.length : Int) - 1)) = t.getLastD 0 := by
  have hp := List.length_pos_iff.2 h
  rw [IntWalk.wrap64_in _ (by omega)]
  refine ⟨by omega, by omega, ?_⟩
  rw [show ((t.length : Int) - 1) = ((t.length - 1 : Nat) : Int) by omega]
  have hl : t[t.length - 1]? = some (t.getLast h) := by rw [List.getElem?_eq_getElem (by omega), List.getLast_eq_getElem]
  rw [rd_at hl, List.getLastD_eq_getLast?, List.getLast?_eq_some_getLast h]
  rfl
theorem root_f {l : List S61} (h128 : l.length ≤ 128) (he : EndsA l) (id : Int) : Ev (fun k => towncrierref05_Root.f k l id) (rootF l id) := by
  obtain ⟨K, hu⟩ := up_f h128 he id
  refine ⟨K, fun k hk => ?_⟩
  have a := hu k hk
  simp only at a ⊢
  have hlen := upF_length (l := l) l.length id
  rw [towncrierref05_Root.f, a, Option.bind_some]
  unfold rootF
  by_cases h0 : upF l l.length id = []
  · rw [if_pos (by rw [h0]; rfl), h0]; rfl
  · have hp := List.length_pos_iff.2 h0
    obtain ⟨q1, q2, q3⟩ := rd_last _ h0 (by omega)
    rw [if_neg (by omega), if_pos q1, if_pos q2, q3]
/-- The end of a node's chain of parents. -/
theorem upF_last {l : List S61} (hL : linksOk l) (r : Int → Nat) (hr : ∀ k y, nodeF l k = some y → ovF y ≠ 0 → r (ovF y) < r k) : ∀ (k : Nat) (id : Int) (x : S61) (d : Int), Ends l k id → nodeF l id = some x → ∃ y, nodeF l ((upF l k id).getLastD d) = some y ∧ y.f1 = 0 ∧ r ((upF l k id).getLastD d) ≤ r id
  | 0, id, x, d, he, hx => absurd (show nodeF l id = none from he) (by rw [hx]; simp)
  | k + 1, id, x, d, he, hx => by
    rw [upF, hx]
    simp only [List.getLastD_cons]
    by_cases h0 : x.f1 = 0
    · rw [h0, upF_none (nodeF_zero l)]
      exact ⟨x, hx, h0, Nat.le_refl _⟩
    · have hl := hL x (nodeF_mem hx)
      obtain ⟨z, hz⟩ := nodeF_of (l := l) (k := x.f1) (by omega) hl.2.1
      obtain ⟨y, h1, h2, h3⟩ := upF_last hL r hr k x.f1 z id (he x hx) hz
      have := hr id x hx (by unfold ovF; rw [if_neg h0]; exact h0)
      unfold ovF at this
      rw [if_neg h0] at this
      exact ⟨y, h1, h2, by omega⟩
theorem rootF_node {l : List S61} (h : WF l) {id : Int} {x : S61} (hx : nodeF l id = some x) (r : Int → Nat) (hr : ∀ k y, nodeF l k = some y → ovF y ≠ 0 → r (ovF y) < r k) : ∃ y, nodeF l (rootF l id) = some y ∧ y.f1 = 0 ∧ r (rootF l id) ≤ r id := upF_last h.links r hr l.length id x 0 (h.endsA id) hx
theorem rootF_none {l : List S61} {id : Int} (hx : nodeF l id = none) : rootF l id = 0 := by unfold rootF; rw [upF_none hx]; rfl
theorem hostF_none {l : List S61} {id : Int} (hx : nodeF l id = none) : hostF l id = 0 := by unfold hostF; rw [rootF_none hx, nodeF_zero]
theorem host_f {l : List S61} (h : WF l) (h128 : l.length ≤ 128) (id : Int) : Ev (fun k => towncrierref08_Host.f k l id) (hostF l id) := by
  obtain ⟨K, hu⟩ := root_f h128 h.endsA id
  refine ⟨K, fun k hk => ?_⟩
  have a := hu k hk
  simp only at a ⊢
  rw [towncrierref08_Host.f, a, Option.bind_some]
  cases hx : nodeF l id with
  | none => rw [hostF_none hx, if_pos (rootF_none hx)]
  | some x =>
    obtain ⟨r, hr⟩ := h.rank
    obtain ⟨y, hy, h1, h2⟩ := rootF_node h hx r hr
    have hrg := nodeF_range hy
    obtain ⟨n1, n2, n3, n4⟩ := nd hy h128
    rw [if_neg (by omega), if_pos n1, if_pos n2, n3]
    unfold hostF
    rw [hy]
    simp only
    split <;> rfl
theorem above_f {l : List S61} (h : WF l) (h128 : l.length ≤ 128) (a b : Int) : Ev (fun k => towncrierref05_Above.f k l a b) (aboveF l a b) := by
  obtain ⟨K1, hu⟩ := up_f h128 h.endsA b
  have hlen := upF_length (l := l) l.length b
  obtain ⟨K2, hh⟩ := has_f (upF l l.length b) a (by omega)
  refine ⟨K1 + K2, fun k hk => ?_⟩
  have a1 := hu k (by omega)
  have a2 := hh k (by omega)
  simp only at a1 a2 ⊢
  rw [towncrierref05_Above.f, a1, Option.bind_some, a2]
  rfl
/-- A host stands lower. -/
theorem host_lower {l : List S61} (h : WF l) (r : Int → Nat) (hr : ∀ k y, nodeF l k = some y → ovF y ≠ 0 → r (ovF y) < r k) {id : Int} (h0 : hostF l id ≠ 0) : ∃ x y, nodeF l id = some x ∧ nodeF l (hostF l id) = some y ∧ r (hostF l id) < r id := by
  cases hx : nodeF l id with
  | none => exact absurd (hostF_none hx) h0
  | some x =>
    obtain ⟨y, hy, h1, h2⟩ := rootF_node h hx r hr
    have e : hostF l id = y.f2 := by
      unfold hostF at h0 ⊢
      rw [hy] at h0 ⊢
      simp only at h0 ⊢
      split at h0
      · rename_i c; rw [if_pos c]
      · exact absurd rfl h0
    have hl := h.links y (nodeF_mem hy)
    have ho : ovF y = y.f2 := by unfold ovF; rw [if_pos h1]
    rw [e] at h0 ⊢
    obtain ⟨z, hz⟩ := nodeF_of (l := l) (k := y.f2) (by omega) hl.2.2.2
    have := hr _ y hy (by rw [ho]; exact h0)
    rw [ho] at this
    exact ⟨x, z, rfl, hz, by omega⟩
theorem below_lt {l : List S61} {r : Int → Nat} {a b : Int} {x : S61} (hx : nodeF l a = some x) (h : r a < r b) : below_ r l.length (r a) < below_ r l.length (r b) := by
  have hg := nodeF_range hx
  refine countP_lt _ _ _ (fun i _ hi => ?_) (a - 1).toNat (List.mem_range.2 (by omega)) ?_ ?_
  · simp only [decide_eq_true_eq] at hi ⊢; omega
  · simp only [decide_eq_true_eq]; rw [show (((a - 1).toNat : Nat) : Int) + 1 = a by omega]; exact h
  · rw [show (((a - 1).toNat : Nat) : Int) + 1 = a by omega]; simp
theorem below_all {l : List S61} {r : Int → Nat} {a : Int} {x : S61} (hx : nodeF l a = some x) : below_ r l.length (r a) < l.length := by
  have hg := nodeF_range hx
  have : below_ r l.length (r a) < (List.range l.length).countP (fun _ => true) := by
    refine countP_lt _ _ _ (fun i _ hi => rfl) (a - 1).toNat (List.mem_range.2 (by omega)) rfl ?_
    rw [show (((a - 1).toNat : Nat) : Int) + 1 = a by omega]; simp
  simpa using this
end Go.Proofs.Ytmjedjhgomlfiaa

set_option linter.unusedSimpArgs false
set_option linter.unusedVariables false
namespace Go.Proofs.Ytmjedjhgomlfiaa
open Go.RowKit Go.Proofs.YtmjedjhgomlfiaaW.PrintWords Go.Proofs.YtmjedjhgomlfiaaW.PrintLast Go.Proofs.Ytmjedjhgomlfiaa.PAuditLeaks

theorem holdsF_zero (l : List S61) (a : Int) : ∀ m, holdsF l m a 0 = false
  | 0 => rfl
  | m + 1 => by
    rw [holdsF, show aboveF l a 0 = false by unfold aboveF; rw [upF_none (nodeF_zero l)]; rfl, if_neg (by simp), if_pos (hostF_none (nodeF_zero l))]
theorem holds_to {l : List S61} (h : WF l) (h128 : l.length ≤ 128) (r : Int → Nat) (hr : ∀ k y, nodeF l k = some y → ovF y ≠ 0 → r (ovF y) < r k) (a : Int) :
    ∀ (m : Nat) (b : Int) (j : Nat), (b = 0 ∨ ∃ x, nodeF l b = some x ∧ below_ r l.length (r b) < m) → j + m ≤ l.length + 1 → Ev (fun k => towncrierref08_Holds.l0 k l a b (j : Int)) (holdsF l m a b)
  | m, b, j, hb, hj => by
    by_cases hz : b = 0
    · subst hz
      rw [holdsF_zero]
      refine ⟨2, fun k hk => ?_⟩
      obtain ⟨k, rfl⟩ : ∃ k2, k = k2 + 2 := ⟨k - 2, by omega⟩
      simp only
      rw [towncrierref08_Holds.l0]
      split
      · rw [towncrierref08_Holds.j1, if_neg (by simp)]
      · rw [towncrierref08_Holds.j1, if_neg (by simp)]
    · obtain ⟨x, hx, hlt⟩ := hb.resolve_left hz
      cases m with
      | zero => omega
      | succ m =>
        obtain ⟨K1, ha⟩ := above_f h h128 a b
        obtain ⟨K2, hh⟩ := host_f h h128 b
        have hnext : hostF l b = 0 ∨ ∃ y, nodeF l (hostF l b) = some y ∧ below_ r l.length (r (hostF l b)) < m := by
          by_cases c : hostF l b = 0
          · exact Or.inl c
          · obtain ⟨_, y, _, hy, hl2⟩ := host_lower h r hr c
            have := below_lt hy hl2
            exact Or.inr ⟨y, hy, by omega⟩
        obtain ⟨K3, ih⟩ := holds_to h h128 r hr a m (hostF l b) (j + 1) hnext (by omega)
        refine ⟨K1 + K2 + K3 + 2, fun k hk => ?_⟩
        obtain ⟨k, rfl⟩ : ∃ k2, k = k2 + 2 := ⟨k - 2, by omega⟩
        have a1 := ha k (by omega)
        have a2 := hh k (by omega)
        have a3 := ih k (by omega)
        simp only at a1 a2 a3 ⊢
        rw [towncrierref08_Holds.l0, if_pos (by omega), towncrierref08_Holds.j1, if_pos (by simpa using hz), a1, Option.bind_some, holdsF]
        split
        · rfl
        · rw [a2, Option.bind_some, wsucc j (by omega), a3]
          split
          · rename_i c; rw [c, holdsF_zero]
          · rfl
theorem holds_f {l : List S61} (h : WF l) (h128 : l.length ≤ 128) (a b : Int) {x : S61} (hx : nodeF l b = some x) : Ev (fun k => towncrierref08_Holds.f k l a b) (holdsF l l.length a b) := by
  obtain ⟨r, hr⟩ := h.rank
  exact holds_to h h128 r hr a l.length b 0 (Or.inr ⟨x, hx, below_all hx⟩) (by omega)
theorem hidden_zero (l : List S61) (b a : Int) (h : hostF l a = 0) : ∀ m, hiddenF l b m a = false
  | 0 => rfl
  | m + 1 => by rw [hiddenF, if_pos h]
theorem hidden_to {l : List S61} (h : WF l) (h128 : l.length ≤ 128) (r : Int → Nat) (hr : ∀ k y, nodeF l k = some y → ovF y ≠ 0 → r (ovF y) < r k) (b : Int) {xb : S61} (hb : nodeF l b = some xb) :
    ∀ (m : Nat) (a : Int) (j : Nat), (hostF l a = 0 ∨ ∃ x, nodeF l a = some x ∧ below_ r l.length (r a) < m) → j + m ≤ l.length + 1 → Ev (fun k => towncrierref08_Hidden.l0 k l a b (j : Int)) (hiddenF l b m a)
  | m, a, j, ha, hj => by
    obtain ⟨K1, h1⟩ := root_f h128 h.endsA a
    obtain ⟨K2, h2⟩ := host_f h h128 a
    by_cases hz : hostF l a = 0
    · rw [hidden_zero l b a hz]
      refine ⟨K1 + K2 + 2, fun k hk => ?_⟩
      obtain ⟨k, rfl⟩ : ∃ k2, k = k2 + 2 := ⟨k - 2, by omega⟩
      have a1 := h1 (k + 1) (by omega)
      have a2 := h2 (k + 1) (by omega)
      simp only at a1 a2 ⊢
      rw [towncrierref08_Hidden.l0]
      split
      · rw [a1, Option.bind_some, a2, Option.bind_some, if_pos hz, towncrierref08_Hidden.j1, if_pos rfl]
      · rfl
    · obtain ⟨x, hx, hlt⟩ := ha.resolve_left hz
      cases m with
      | zero => omega
      | succ m =>
        obtain ⟨K3, h3⟩ := holds_f h h128 (rootF l a) b hb
        obtain ⟨_, y, _, hy, hl2⟩ := host_lower h r hr hz
        have hbl := below_lt hy hl2
        obtain ⟨K4, ih⟩ := hidden_to h h128 r hr b hb m (hostF l a) (j + 1) (Or.inr ⟨y, hy, by omega⟩) (by omega)
        obtain ⟨z, hrz, _, _⟩ := rootF_node h hx r hr
        obtain ⟨n1, n2, n3, n4⟩ := nd hrz h128
        have hmode : modeF l (rootF l a) = z.f4 := by unfold modeF; rw [hrz]
        refine ⟨K1 + K2 + K3 + K4 + 2, fun k hk => ?_⟩
        obtain ⟨k, rfl⟩ : ∃ k2, k = k2 + 2 := ⟨k - 2, by omega⟩
        have a1 := h1 (k + 1) (by omega)
        have a2 := h2 (k + 1) (by omega)
        have a2' := h2 k (by omega)
        have a3 := h3 (k + 1) (by omega)
        have a4 := ih k (by omega)
        simp only at a1 a2 a2' a3 a4 ⊢
        rw [towncrierref08_Hidden.l0, if_pos (by omega), a1, Option.bind_some, a2, Option.bind_some, if_neg hz, a3, Option.bind_some, towncrierref08_Hidden.j1, hiddenF, if_neg hz, hmode]
        split
        · rfl
        · first | rw [if_pos n1, if_pos n2, n3] | rw [n3]
          split
          · rfl
          · rw [a2', Option.bind_some, wsucc j (by omega), a4]
theorem hidden_f {l : List S61} (h : WF l) (h128 : l.length ≤ 128) (a b : Int) : Ev (fun k => towncrierref08_Hidden.f k l a b) (hidF l a b) := by
  cases hb : nodeF l b with
  | none =>
    refine ⟨0, fun k hk => ?_⟩
    simp only [towncrierref08_Hidden.f, there_none hb, Option.bind_some, hidF, hb]
    simp
  | some xb =>
    obtain ⟨r, hr⟩ := h.rank
    obtain ⟨K, hK⟩ := hidden_to h h128 r hr b hb l.length a 0 (by
      cases hx : nodeF l a with
      | none => exact Or.inl (hostF_none hx)
      | some x => exact Or.inr ⟨x, rfl, below_all hx⟩) (by omega)
    refine ⟨K, fun k hk => ?_⟩
    simp only [towncrierref08_Hidden.f, there_some hb, Option.bind_some, hidF, hb]
    exact hK k hk
theorem leaksF_length (l : List S61) (cur : Int) : ∀ (all out : List Int), (leaksF l cur out all).length ≤ out.length + all.length
  | [], out => by rw [leaksF]; simp
  | x :: r, out => by
    rw [leaksF]
    by_cases c : (hidF l x cur && !decide (x ∈ out)) = true
    · rw [if_pos c]
      have := leaksF_length l cur r (out ++ [x])
      rw [List.length_append, List.length_singleton] at this
      rw [List.length_cons]; omega
    · rw [if_neg c]
      have := leaksF_length l cur r out
      rw [List.length_cons]; omega
theorem rleaks_to {l : List S61} (h : WF l) (h128 : l.length ≤ 128) (x0 x1 x2 cur x4 x5 x6 : Int) (p : List Int) (b8 b9 b10 b11 b12 b13 b14 b15 : Bool) (x16 x17 x18 : Int) (all : List Int) (hall : all.length ≤ 100000) :
    ∀ (m j : Nat) (out : List Int), j + m = all.length → out.length ≤ j → Ev (fun k => towncrierref25_Leaks.l0 k l out all (j : Int) x0 x1 x2 cur x4 x5 x6 p b8 b9 b10 b11 b12 b13 b14 b15 x16 x17 x18) (leaksF l cur out (all.drop j))
  | 0, j, out, hj, ho => by
    refine ⟨1, fun k hk => ?_⟩
    obtain ⟨k, rfl⟩ : ∃ k2, k = k2 + 1 := ⟨k - 1, by omega⟩
    simp only
    rw [towncrierref25_Leaks.l0, if_neg (by omega), List.drop_eq_nil_of_le (by omega), leaksF]
  | m + 1, j, out, hj, ho => by
    obtain ⟨q, hq⟩ : ∃ q, all[j]? = some q := ⟨_, List.getElem?_eq_getElem (by omega)⟩
    rw [leaksF_step hq]
    obtain ⟨K1, h1⟩ := hidden_f h h128 q cur
    obtain ⟨K2, h2⟩ := has_f out q (by omega)
    obtain ⟨K3, h3⟩ := rleaks_to h h128 x0 x1 x2 cur x4 x5 x6 p b8 b9 b10 b11 b12 b13 b14 b15 x16 x17 x18 all hall m (j + 1) (if (hidF l q cur && !decide (q ∈ out)) = true then out ++ [q] else out) (by omega) (by split <;> (try simp) <;> omega)
    refine ⟨K1 + K2 + K3 + 1, fun k hk => ?_⟩
    obtain ⟨k, rfl⟩ : ∃ k2, k = k2 + 1 := ⟨k - 1, by omega⟩
    have a1 := h1 k (by omega)
    have a2 := h2 k (by omega)
    have a3 := h3 k (by omega)
    simp only at a1 a2 a3 ⊢
    rw [towncrierref25_Leaks.l0, if_pos (by omega), if_pos (by omega), rd_at hq, a1, Option.bind_some, wsucc j (by omega)]
    cases hh : hidF l q cur with
    | false =>
      rw [hh] at a3
      rw [if_neg (by simp)]
      simpa using a3
    | true =>
      rw [hh] at a3
      rw [if_pos rfl, a2, Option.bind_some]
      by_cases e : q ∈ out
      · rw [if_pos (by simpa using e)]
        simpa [e] using a3
      · rw [if_neg (by simpa using e), if_pos (by omega)]
        simpa [e] using a3
theorem rleaks_f {l : List S61} (h : WF l) (h128 : l.length ≤ 128) (x0 x1 x2 cur x4 x5 x6 : Int) (p : List Int) (b8 b9 b10 b11 b12 b13 b14 b15 : Bool) (x16 x17 x18 : Int) (hp : p.length ≤ 200) :
    Ev (fun k => towncrierref25_Leaks.f k l x0 x1 x2 cur x4 x5 x6 p b8 b9 b10 b11 b12 b13 b14 b15 x16 x17 x18) (leaksF l cur [] (x5 :: x6 :: p)) := by
  obtain ⟨K, hK⟩ := rleaks_to h h128 x0 x1 x2 cur x4 x5 x6 p b8 b9 b10 b11 b12 b13 b14 b15 x16 x17 x18 (x5 :: x6 :: p) (by simp; omega) (x5 :: x6 :: p).length 0 [] (by omega) (by simp)
  refine ⟨K, fun k hk => ?_⟩
  have := hK k hk
  simp only at this ⊢
  unfold towncrierref25_Leaks.f
  rw [Option.bind_some, if_pos (by simp; omega)]
  exact this
end Go.Proofs.Ytmjedjhgomlfiaa

set_option linter.unusedSimpArgs false
set_option linter.unusedVariables false
namespace Go.Proofs.Ytmjedjhgomlfiaa
open Go.RowKit Go.Proofs.YtmjedjhgomlfiaaW.PrintWords Go.Proofs.YtmjedjhgomlfiaaW.PrintLast Go.Proofs.Ytmjedjhgomlfiaa.PAuditLeaks

def greatB (acts : List S63) : Bool := acts.any (fun x => decide (200 < x.f5.length)) || decide (300 < acts.length)
theorem great_to {acts : List S63} (hn : acts.length ≤ 9223372036854775807) : ∀ (m j : Nat), j + m = acts.length → Ev (fun k => towncrierlaw25_great.l0 k acts (j : Int)) ((acts.drop j).any (fun x => decide (200 < x.f5.length)) || decide (300 < acts.length))
  | 0, j, h => by
    refine ⟨1, fun k hk => ?_⟩
    obtain ⟨k, rfl⟩ : ∃ k2, k = k2 + 1 := ⟨k - 1, by omega⟩
    simp only
    rw [towncrierlaw25_great.l0, if_neg (by omega), List.drop_eq_nil_of_le (by omega), List.any_nil, Bool.false_or]
    congr 1
    rw [decide_eq_decide]
    omega
  | m + 1, j, h => by
    obtain ⟨x, hx⟩ : ∃ x, acts[j]? = some x := ⟨_, List.getElem?_eq_getElem (by omega)⟩
    have hd : acts.drop j = x :: acts.drop (j + 1) := by rw [List.drop_eq_getElem_cons (by omega), (List.getElem?_eq_some_iff.1 hx).2]
    have hr : rd_T63 acts (j : Int) = x := by
      unfold rd_T63
      rw [Int.toNat_natCast, List.getD_eq_getElem?_getD, hx]; rfl
    obtain ⟨K, ih⟩ := great_to hn m (j + 1) (by omega)
    refine ⟨K + 1, fun k hk => ?_⟩
    obtain ⟨k, rfl⟩ : ∃ k2, k = k2 + 1 := ⟨k - 1, by omega⟩
    have a := ih k (by omega)
    simp only at a ⊢
    rw [towncrierlaw25_great.l0, if_pos (by omega), if_pos (by omega), hr, hd, List.any_cons]
    by_cases c : 200 < x.f5.length
    · rw [if_pos (by omega)]; simp [c]
    · rw [if_neg (by omega), IntWalk.wrap64_in _ (by omega), show ((j : Int) + 1) = ((j + 1 : Nat) : Int) by omega, a]; simp [c]
theorem great_f {acts : List S63} (hn : acts.length ≤ 9223372036854775807) : Ev (fun k => towncrierlaw25_great.f k acts) (greatB acts) := great_to hn acts.length 0 (by omega)
theorem great_no {acts : List S63} (h : greatB acts = false) : acts.length ≤ 300 ∧ ∀ x ∈ acts, x.f5.length ≤ 200 := by
  unfold greatB at h
  rw [Bool.or_eq_false_iff] at h
  obtain ⟨h1, h2⟩ := h
  refine ⟨by simpa using h2, fun x hx => ?_⟩
  have := List.any_eq_false.1 h1 x hx
  simpa using this
theorem ints_to {xs : List Int} (hn : xs.length ≤ 4294967296) : ∀ (m j : Nat), j + m = xs.length → Ev (fun k => towncrierref01_Ints.l0 k xs xs (j : Int)) true
  | 0, j, h => by
    refine ⟨1, fun k hk => ?_⟩
    obtain ⟨k, rfl⟩ : ∃ k2, k = k2 + 1 := ⟨k - 1, by omega⟩
    simp only
    rw [towncrierref01_Ints.l0, if_neg (by omega)]
  | m + 1, j, h => by
    obtain ⟨K, ih⟩ := ints_to hn m (j + 1) (by omega)
    refine ⟨K + 1, fun k hk => ?_⟩
    obtain ⟨k, rfl⟩ : ∃ k2, k = k2 + 1 := ⟨k - 1, by omega⟩
    have a := ih k (by omega)
    simp only at a ⊢
    rw [towncrierref01_Ints.l0, if_pos (by omega), if_pos (by omega), if_pos (by omega), if_pos rfl, wsucc j (by omega), a]
theorem ints_f {xs : List Int} (hn : xs.length ≤ 4294967296) : Ev (fun k => towncrierref01_Ints.f k xs xs) true := by
  obtain ⟨K, h⟩ := ints_to hn xs.length 0 (by omega)
  refine ⟨K, fun k hk => ?_⟩
  have a := h k hk
  simp only at a ⊢
  rw [towncrierref01_Ints.f, if_pos rfl]
  exact a
theorem madeF_length : ∀ (acts : List S63), (madeF acts).length ≤ 128 := fun acts => by
  have : ∀ (acts : List S63) (l : List S61), l.length ≤ 128 → (acts.foldl doF l).length ≤ 128 := fun acts => by
    induction acts with
    | nil => exact fun l h => h
    | cons x r ih => exact fun l h => ih _ (doF_length h x)
  exact this acts [] (by simp)
end Go.Proofs.Ytmjedjhgomlfiaa
