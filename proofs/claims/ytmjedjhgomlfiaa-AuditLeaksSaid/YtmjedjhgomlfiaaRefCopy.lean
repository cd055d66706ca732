/- ref.Copy of nodes: the same nodes, their rows of their own. -/
import Derived.Test.YtmjedjhgomlfiaaRefFor1
import Derived.Test.YtmjedjhgomlfiaaForests
set_option linter.unusedSimpArgs false
namespace Go.Proofs.Ytmjedjhgomlfiaa.PAuditLeaks
open Go.RowKit Go.Proofs.YtmjedjhgomlfiaaW.PrintWords Go.Proofs.YtmjedjhgomlfiaaW.PrintLast Go.Proofs.Ytmjedjhgomlfiaa

theorem copy_l0 (l : List S61) (hl : l.length < 1353245080339) : ∀ (k : Nat) (j : Nat) (r : List S61), j ≤ l.length → towncrierref04_Copy.l0 k l l (j : Int) = some r → r = l ∧ ∀ i x, j ≤ i → l[i]? = some x → x.f8.length < 17592186044416
  | 0, _, _, _, h => by simp [towncrierref04_Copy.l0] at h
  | k + 1, j, r, hj, h => by
    rw [towncrierref04_Copy.l0] at h
    by_cases hlt : j < l.length
    · rw [if_pos (by omega)] at h
      simp only [Option.bind_some, List.nil_append] at h
      rw [if_pos (by omega), if_pos (by omega)] at h
      have hx : rd_T61 l (j : Int) = l[j] := by simp [rd_T61, hlt]
      split at h
      · rename_i hb
        have hset : l.set (j : Int).toNat ⟨(rd_T61 l j).f0, (rd_T61 l j).f1, (rd_T61 l j).f2, (rd_T61 l j).f3, (rd_T61 l j).f4, (rd_T61 l j).f5, (rd_T61 l j).f6, (rd_T61 l j).f7, (rd_T61 l j).f8⟩ = l := by
          rw [hx, Int.toNat_natCast]
          exact List.set_getElem_self hlt
        rw [hset, IntWalk.wrap64_in _ (by omega), show ((j : Int) + 1) = ((j + 1 : Nat) : Int) by omega] at h
        obtain ⟨h1, h2⟩ := copy_l0 l hl k (j + 1) r (by omega) h
        refine ⟨h1, fun i x hi hix => ?_⟩
        by_cases hij : i = j
        · subst hij
          rw [List.getElem?_eq_getElem hlt] at hix
          obtain rfl := Option.some.inj hix
          rw [hx] at hb
          simpa using hb
        · exact h2 i x (by omega) hix
      · cases h
    · rw [if_neg (by omega)] at h
      exact ⟨(Option.some.inj h).symm, fun i x hi hix => by have := (List.getElem?_eq_some_iff.1 hix).1; omega⟩
theorem info61' : (Try.prog.info? 61).map (fun i => (i.zero, i.size, i.bytes)) = some (some (.agg #[.int .i64 0, .int .i64 0, .int .i64 0, .int .i64 0, .int .i64 0, .bool false, .string ⟨#[]⟩, .string ⟨#[]⟩, .slice none 0 0]), 9, 104) := by kernel_rfl
theorem N_lit0 (W : World) (base : Nat) (hb : base ≤ W.heap.size) (ok : Nat → Prop) (hok : ok W.heap.size) : Kd.N k61 61 (W.alloc (.cells #[] 61)) base ok (.slice (some ⟨W.heap.size, 0, none⟩) 0 0) [] := by
  have h := World.ownsRow_lit (base := base) (e := 61) (size := 9) W #[] 0 hb (by decide) rfl
  have h' : (W.alloc (.cells #[] 61)).ownsRow base 61 9 (.slice (some ⟨W.heap.size, 0, none⟩) 0 0) 0 [] := by simpa using h
  refine ⟨fun k hk => ?_, [], rfl, ⟨fun k hk => hk.symm, [], h', Reps.none _ _⟩, fun j x c hj => by simp at hj⟩
  have : W.heap.size = k := by simpa [Value.ownBlock] using hk
  subst this; exact hok
theorem R_lit0 (W : World) (base : Nat) (hb : base ≤ W.heap.size) : (Kd.int .i64).R 3 (W.alloc (.cells #[] 3)) base (fun _ => True) (.slice (some ⟨W.heap.size, 0, none⟩) 0 0) [] := by
  have h := World.ownsRow_lit (base := base) (e := 3) (size := 1) W #[] 0 hb (by decide) rfl
  have h' : (W.alloc (.cells #[] 3)).ownsRow base 3 1 (.slice (some ⟨W.heap.size, 0, none⟩) 0 0) 0 [] := by simpa using h
  exact ⟨fun _ _ => trivial, [], h', Reps.none _ _⟩

set_option maxRecDepth 100000 in
set_option maxHeartbeats 3200000 in
theorem copy_walk (P0_ : Nat → Prop) (A0 : Option Addr) (c0 : Nat) (l0 : List S61) (w : World) (hs0 : Kd.V k61 61 w w.heap.size (fun k_ => P0_ k_) (.slice A0 l0.length c0) l0) (hl : l0.length < 1353245080339) (hkk : ∀ x ∈ l0, x.f8.length < 17592186044416) :
    Calls Try.prog 66 #[.slice A0 l0.length c0] w fun e w' => ∃ v0_ : Value, e = .returned (v0_) ∧ Kd.N k61 61 w' w.heap.size (fun k_ => (P0_ k_ ∨ w.heap.size ≤ k_)) v0_ l0 ∧ Below w.heap.size w w' := by
  have hF := Kd.V_F (Kd.V_bound hs0)
  have hC := Kd.F_now hF
  have hN0 := N_lit0 w w.heap.size (Nat.le_refl _) (fun k => P0_ k ∨ w.heap.size ≤ k) (Or.inr (Nat.le_refl _))
  have hB0 := below_alloc (Below.refl _ w) (.cells #[] 61)
  have hF0 := Kd.F_alloc hF (.cells #[] 61)
  go_enter Try.func66, Try.ntmps66
  go_wp2_with (at_builtin; refine Kd.N_append_rows k61 (w0 := w) w.heap.size rfl (.tmp 5) (.tmp 6) 48 61 _ 104 rfl Try.underlying48 info61' rfl (by decide) (by decide) (.slice (some ⟨w.heap.size, 0, none⟩) 0 0) [] l0 A0 l0.length c0 (fun k => P0_ k ∨ w.heap.size ≤ k) (fun k => P0_ k ∧ k < w.heap.size) rfl rfl hN0 hF0 (fun k hk => ⟨Or.inl hk.1, fun e => by have h1 : k = w.heap.size := (by simpa [Value.ownBlock] using e); have h2 := hk.2; omega⟩) (fun k hk => Or.inr (Nat.le_trans (by simp) hk)) hB0 hB0.size (by simp; omega) ?_; intro v1 w1 hN1 hB1 hg1 hat1; rw [List.nil_append] at hN1; obtain ⟨A1, c1, rfl⟩ := Kd.N_slice hN1)
  clear hN0 hB0 hF0 hg1 hat1 hF hs0
  have hbase := Kd.N_base hN1
  go_loopw [4] (fun i wr => ∃ (j : Nat), j ≤ l0.length ∧ i = .int .i64 j ∧ Kd.N k61 61 wr w.heap.size (fun k => P0_ k ∨ w.heap.size ≤ k) (.slice A1 l0.length c1) l0 ∧ Below w.heap.size w wr) (fun i _ => l0.length - (intOf i).toNat)
  case atStart => exact ⟨0, Nat.zero_le _, rfl, hN1, hB1⟩
  case round =>
    obtain ⟨j, hj, rfl, hN, hB⟩ := hrel
    clear hN1 hB1
    by_cases hlt : j < l0.length
    · obtain ⟨x, hx⟩ : ∃ x, l0[j]? = some x := ⟨_, List.getElem?_eq_getElem hlt⟩
      obtain ⟨g, cap, e1, hgb, hgs, -⟩ := Kd.N_form hN (by omega)
      injection e1 with e1 e2 e3
      subst e1 e3
      obtain ⟨c, hcl, hFK, hcc, -⟩ := Kd.N_elem hN z61 (j : Int) (by omega) (by omega)
      have hxd : l0.getD (j : Int).toNat z61 = x := by rw [Int.toNat_natCast, List.getD_eq_getElem?_getD, hx]; rfl
      rw [hxd] at hFK
      obtain ⟨Ax, cx, rfl, -, -⟩ := k61_openF hFK
      obtain ⟨ad, A8, c8, rfl, -, -, -, -, -, -, -, -, hk8, l8, g8⟩ := at_T61 (Kd.C_below hC hB) (j : Int) (by omega) (by omega)
      have hrx : rd_T61 l0 (j : Int) = x := by unfold rd_T61; exact hxd
      rw [hrx] at hk8 l8 g8
      rw [Int.toNat_natCast] at hk8
      have hkx := hkk x (List.mem_of_getElem? hx)
      have hset : Hid (l0.set (j : Int).toNat x = l0) := by
        show _ = _
        rw [Int.toNat_natCast]
        have : x = l0[j] := (List.getElem?_eq_some_iff.1 hx).2.symm
        rw [this]
        exact List.set_getElem_self hlt
      have hS := R_lit0 wr wr.heap.size (Nat.le_refl _)
      have hBa := below_alloc (Below.refl _ wr) (.cells #[] 3)
      have hDa := Kd.C_below g8 hBa
      have hk8a := cell_alloc_at hk8 (.cells #[] 3)
      clear hx hxd hrx e2 hFK g8 hk8
      go_wp2_with (first
        | (at_builtin; refine Kd.R_append_row (Value.int .i64) (0 : Int) (w0 := wr) wr.heap.size rfl (.tmp 16) (.tmp 21) 29 3 (.int .i64 0) 8 rfl Try.underlying29 info3 rfl (by decide) (.slice (some ⟨wr.heap.size, 0, none⟩) 0 0) [] x.f8 A8 x.f8.length c8 (fun _ => True) rfl rfl (fun _ _ => trivial) hS hDa hBa hBa.size (by simp; omega) ?_; intro v2 w2 hR2 hB2 hg2 hat2; rw [List.nil_append] at hR2; obtain ⟨A9, c9, e9, l9, -⟩ := Kd.R_reads hR2; subst e9; have hN2 := Kd.N_below hN hB2; have hF9 := Kd.N_F (Kd.R_N (Kd.R_tight rfl hR2)); have hcc2 := fun j u hu => (hB2.cell (World.block_lt_of_cell? _ _ (hcc j u hu))).trans (hcc j u hu))
        | (refine gate_ (.store 29 (.tmp 24) (.tmp 22)) rfl ?_; refine Kd.N_store k61 (w0 := w) w.heap.size rfl rfl 29 (.tmp 24) (.tmp 22) rfl 61 (g := g) (n := l0.length) (cap := c1) (o' := j * 9 + 8) (j : Int) 8 l0 x (.slice A9 x.f8.length c9) [.slice A9 x.f8.length c9] _ (fun k => P0_ k ∨ w.heap.size ≤ k) (fun k => some k = (Value.slice A9 x.f8.length c9).ownBlock) rfl (by rw [Int.toNat_natCast]; rfl) rfl rfl (by kernel_rfl) (by simp [Value.oneCell']) hN2 (by omega) (by omega) hcl hcc2 (Nat.le_refl 9) (k61_mkF w2 _ x l9 hF9) (fun k hk => ⟨Or.inr (Nat.le_trans hB.size (Kd.R_base hR2 k hk.symm)), fun e => by have h1 := Kd.R_base hR2 k hk.symm; omega⟩) (hB.trans (hB2.mono hB.size)) ?_; intro w3 hN3 hB3 hg3; rw [hset] at hN3))
      go_roundw
      case rel => exact ⟨j + 1, by omega, by go_num, hN3, hB3⟩
      case measure => simp [intOf]; omega
    · go_wp2
      go_ret
      exact ⟨_, rfl, hN, hB⟩
theorem towncrierref04_Copy.calls (k : Nat) (P0_ : Nat → Prop) (A0 : Option Addr) (c0 : Nat) (l0 : List (S61)) (r : List (S61)) (w : World) (hs0 : Kd.V k61 61 w w.heap.size (fun k_ => P0_ k_) (.slice A0 l0.length c0) l0) (h : towncrierref04_Copy.f k l0 = some r) :
    Calls Try.prog 66 #[.slice A0 l0.length c0] w fun e w' => ∃ v0_ : Value, e = .returned (v0_) ∧ Kd.N k61 61 w' w.heap.size (fun k_ => (P0_ k_ ∨ w.heap.size ≤ k_)) v0_ r ∧ Below w.heap.size w w' := by
  have h' : (if ([] : List S61).length + l0.length < 1353245080339 then (towncrierref04_Copy.l0 k l0 ([] ++ l0) 0) else (none)) = some r := h
  split at h'
  · rename_i hb
    have hb' : l0.length < 1353245080339 := by simpa using hb
    obtain ⟨rfl, h2⟩ := copy_l0 l0 hb' k 0 r (Nat.zero_le _) h'
    exact copy_walk P0_ A0 c0 r w hs0 hb' (fun x hx => by
      obtain ⟨i, hi⟩ := List.mem_iff_getElem?.1 hx
      exact h2 i x (Nat.zero_le _) hi)
  · cases h'
end Go.Proofs.Ytmjedjhgomlfiaa.PAuditLeaks
