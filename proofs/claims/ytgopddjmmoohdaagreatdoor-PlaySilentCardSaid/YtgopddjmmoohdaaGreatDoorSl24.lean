/- The texts of this seat, joined: part 24 of 25. -/
import Derived.Test.YtgopddjmmoohdaaGreatDoorSl01
import Derived.Test.YtgopddjmmoohdaaGreatDoorSl23
/- play: do, Out, the loop of run. -/
set_option linter.unusedSimpArgs false
set_option linter.unusedVariables false
set_option maxRecDepth 100000
set_option maxHeartbeats 3200000
namespace Go.Proofs.YtgopddjmmoohdaaGreatDoor
open Go.RowKit Go.Proofs.YtgopddjmmoohdaaGreatDoorW.PrintWords Go.Proofs.YtgopddjmmoohdaaGreatDoorW.PrintLast Go.Proofs.YtgopddjmmoohdaaGreatDoor.PPlaySilent

def PlPost (cl : Nat → Nat) (ow : Nat → Prop) (w0 w : World) (Pb Wb F L B calls : Nat) (vm vc : Value) (s' : Pl) (u : Value) (e : Ending) (w' : World) : Prop := e = .returned u ∧ ∃ cl' ow', PlC cl' ow' w0 w' Pb Wb F L B calls vm vc s' ∧ PlStep Pb cl ow cl' ow' w w'
section
variable {cl : Nat → Nat} {ow : Nat → Prop} {w0 w : World} {Pb Wb F L B calls : Nat} {vm vc : Value} {s : Pl}
theorem do_any (h : PlC cl ow w0 w Pb Wb F L B calls vm vc s) (hO : LayO w) (hT : SgOk s.st.sg) (x : S39) (ctx disp : Int) :
    Calls Tryz.prog 22 #[.pointer (some ⟨Pb, 0, none⟩), opV x, .agg #[.int .i64 ctx, .int .i64 disp]] w (PlPost cl ow w0 w Pb Wb F L B calls vm vc { s with st := (doW calls s.st x ctx).1 } (.tuple #[.int .i64 (doW calls s.st x ctx).2.1, .int .i64 (doW calls s.st x ctx).2.2])) := by
  obtain ⟨v, hPb, -⟩ := h.row
  have hB2 : Below w.heap.size w ((w.alloc (.cells #[.int .i64 x.f0, .int .i64 x.f1, .int .i64 x.f2, .int .i64 x.f3, .int .i64 x.f4, .string x.f5] 39)).alloc (.cells #[.int .i64 ctx, .int .i64 disp] 56)).drew := below_drew (below_alloc (below_alloc (Below.refl _ _) _) _)
  have hdo := do_op (h.below hB2).wo (hO.below hB2) hT x ctx
  have hX2 : ((w.alloc (.cells #[.int .i64 x.f0, .int .i64 x.f1, .int .i64 x.f2, .int .i64 x.f3, .int .i64 x.f4, .string x.f5] 39)).alloc (.cells #[.int .i64 ctx, .int .i64 disp] 56)).heap[w.heap.size + 1]? = some (.cells #[.int .i64 ctx, .int .i64 disp] 56 (0, 0)) := by have := blk_new (w.alloc (.cells #[.int .i64 x.f0, .int .i64 x.f1, .int .i64 x.f2, .int .i64 x.f3, .int .i64 x.f4, .string x.f5] 39)) (.cells #[.int .i64 ctx, .int .i64 disp] 56); rwa [World.size_alloc] at this
  have hfin := hd_ (fun cl' W (hW : WoC cl' w0 W Wb F L B calls (doW calls s.st x ctx).1) (hs : WoStep cl cl' ((w.alloc (.cells #[.int .i64 x.f0, .int .i64 x.f1, .int .i64 x.f2, .int .i64 x.f3, .int .i64 x.f4, .string x.f5] 39)).alloc (.cells #[.int .i64 ctx, .int .i64 disp] 56)).drew W) => (h.below hB2).setW hW hs)
  have hsame := hd_ (PlStep.same (Pb := Pb) (cl := cl) (ow := ow) hB2)
  clear h hO hT hB2
  simp only [opV] at hdo ⊢
  generalize doW calls s.st x ctx = dr at *
  go_enter Tryz.func22, Tryz.ntmps22
  go_wp2
  refine start_ (n := 12) (S := (fun W_ => W_.heap[Pb]? = some (.cells (plC Wb vm vc v s) 53 (0, 0)) ∧ W_.heap[w.heap.size]? = some (.cells #[.int .i64 x.f0, .int .i64 x.f1, .int .i64 x.f2, .int .i64 x.f3, .int .i64 x.f4, .string x.f5] 39 (0, 0)) ∧ W_.heap[w.heap.size + 1]? = some (.cells #[.int .i64 ctx, .int .i64 disp] 56 (0, 0)))) (ds := [7]) (bm 12 0) (by kernel_rfl) rfl (by kernel_rfl) ⟨alloc_at (alloc_at hPb _) _, alloc_at (blk_new w _) _, hX2⟩ (fun hHeld => ?_)
  refine pu_ 0 (some 8) (bm 12 1) ?_
  refine pu_ 1 (some 9) (bm 12 3) ?_
  refine pu_ 2 (some 10) (bm 12 7) ?_
  refine tb_ 3 (some 11) (bm 12 15) hHeld ?_ (hy := by intro w' hSw; have z8 : w'.cell? ⟨Pb, 0, none⟩ = some (.pointer (some ⟨Wb, 0, none⟩)) := (blk_cell hSw.1 0).trans rfl; go_simp; with_reducible rfl)
  refine tb_ 4 (some 12) (bm 12 31) hHeld ?_ (hy := by intro w' hSw; have z0 := (blk_cell hSw.2.1 0).trans rfl; have z1 := (blk_cell hSw.2.1 1).trans rfl; have z2 := (blk_cell hSw.2.1 2).trans rfl; have z3 := (blk_cell hSw.2.1 3).trans rfl; have z4 := (blk_cell hSw.2.1 4).trans rfl; have z5 := (blk_cell hSw.2.1 5).trans rfl; go_simp; with_reducible rfl)
  refine pu_ 5 (some 13) (bm 12 63) ?_
  refine ta_ 6 (some 14) (bm 12 127) hHeld (fun _ hSw => (blk_cell hSw.2.2 0).trans rfl) ?_
  refine last_ (i := 7) (N := (some 15)) (bm 12 255) rfl rfl (by kernel_rfl) (by decide) (fun K hK => ?_)
  refine goes_ Tryz.func28 (by kernel_rfl) rfl #[.pointer (some ⟨Wb, 0, none⟩), .agg #[.int .i64 x.f0, .int .i64 x.f1, .int .i64 x.f2, .int .i64 x.f3, .int .i64 x.f4, .string x.f5], .int .i64 ctx] (by rfl) rfl rfl (by try simp only [List.map_toArray, List.map_cons, List.map_nil]; first | done | rfl) ?_
  refine hdo.mono ?_
  rintro e w1 ⟨rfl, cl', hW1, hs1⟩
  refine ⟨_, rfl, ?_⟩
  refine hK.out _ _ ?_
  clear hK K
  refine norm_ (a' := ?_) ?_ ?_
  rotate_left
  · show Act.put _ (some 15) _ = _
    simp only [Act.put, List.setIfInBounds_toArray, List.set_cons_zero, List.set_cons_succ]
    rfl
  refine pu_ 8 (some 16) (bm 12 511) ?_
  refine pu_ 9 (some 17) (bm 12 1023) ?_
  refine pu_ 10 (some 6) (bm 12 2047) ?_
  refine pu_ 11 (some 7) (bm 12 4095) ?_
  refine done_ (by kernel_rfl) ?_
  go_wp2
  go_ret2
  obtain ⟨hP, hS⟩ := hfin.out _ _ hW1 hs1
  exact ⟨rfl, cl', ow, hP, hsame.out.trans hS⟩
end
/-- Is a play out? -/
def outB (l : List S37) : Bool := match l.getLast? with
  | none => false
  | some x => decide (x.f10 = 10)
theorem el_37 {w : World} {A : Option Addr} {n : Nat} {xs : List S37} (h : k37.C w A n xs) (j : Nat) (hj : j < n) :
    ∃ ad e, A = some ad ∧ Hd (xs[j]? = some e) ∧ w.cell? (ad.add (j * 19)) = some (.int .i64 e.f0) ∧ w.cell? ⟨(ad.add (j * 19)).block, (ad.add (j * 19)).off + 2, none⟩ = some (.int .i64 e.f2) ∧
      w.cell? ⟨(ad.add (j * 19)).block, (ad.add (j * 19)).off + 16, none⟩ = some (.int .i64 e.f9) ∧ w.cell? ⟨(ad.add (j * 19)).block, (ad.add (j * 19)).off + 17, none⟩ = some (.int .i64 e.f10) := by
  have hl : xs.length = n := h.1
  obtain ⟨ad, c, hA, _, hK, hc0⟩ := Kd.C_get h z37 (j : Int) (by omega) (by omega)
  rw [Int.toNat_natCast] at hK hc0
  obtain ⟨e, he⟩ : ∃ e, xs[j]? = some e := ⟨_, List.getElem?_eq_getElem (by omega)⟩
  rw [List.getD_eq_getElem?_getD, he] at hK
  obtain ⟨A7, c7, rfl, -, -⟩ := k37_open hK
  have hc : ∀ i u, ([.int .i64 e.f0, .int .i64 e.f1, .int .i64 e.f2, .int .i64 e.f3, .int .i64 e.f4, .int .i64 e.f5, .int .i64 e.f6, .slice A7 e.f7.length c7, .bool e.f8.f0, .bool e.f8.f1, .bool e.f8.f2, .bool e.f8.f3, .bool e.f8.f4, .bool e.f8.f5, .bool e.f8.f6, .bool e.f8.f7, .int .i64 e.f9, .int .i64 e.f10, .int .i64 e.f11] : List Value)[i]? = some u → w.cell? (ad.add (j * 19 + i)) = some u := hc0
  exact ⟨ad, e, hA, ⟨he⟩, hc 0 _ rfl, by rw [← add_field _ _ 2 (by omega)]; exact hc 2 _ rfl, by rw [← add_field _ _ 16 (by omega)]; exact hc 16 _ rfl, by rw [← add_field _ _ 17 (by omega)]; exact hc 17 _ rfl⟩
theorem pout_any (A : Option Addr) (c : Nat) (xs : List S37) (w : World) (h : k37.C w A xs.length xs) :
    Calls Tryz.prog 9 #[.slice A xs.length c] w fun e w' => e = .returned (.bool (outB xs)) ∧ Below w.heap.size w w' := by
  have hm := Kd.C_max h
  obtain ⟨n, hn⟩ : ∃ n, xs.length = n := ⟨_, rfl⟩
  cases n with
  | zero =>
    obtain rfl := List.length_eq_zero_iff.1 hn
    have HF := hd_ (show outB [] = false from rfl)
    rw [List.length_nil]
    clear h hm
    go_enter Tryz.func9, Tryz.ntmps9
    go_wp2
    go_ret
    exact ⟨by rw [HF.out]; rfl, Below.refl _ _⟩
  | succ m =>
    rw [hn] at h hm ⊢
    obtain ⟨ad, e, rfl, HX, -, -, -, c17⟩ := el_37 h m (Nat.lt_succ_self m)
    have HF := hd_ (show outB xs = decide (e.f10 = 10) by
      unfold outB
      rw [List.getLast?_eq_getElem?, hn, Nat.add_sub_cancel, HX.out])
    have q1 : (0 : Int) < ((m + 1 : Nat) : Int) := by omega
    have q2 : ((m + 1 : Nat) : Int) - 1 = m := by omega
    clear h hn HX
    go_enter Tryz.func9, Tryz.ntmps9
    go_wp2
    go_ret
    exact ⟨by rw [HF.out]; rfl, Below.refl _ _⟩
end Go.Proofs.YtgopddjmmoohdaaGreatDoor

/- play: run. -/
set_option linter.unusedSimpArgs false
set_option linter.unusedVariables false
set_option maxRecDepth 100000
set_option maxHeartbeats 3200000
namespace Go.Proofs.YtgopddjmmoohdaaGreatDoor
open Go.RowKit Go.Proofs.YtgopddjmmoohdaaGreatDoorW.PrintWords Go.Proofs.YtgopddjmmoohdaaGreatDoorW.PrintLast Go.Proofs.YtgopddjmmoohdaaGreatDoor.PPlaySilent

theorem nameW_13 : nameW 13 = ⟨#[115, 101, 110, 100]⟩ := by decide +kernel
theorem nameW_ne {c : Int} (h : c ≠ 13) : nameW c ≠ ⟨#[115, 101, 110, 100]⟩ := by
  unfold nameW
  split
  · rename_i ht
    have hc : c = 1 ∨ c = 2 ∨ c = 3 ∨ c = 4 ∨ c = 5 ∨ c = 6 ∨ c = 7 ∨ c = 8 ∨ c = 9 ∨ c = 10 ∨ c = 11 ∨ c = 12 ∨ c = 14 ∨ c = 15 ∨ c = 16 ∨ c = 17 := by simp [there] at ht; omega
    rcases hc with rfl | rfl | rfl | rfl | rfl | rfl | rfl | rfl | rfl | rfl | rfl | rfl | rfl | rfl | rfl | rfl <;> decide +kernel
  · decide +kernel
/-- An operation's entry. -/
def opE (code err ans disp : Int) : S37 := ⟨0, 0, disp, 0, 0, 0, 0, [], ⟨false, false, false, false, false, false, false, false⟩, code, err, ans⟩
/-- What an operation does, by what send does. -/
def stepF (SF : S39 → Pl → Pl × Int × Int) (calls : Nat) (ctx : Int) (s : Pl) (x : S39) : Pl × Int × Int :=
  if x.f0 = 13 then SF x { s with fuel := s.fuel - 1 } else ({ s with fuel := s.fuel - 1, st := (doW calls s.st x ctx).1 }, (doW calls s.st x ctx).2.1, (doW calls s.st x ctx).2.2)
def opF (SF : S39 → Pl → Pl × Int × Int) (calls : Nat) (ctx disp : Int) (s : Pl) (x : S39) : Pl :=
  if s.out = true then s else if s.fuel = 0 then { s with tr := s.tr ++ [opE x.f0 10 0 disp], out := true }
  else noteF (stepF SF calls ctx s x).1 (opE x.f0 (stepF SF calls ctx s x).2.2 (stepF SF calls ctx s x).2.1 disp)
/-- What run does. -/
def runF (SF : S39 → Pl → Pl × Int × Int) (calls : Nat) (ctx disp : Int) (l : List S39) (s : Pl) : Pl := l.foldl (opF SF calls ctx disp) s
theorem opF_out {SF : S39 → Pl → Pl × Int × Int} {calls : Nat} {ctx disp : Int} {s : Pl} (h : s.out = true) (x : S39) : opF SF calls ctx disp s x = s := if_pos h
theorem runF_out {SF : S39 → Pl → Pl × Int × Int} {calls : Nat} {ctx disp : Int} {s : Pl} (h : s.out = true) : ∀ l : List S39, l.foldl (opF SF calls ctx disp) s = s
  | [] => rfl
  | x :: l => by rw [List.foldl_cons, opF_out h]; exact runF_out h l
/-- What holds of a player's state, with room for T entries. -/
structure PlOk (T : Int) (s : Pl) : Prop where
  f0 : 0 ≤ s.fuel
  f1 : (gsum s.st.sg : Int) + s.fuel ≤ 65536
  s0 : 0 ≤ s.sent
  s1 : s.sent + s.fuel ≤ 65536
  tie : TieOk s.st.l
  tr : (s.tr.length : Int) + 200000 * s.fuel ≤ T + (if s.out = true then 1 else 0)
theorem PlOk.more {T T' : Int} {s : Pl} (h : PlOk T s) (hT : T ≤ T') : PlOk T' s := ⟨h.f0, h.f1, h.s0, h.s1, h.tie, by have := h.tr; omega⟩
/-- What send must keep. -/
def SFOk (SF : S39 → Pl → Pl × Int × Int) : Prop := ∀ x s T, s.out = false → PlOk T s → PlOk (T + 199999) (SF x s).1 ∧ (SF x s).1.fuel ≤ s.fuel
theorem PlOk.note {T : Int} {s : Pl} (h : PlOk T s) (x : S37) : PlOk (T + 1) (noteF s x) := by
  unfold noteF
  split
  · exact h.more (by omega)
  · rename_i e
    refine ⟨h.f0, h.f1, h.s0, h.s1, h.tie, ?_⟩
    have := h.tr
    rw [if_neg e] at this ⊢
    rw [List.length_append, List.length_singleton]
    dsimp only
    omega
theorem noteF_fuel (s : Pl) (x : S37) : (noteF s x).fuel = s.fuel := by unfold noteF; split <;> rfl
theorem PlOk.step {SF : S39 → Pl → Pl × Int × Int} (hS : SFOk SF) {calls : Nat} {ctx : Int} {T : Int} {s : Pl} (h : PlOk T s) (ho : s.out = false) (hf : s.fuel ≠ 0) (x : S39) : PlOk (T - 1) (stepF SF calls ctx s x).1 ∧ (stepF SF calls ctx s x).1.fuel ≤ s.fuel := by
  have h0 := h.f0
  have h1 : PlOk (T - 200000) { s with fuel := s.fuel - 1 } := by
    have := h.tr
    have e1 := h.f1
    have e2 := h.s1
    exact ⟨by show 0 ≤ s.fuel - 1; omega, by show (gsum s.st.sg : Int) + (s.fuel - 1) ≤ 65536; omega, h.s0, by show s.sent + (s.fuel - 1) ≤ 65536; omega, h.tie, by show (s.tr.length : Int) + 200000 * (s.fuel - 1) ≤ _; dsimp only; omega⟩
  unfold stepF
  split
  · obtain ⟨h2, h3⟩ := hS x { s with fuel := s.fuel - 1 } _ ho h1
    exact ⟨h2.more (by omega), by have h3' : _ ≤ s.fuel - 1 := h3; omega⟩
  · have hg := @doW_sum calls s.st x ctx
    have := h1.f1
    refine ⟨⟨h1.f0, ?_, h1.s0, h1.s1, h.tie.do x ctx, ?_⟩, by show s.fuel - 1 ≤ s.fuel; omega⟩
    · have e := h.f1
      show (gsum (doW calls s.st x ctx).1.sg : Int) + (s.fuel - 1) ≤ 65536
      omega
    · have := h1.tr
      dsimp only at this ⊢
      omega
theorem PlOk.op {SF : S39 → Pl → Pl × Int × Int} (hS : SFOk SF) {calls : Nat} {ctx disp : Int} {T : Int} {s : Pl} (h : PlOk T s) (x : S39) : PlOk T (opF SF calls ctx disp s x) ∧ (opF SF calls ctx disp s x).fuel ≤ s.fuel := by
  unfold opF
  split
  · exact ⟨h, Int.le_refl _⟩
  · rename_i ho
    split
    · refine ⟨⟨h.f0, h.f1, h.s0, h.s1, h.tie, ?_⟩, Int.le_refl _⟩
      have := h.tr
      rw [if_neg ho] at this
      rw [List.length_append, List.length_singleton, if_pos rfl]
      dsimp only
      omega
    · rename_i hf
      obtain ⟨h1, h2⟩ := h.step hS (by simpa using ho) hf (calls := calls) (ctx := ctx) x
      exact ⟨by have := h1.note (opE x.f0 (stepF SF calls ctx s x).2.2 (stepF SF calls ctx s x).2.1 disp); exact this.more (by omega), by rw [noteF_fuel]; exact h2⟩
theorem PlOk.run {SF : S39 → Pl → Pl × Int × Int} (hS : SFOk SF) {calls : Nat} {ctx disp : Int} {T : Int} : ∀ (l : List S39) (s : Pl), PlOk T s → PlOk T (runF SF calls ctx disp l s) ∧ (runF SF calls ctx disp l s).fuel ≤ s.fuel
  | [], s, h => ⟨h, Int.le_refl _⟩
  | x :: l, s, h => by
    obtain ⟨h1, h2⟩ := h.op hS (calls := calls) (ctx := ctx) (disp := disp) x
    obtain ⟨h3, h4⟩ := PlOk.run hS l _ h1
    exact ⟨h3, Int.le_trans h4 h2⟩
end Go.Proofs.YtgopddjmmoohdaaGreatDoor

/- play: the loop of run. -/
set_option linter.unusedSimpArgs false
set_option linter.unusedVariables false
set_option maxRecDepth 100000
set_option maxHeartbeats 3200000
namespace Go.Proofs.YtgopddjmmoohdaaGreatDoor
open Go.RowKit Go.Proofs.YtgopddjmmoohdaaGreatDoorW.PrintWords Go.Proofs.YtgopddjmmoohdaaGreatDoorW.PrintLast Go.Proofs.YtgopddjmmoohdaaGreatDoor.PPlaySilent

theorem wpList_store_new {P : Program} {ops : Array Oper} {rest : List Oper} {o : Oper} {a : Act} {W : World} {Q : Exit → Act → World → Prop} (hgd : o.guard = none) (ty : TypeId) (x y : Operand) (ho : o.op = .store ty x y)
    (zs E : Array Value) (hx : a.eval x = .pointer (some ⟨W.heap.size, 0, none⟩)) (hy : a.eval y = .agg E) (hi : (P.info? ty).map (·.size) = some E.size) (hz : zs.size = E.size) (h1 : E.all (·.oneCell') = true)
    (h : ∀ w1, w1.heap[W.heap.size]? = some (.cells E ty (0, 0)) → Below W.heap.size W w1 → w1.heap.size = W.heap.size + 1 → wpList P ops Q rest (a.put o.dst undef) w1) :
    wpList P ops Q (o :: rest) a (W.alloc (.cells zs ty)) :=
  wpList_plain hgd fun K hK => by
    have hst := run_storeAt_new (P := P) W ty zs E hi hz h1
    unfold Oper.wp execOp
    simp only [ho, hx, hy, Sem.run_bind, Sem.run_pure, Result.andThen_ok, hst]
    exact hK _ _ (h _ (blk_new W _) (below_alloc (Below.refl _ _) _) (by simp))
section
variable {cl : Nat → Nat} {ow : Nat → Prop} {w0 w : World} {Pb Wb F L B calls : Nat} {vm vc : Value} {s : Pl}
theorem note_step {cl : Nat → Nat} {ow ow' : Nat → Prop} {Pb : Nat} {w W : World} (hS : Ste (mine cl ow Pb) w W) (hN : ∀ k, ow' k → ow k ∨ False ∨ w.heap.size ≤ k) : PlStep Pb cl ow cl ow' w W :=
  ⟨hS, fun k hk => hk.elim (fun e => .inl (.inl e)) (fun e => e.elim (fun e => (hN k e).elim (fun e => .inl (.inr (.inl e))) (fun e => e.elim (fun e => e.elim) .inr)) (fun e => .inl (.inr (.inr e))))⟩
theorem run_gen (SF : S39 → Pl → Pl × Int × Int) (hSF : SFOk SF) (T : Int) (hT : T ≤ 13107200000) (l : List S39) (A : Option Addr) (c : Nat) (ctx disp : Int) (h : PlC cl ow w0 w Pb Wb F L B calls vm vc s) (hO : LayO w0) (hok : PlOk T s)
    (hA : ∀ W, Ste (mine cl ow Pb) w W → k39.C W A l.length l)
    (hsend : ∀ (x : S39) (cl' : Nat → Nat) (ow' : Nat → Prop) (W : World) (s' : Pl), x ∈ l → x.f0 = 13 → PlC cl' ow' w0 W Pb Wb F L B calls vm vc s' → PlOk (T - 200000) s' → s'.fuel < s.fuel → s'.out = false →
      Calls Tryz.prog 24 #[.pointer (some ⟨Pb, 0, none⟩), opV x, .agg #[.int .i64 ctx, .int .i64 disp]] W (PlPost cl' ow' w0 W Pb Wb F L B calls vm vc (SF x s').1 (.tuple #[.int .i64 (SF x s').2.1, .int .i64 (SF x s').2.2]))) :
    Calls Tryz.prog 15 #[.pointer (some ⟨Pb, 0, none⟩), .slice A l.length c, .agg #[.int .i64 ctx, .int .i64 disp]] w (PlPost cl ow w0 w Pb Wb F L B calls vm vc (runF SF calls ctx disp l s) (.tuple #[])) := by
  have hcm := Kd.C_max (hA w (Ste.refl _ _))
  have e22 : ∀ args w, (callFunc 22 args).run Tryz.prog w = .ok (.enter 22 args) w := enters_of Tryz.func22 (by kernel_rfl) rfl
  have e24 : ∀ args w, (callFunc 24 args).run Tryz.prog w = .ok (.enter 24 args) w := enters_of Tryz.func24 (by kernel_rfl) rfl
  have hBa : Below w.heap.size w (w.alloc (.cells #[.int .i64 ctx, .int .i64 disp] 56)) := below_alloc (Below.refl _ _) _
  have hw1 := blk_new w (.cells #[.int .i64 ctx, .int .i64 disp] 56)
  have hloww := hd_ (fun k (hk : mine cl ow Pb k) => (h.low hk).2)
  have hPbw := hd_ (⟨h.pb, h.lt⟩ : w0.heap.size ≤ Pb ∧ Pb < w.heap.size)
  have h1 := hd_ (h.below hBa)
  replace hok := hd_ hok
  clear h
  go_enter Tryz.func15, Tryz.ntmps15
  go_wp2
  go_loopw [7, 8, 9, 10, 13] (fun v7 v8 v9 v10 i wr => ∃ (j : Nat) (cl' : Nat → Nat) (ow' : Nat → Prop) (s' : Pl), j ≤ l.length ∧ i = .int .i64 j ∧ Hd (PlC cl' ow' w0 wr Pb Wb F L B calls vm vc s') ∧ Hd (PlStep Pb cl ow cl' ow' (w.alloc (.cells #[.int .i64 ctx, .int .i64 disp] 56)) wr) ∧ Hd (PlOk T s' ∧ s'.fuel ≤ s.fuel) ∧ Hd (runF SF calls ctx disp l s = (l.drop j).foldl (opF SF calls ctx disp) s')) (fun _ _ _ _ i _ => l.length - (intOf i).toNat)
  case atStart => exact ⟨0, cl, ow, s, Nat.zero_le _, rfl, h1, ⟨PlStep.same (Below.refl _ _)⟩, ⟨hok.out, Int.le_refl _⟩, ⟨rfl⟩⟩
  case round =>
    obtain ⟨j, cl', ow', s', hj, rfl, HP, HS, HK, HR⟩ := hrel
    have hSw := hd_ ((PlStep.same (Pb := Pb) (cl := cl) (ow := ow) hBa).trans HS.out)
    by_cases hlt : j < l.length
    · obtain ⟨v, hPb, -⟩ := HP.out.row
      obtain ⟨ad, x, rfl, HX, x0, x1, x2, x3, x4, x5⟩ := el_op (hA wr hSw.out.ste) j hlt
      have hxl := hd_ (List.mem_of_getElem? HX.out)
      have hnot : ¬ mine cl ow Pb w.heap.size := fun hk => by have := hloww.out _ hk; omega
      have hsc : wr.heap[w.heap.size]? = some (.cells #[.int .i64 ctx, .int .i64 disp] 56 (0, 0)) := HS.out.ste.blk hw1 hnot
      have hlow := hd_ (HP.out.lt : Pb < wr.heap.size)
      have hscp : Hd (Pb < w.heap.size) := ⟨hPbw.out.2⟩
      have hnm := hd_ (fun (k : Nat) (hk : Pb < k) (hq : ¬ mine cl' ow' Pb k) => hq)
      have HR' := hd_ (HR.out.trans (by rw [List.drop_eq_getElem_cons hlt, List.foldl_cons, (List.getElem?_eq_some_iff.1 HX.out).2] : (l.drop j).foldl (opF SF calls ctx disp) s' = (l.drop (j + 1)).foldl (opF SF calls ctx disp) (opF SF calls ctx disp s' x)))
      clear HR
      obtain ⟨st, fu, ou, se, tr⟩ := s'
      cases ou with
      | true =>
        have hfin : runF SF calls ctx disp l s = ⟨st, fu, true, se, tr⟩ := by rw [HR'.out, opF_out (s := ⟨st, fu, true, se, tr⟩) rfl]; exact runF_out rfl _
        have hret := hd_ (fun W (hB : Below wr.heap.size wr W) => (⟨cl', ow', hfin ▸ HP.out.below hB, hSw.out.trans (PlStep.same hB)⟩ : ∃ cl' ow', PlC cl' ow' w0 W Pb Wb F L B calls vm vc (runF SF calls ctx disp l s) ∧ PlStep Pb cl ow cl' ow' w W))
        clear HK HX hxl HS HR' hfin
        go_wp2_with (refine gate_ (.store 39 (.tmp 7) (.tmp 16)) rfl ?_; refine wpList_store_new rfl 39 (.tmp 7) (.tmp 16) rfl _ #[.int .i64 x.f0, .int .i64 x.f1, .int .i64 x.f2, .int .i64 x.f3, .int .i64 x.f4, .string x.f5] rfl rfl info39s rfl (by simp [Value.oneCell']) ?_; intro w1 hX1 hB1 hs1; have hP1 := HP.out.below hB1; have hp1 := blk_below hPb hB1; have z3 : w1.cell? ⟨Pb, 3, none⟩ = some (.int .i64 fu) := (blk_cell hp1 3).trans rfl; have z4 : w1.cell? ⟨Pb, 4, none⟩ = some (.bool true) := (blk_cell hp1 4).trans rfl; have hsc1 := blk_below hsc hB1)
        go_end0
        exact ⟨rfl, hret.out _ hB1⟩
      | false =>
        by_cases hf : fu = 0
        · subst hf
          have hfin : runF SF calls ctx disp l s = ⟨st, 0, true, se, tr ++ [opE x.f0 10 0 disp]⟩ := by rw [HR'.out]; exact runF_out rfl _
          have hbd : (tr.length + 1) * 112 ≤ 140737488355328 := by have := HK.out.1.tr; dsimp only at this; rw [if_neg (by decide)] at this; omega
          have hret := hd_ (fun w1 (hB : Below wr.heap.size wr w1) (W : World) (ow6 : Nat → Prop) (hP6 : PlC cl' ow6 w0 W Pb Wb F L B calls vm vc (noteF ⟨st, 0, false, se, tr⟩ (opE x.f0 10 0 disp))) (hS6 : Ste (mine cl' ow' Pb) w1 W) (hN6 : ∀ k, ow6 k → ow' k ∨ False ∨ w1.heap.size ≤ k) =>
            (⟨cl', ow6, hfin ▸ (hP6.setP (s' := ⟨st, 0, true, se, tr ++ [opE x.f0 10 0 disp]⟩) 4 (.bool true) rfl rfl (fun v => rfl)).1, ((hSw.out.trans (PlStep.same hB)).trans (note_step hS6 hN6)).trans (hP6.setP (s' := ⟨st, 0, true, se, tr ++ [opE x.f0 10 0 disp]⟩) 4 (.bool true) rfl rfl (fun v => rfl)).2⟩ : ∃ cl' ow', PlC cl' ow' w0 (W.setCell ⟨Pb, 4, none⟩ (.bool true)) Pb Wb F L B calls vm vc (runF SF calls ctx disp l s) ∧ PlStep Pb cl ow cl' ow' w (W.setCell ⟨Pb, 4, none⟩ (.bool true))))
          have hnote := fun W (hp : PlC cl' ow' w0 W Pb Wb F L B calls vm vc ⟨st, 0, false, se, tr⟩) => note_any hp (opE x.f0 10 0 disp) (.slice none 0 0) (fun _ => False) (Kd.R_nil _ _ _ _ _) (fun _ h => h.elim) hbd
          simp only [opE] at hnote
          clear HK HX hxl HS HR' hfin
          go_wp2_with (first
            | (refine gate_ (.store 39 (.tmp 7) (.tmp 16)) rfl ?_; refine wpList_store_new rfl 39 (.tmp 7) (.tmp 16) rfl _ #[.int .i64 x.f0, .int .i64 x.f1, .int .i64 x.f2, .int .i64 x.f3, .int .i64 x.f4, .string x.f5] rfl rfl info39s rfl (by simp [Value.oneCell']) ?_; intro w1 hX1 hB1 hs1; have hP1 := HP.out.below hB1; have hp1 := blk_below hPb hB1; have z3 : w1.cell? ⟨Pb, 3, none⟩ = some (.int .i64 0) := (blk_cell hp1 3).trans rfl; have z4 : w1.cell? ⟨Pb, 4, none⟩ = some (.bool false) := (blk_cell hp1 4).trans rfl; have hsc1 := blk_below hsc hB1; have hx0 := (blk_cell hX1 0).trans rfl; have hs0 := (blk_cell hsc1 1).trans rfl; have hn := hnote _ hP1)
            | (go_at_call 21; (with_reducible refine hn.mono ?_); rintro e w6 ⟨rfl, ow6, hP6, hS6, hN6⟩; obtain ⟨v6, hp6, -⟩ := hP6.row; have z46 : w6.cell? ⟨Pb, 4, none⟩ = some (.bool false) := (blk_cell hp6 4).trans rfl; have f46 := blk_frozen hp6 4))
          go_end0
          exact ⟨rfl, hret.out _ hB1 _ _ hP6 hS6 hN6⟩
        · obtain ⟨r, hr⟩ : ∃ r, r = stepF SF calls ctx ⟨st, fu, false, se, tr⟩ x := ⟨_, rfl⟩
          have HRf := hd_ (HR'.out.trans (by rw [show opF SF calls ctx disp ⟨st, fu, false, se, tr⟩ x = noteF r.1 (opE x.f0 r.2.2 r.2.1 disp) by rw [hr]; exact (if_neg (by simp)).trans (if_neg hf)]))
          have hok1 := HK.out.1.step hSF rfl hf (calls := calls) (ctx := ctx) x
          rw [← hr] at hok1
          have hok2 := hd_ (⟨(hok1.1.note (opE x.f0 r.2.2 r.2.1 disp)).more (by omega), by rw [noteF_fuel]; exact Int.le_trans hok1.2 HK.out.2⟩ : PlOk T (noteF r.1 (opE x.f0 r.2.2 r.2.1 disp)) ∧ (noteF r.1 (opE x.f0 r.2.2 r.2.1 disp)).fuel ≤ s.fuel)
          have hbd : (r.1.tr.length + 1) * 112 ≤ 140737488355328 := by
            have h1 := hok1.1.tr
            have h2 := hok1.1.f0
            split at h1 <;> omega
          have hk0 : 0 ≤ fu := HK.out.1.f0
          have hk1 : fu ≤ 65536 := by have := HK.out.1.f1; dsimp only at this; omega
          have hnote := fun cl5 ow5 W (hp : PlC cl5 ow5 w0 W Pb Wb F L B calls vm vc r.1) => note_any hp (opE x.f0 r.2.2 r.2.1 disp) (.slice none 0 0) (fun _ => False) (Kd.R_nil _ _ _ _ _) (fun _ h => h.elim) hbd
          simp only [opE] at hnote
          have hset := hd_ (fun W (hp : PlC cl' ow' w0 W Pb Wb F L B calls vm vc ⟨st, fu, false, se, tr⟩) => hp.setP (s' := ⟨st, fu - 1, false, se, tr⟩) 3 (.int .i64 (fu - 1)) rfl rfl (fun v => rfl))
          have hnx : ¬ mine cl' ow' Pb wr.heap.size := fun hk => by have := (HP.out.low hk).2; omega
          have hns : ¬ mine cl' ow' Pb w.heap.size := fun hk => (HS.out.new _ hk).elim hnot (fun e => by rw [World.size_alloc] at e; omega)
          have hSu := hd_ HS.out
          by_cases h13 : x.f0 = 13
          · have hop : ∀ W, PlC cl' ow' w0 W Pb Wb F L B calls vm vc ⟨st, fu - 1, false, se, tr⟩ → Calls Tryz.prog 24 #[.pointer (some ⟨Pb, 0, none⟩), opV x, .agg #[.int .i64 ctx, .int .i64 disp]] W (PlPost cl' ow' w0 W Pb Wb F L B calls vm vc r.1 (.tuple #[.int .i64 r.2.1, .int .i64 r.2.2])) := fun W hp => by
              rw [hr, show stepF SF calls ctx ⟨st, fu, false, se, tr⟩ x = SF x ⟨st, fu - 1, false, se, tr⟩ from if_pos h13]
              refine hsend x cl' ow' W _ hxl.out h13 hp ?_ (by have := HK.out.2; dsimp only at this ⊢; omega) rfl
              have h1 := HK.out.1.tr
              have h2 := HK.out.1.f1
              have h3 := HK.out.1.s1
              dsimp only at h1 h2 h3
              rw [if_neg (by decide)] at h1
              exact ⟨by dsimp only; omega, by dsimp only; omega, HK.out.1.s0, by dsimp only; omega, HK.out.1.tie, by dsimp only; rw [if_neg (by decide)]; omega⟩
            have q13 : ((nameW x.f0).toList == [115, 101, 110, 100]) = true := by rw [h13, nameW_13]; decide +kernel
            replace h13 := hd_ h13
            simp only [opV] at hop
            clear HK HX hxl HS HR' hok1 hbd hsend hr
            go_wp2_with (first
              | (refine gate_ (.store 39 (.tmp 7) (.tmp 16)) rfl ?_; refine wpList_store_new rfl 39 (.tmp 7) (.tmp 16) rfl _ #[.int .i64 x.f0, .int .i64 x.f1, .int .i64 x.f2, .int .i64 x.f3, .int .i64 x.f4, .string x.f5] rfl rfl info39s rfl (by simp [Value.oneCell']) ?_; intro w1 hX1 hB1 hs1; have hP1 := HP.out.below hB1; have hp1 := blk_below hPb hB1; have z3 : w1.cell? ⟨Pb, 3, none⟩ = some (.int .i64 fu) := (blk_cell hp1 3).trans rfl; have z4 : w1.cell? ⟨Pb, 4, none⟩ = some (.bool false) := (blk_cell hp1 4).trans rfl; have hsc1 := blk_below hsc hB1; have f3 := blk_frozen hp1 3; have hx3 := blk_far hX1 (p := ⟨Pb, 3, none⟩) (by have := hlow.out; simp only; omega) (.int .i64 (fu - 1)); have hsc3 := blk_far hsc1 (p := ⟨Pb, 3, none⟩) (by have := hscp.out; simp only; omega) (.int .i64 (fu - 1)); have y0 := (blk_cell hx3 0).trans rfl; have y1 := (blk_cell hx3 1).trans rfl; have y2 := (blk_cell hx3 2).trans rfl; have y3 := (blk_cell hx3 3).trans rfl; have y4 := (blk_cell hx3 4).trans rfl; have y5 := (blk_cell hx3 5).trans rfl; have t0 := (blk_cell hsc3 0).trans rfl; have t1 := (blk_cell hsc3 1).trans rfl; have hP3 := hset.out _ hP1; have hna := oname_any x.f0 _ (hO.below hP3.1.wo.base))
              | (go_at_call 23; (with_reducible refine hna.mono ?_); rintro e w4 ⟨rfl, rfl⟩)
              | (go_at_fn 24; (refine (hop _ hP3.1).mono ?_); rintro e w5 ⟨rfl, cl5, ow5, hP5, hS5⟩; have hx5 := hS5.ste.blk hx3 hnx; have hsc5 := hS5.ste.blk hsc3 hns; have v0 := (blk_cell hx5 0).trans rfl; have v1 := (blk_cell hsc5 1).trans rfl; have hn := hnote _ _ _ hP5)
              | (go_at_call 21; (with_reducible refine hn.mono ?_); rintro e w6 ⟨rfl, ow6, hP6, hS6, hN6⟩))
            go_roundw
            case rel => exact ⟨j + 1, cl5, ow6, _, by omega, by go_num, ⟨hP6⟩, ⟨(((hSu.out.trans (PlStep.same hB1)).trans hP3.2).trans hS5).trans (note_step hS6 hN6)⟩, hok2, HRf⟩
            case measure => simp [intOf]; omega
          · have hop : ∀ W, PlC cl' ow' w0 W Pb Wb F L B calls vm vc ⟨st, fu - 1, false, se, tr⟩ → Calls Tryz.prog 22 #[.pointer (some ⟨Pb, 0, none⟩), opV x, .agg #[.int .i64 ctx, .int .i64 disp]] W (PlPost cl' ow' w0 W Pb Wb F L B calls vm vc r.1 (.tuple #[.int .i64 r.2.1, .int .i64 r.2.2])) := fun W hp => by
              rw [hr, show stepF SF calls ctx ⟨st, fu, false, se, tr⟩ x = (⟨(doW calls st x ctx).1, fu - 1, false, se, tr⟩, (doW calls st x ctx).2.1, (doW calls st x ctx).2.2) from if_neg h13]
              exact do_any hp (hO.below hp.wo.base) (SgOk.of_sum (by have := HK.out.1.f1; dsimp only at this ⊢; omega)) x ctx disp
            have q13 : ((nameW x.f0).toList == [115, 101, 110, 100]) = false := beq_eq_false_iff_ne.2 (fun e => nameW_ne h13 (toList_inj (e.trans (by decide +kernel))))
            replace h13 := hd_ h13
            simp only [opV] at hop
            clear HK HX hxl HS HR' hok1 hbd hsend hr
            go_wp2_with (first
              | (refine gate_ (.store 39 (.tmp 7) (.tmp 16)) rfl ?_; refine wpList_store_new rfl 39 (.tmp 7) (.tmp 16) rfl _ #[.int .i64 x.f0, .int .i64 x.f1, .int .i64 x.f2, .int .i64 x.f3, .int .i64 x.f4, .string x.f5] rfl rfl info39s rfl (by simp [Value.oneCell']) ?_; intro w1 hX1 hB1 hs1; have hP1 := HP.out.below hB1; have hp1 := blk_below hPb hB1; have z3 : w1.cell? ⟨Pb, 3, none⟩ = some (.int .i64 fu) := (blk_cell hp1 3).trans rfl; have z4 : w1.cell? ⟨Pb, 4, none⟩ = some (.bool false) := (blk_cell hp1 4).trans rfl; have hsc1 := blk_below hsc hB1; have f3 := blk_frozen hp1 3; have hx3 := blk_far hX1 (p := ⟨Pb, 3, none⟩) (by have := hlow.out; simp only; omega) (.int .i64 (fu - 1)); have hsc3 := blk_far hsc1 (p := ⟨Pb, 3, none⟩) (by have := hscp.out; simp only; omega) (.int .i64 (fu - 1)); have y0 := (blk_cell hx3 0).trans rfl; have y1 := (blk_cell hx3 1).trans rfl; have y2 := (blk_cell hx3 2).trans rfl; have y3 := (blk_cell hx3 3).trans rfl; have y4 := (blk_cell hx3 4).trans rfl; have y5 := (blk_cell hx3 5).trans rfl; have t0 := (blk_cell hsc3 0).trans rfl; have t1 := (blk_cell hsc3 1).trans rfl; have hP3 := hset.out _ hP1; have hna := oname_any x.f0 _ (hO.below hP3.1.wo.base))
              | (go_at_call 23; (with_reducible refine hna.mono ?_); rintro e w4 ⟨rfl, rfl⟩)
              | (go_at_fn 22; (refine (hop _ hP3.1).mono ?_); rintro e w5 ⟨rfl, cl5, ow5, hP5, hS5⟩; have hx5 := hS5.ste.blk hx3 hnx; have hsc5 := hS5.ste.blk hsc3 hns; have v0 := (blk_cell hx5 0).trans rfl; have v1 := (blk_cell hsc5 1).trans rfl; have hn := hnote _ _ _ hP5)
              | (go_at_call 21; (with_reducible refine hn.mono ?_); rintro e w6 ⟨rfl, ow6, hP6, hS6, hN6⟩))
            go_roundw
            case rel => exact ⟨j + 1, cl5, ow6, _, by omega, by go_num, ⟨hP6⟩, ⟨(((hSu.out.trans (PlStep.same hB1)).trans hP3.2).trans hS5).trans (note_step hS6 hN6)⟩, hok2, HRf⟩
            case measure => simp [intOf]; omega
    · have hfin := hd_ (show runF SF calls ctx disp l s = s' by rw [HR.out, List.drop_eq_nil_of_le (by omega)]; rfl)
      have hret := hd_ (⟨cl', ow', hfin.out ▸ HP.out, hSw.out⟩ : ∃ cl' ow', PlC cl' ow' w0 wr Pb Wb F L B calls vm vc (runF SF calls ctx disp l s) ∧ PlStep Pb cl ow cl' ow' w wr)
      clear HP HS HK HR hfin hSw
      go_wp2
      go_end0
      exact ⟨rfl, hret.out⟩
end
end Go.Proofs.YtgopddjmmoohdaaGreatDoor

/- play: Run. -/
set_option linter.unusedSimpArgs false
set_option linter.unusedVariables false
set_option maxRecDepth 100000
set_option maxHeartbeats 3200000
namespace Go.Proofs.YtgopddjmmoohdaaGreatDoor
open Go.RowKit Go.Proofs.YtgopddjmmoohdaaGreatDoorW.PrintWords Go.Proofs.YtgopddjmmoohdaaGreatDoorW.PrintLast Go.Proofs.YtgopddjmmoohdaaGreatDoor.PPlaySilent

/-- A player at its start. -/
def startPl (f : Int) : Pl := ⟨⟨[], [], [], []⟩, max (min f 65536) 0, false, 0, []⟩
/-- How a program is played. -/
def playF (SF : S39 → Pl → Pl × Int × Int) (p : ProgV) (f : Int) : Pl := runF SF p.calls.length 0 0 p.main (startPl f)
theorem startOk (f : Int) : PlOk 13107200000 (startPl f) := by
  have h0 : 0 ≤ max (min f 65536) 0 := by omega
  have h1 : max (min f 65536) 0 ≤ 65536 := by omega
  refine ⟨h0, ?_, Int.le_refl _, ?_, TieOk.nil, ?_⟩
  · show ((gsum [] : Nat) : Int) + max (min f 65536) 0 ≤ 65536
    rw [show gsum [] = 0 from rfl]
    omega
  · show (0 : Int) + max (min f 65536) 0 ≤ 65536
    omega
  · show ((([] : List S37).length : Nat) : Int) + 200000 * max (min f 65536) 0 ≤ 13107200000 + (if false = true then 1 else 0)
    rw [List.length_nil, if_neg (by decide)]
    omega
theorem C_one {α : Type} {d : Kd α} {w : World} {g : Nat} {t : TypeId} {cs : List Value} {x : α} (hb : w.heap[g]? = some (.cells cs.toArray t (0, 0))) (hk : d.K w x cs) : d.C w (some ⟨g, 0, none⟩) 1 [x] :=
  ⟨rfl, by decide, fun _ => ⟨_, rfl, fun j p hj => by
    cases j with
    | zero =>
      obtain rfl : x = p := Option.some.inj hj
      exact ⟨cs, d.K_len hk, hk, fun i u hu => by rw [Nat.zero_mul, Nat.zero_add, add_plain, blk_cell hb]; simpa using hu⟩
    | succ j => simp at hj⟩⟩
def errE (e : Int) : S37 := opE 0 e 0 0
theorem playrun_any (SF : S39 → Pl → Pl × Int × Int) (hSF : SFOk SF) (vm vc : Value) (p : ProgV) (f : Int) (w : World) (hO : LayO w) (hp : ReadsP w vm vc p) (hb : countP p ≤ 4294967296)
    (hsend : ∀ (w0 : World) (Pb Wb F L B : Nat) (x : S39) (cl' : Nat → Nat) (ow' : Nat → Prop) (W : World) (s' : Pl), Below w.heap.size w w0 → x ∈ p.main → x.f0 = 13 → PlC cl' ow' w0 W Pb Wb F L B p.calls.length vm vc s' → PlOk (13107200000 - 200000) s' → s'.fuel < (startPl f).fuel → s'.out = false →
      Calls Tryz.prog 24 #[.pointer (some ⟨Pb, 0, none⟩), opV x, .agg #[.int .i64 0, .int .i64 0]] W (PlPost cl' ow' w0 W Pb Wb F L B p.calls.length vm vc (SF x s').1 (.tuple #[.int .i64 (SF x s').2.1, .int .i64 (SF x s').2.2]))) :
    Calls Tryz.prog 8 #[.agg #[vm, vc], .int .i64 f] w fun e w' => Below w.heap.size w w' ∧ (checkC p ≠ 0 → ∃ A c, e = .returned (.tuple #[.slice A 1 c, .pointer none]) ∧ k37.C w' A 1 [errE (checkC p)]) ∧
      (checkC p = 0 → ∃ A c w0 cl ow Pb Wb F L B, e = .returned (.tuple #[.slice A (playF SF p f).tr.length c, .pointer (some ⟨Wb, 0, none⟩)]) ∧ k37.C w' A (playF SF p f).tr.length (playF SF p f).tr ∧ Below w.heap.size w w0 ∧ PlC cl ow w0 w' Pb Wb F L B p.calls.length vm vc (playF SF p f)) := by
  have hck := fun W (hB : Below w.heap.size w W) => pcheck_any vm vc p W (hO.below hB) (hp.below hB) hb
  obtain ⟨Am, cm, Ac, cc, rfl, rfl, hm, hc⟩ := hp
  have hX0 := blk_new w (.cells #[.slice Am p.main.length cm, .slice Ac p.calls.length cc] 25)
  have hB0 : Below w.heap.size w (w.alloc (.cells #[.slice Am p.main.length cm, .slice Ac p.calls.length cc] 25)) := below_alloc (Below.refl _ _) _
  by_cases hq : checkC p = 0
  · rw [hq] at hck
    have hrun := hd_ (fun (w0 W : World) (cl : Nat → Nat) (Pb Wb F L B : Nat) (hB : Below w.heap.size w w0) (hP : PlC cl (fun _ => False) w0 W Pb Wb F L B p.calls.length (.slice Am p.main.length cm) (.slice Ac p.calls.length cc) (startPl f)) =>
      run_gen SF hSF 13107200000 (by decide) p.main Am cm 0 0 hP (hO.below hB) (startOk f) (fun W' hS => Kd.C_below hm (hB.trans ((hS.base hP.wo.base hP.wo.base.size (fun k hk => (hP.low hk).1)).mono hB.size))) (fun x cl' ow' W' s' => hsend w0 Pb Wb F L B x cl' ow' W' s' hB))
    have hsf := hd_ (show runF SF p.calls.length 0 0 p.main (startPl f) = playF SF p f from rfl)
    clear hm hc hsend hO
    generalize playF SF p f = sF at *
    go_enter Tryz.func8, Tryz.ntmps8
    go_wp2_with (go_at_call 13; (with_reducible refine (hck _ hB0).mono ?_); rintro e w1 ⟨⟨a1, a2, rfl⟩, hB1⟩; have hX1 := blk_below hX0 hB1; have z0 := (blk_cell hX1 0).trans rfl; have z1 := (blk_cell hX1 1).trans rfl; have hC1 := below_then hB0 hB0.size hB1)
    refine start_ (n := 9) (S := (fun W_ => W_.heap[w.heap.size]? = some (.cells #[.slice Am p.main.length cm, .slice Ac p.calls.length cc] 25 (0, 0)))) (ds := [7]) (bm 9 0) (by kernel_rfl) rfl (by kernel_rfl) hX1 (fun hHeld => ?_)
    refine tb_ 0 (some 21) (bm 9 1) hHeld ?_ (hy := by intro w' hSw; have z0 := (blk_cell hSw 0).trans rfl; have z1 := (blk_cell hSw 1).trans rfl; go_simp; with_reducible rfl)
    refine tb_ 2 (some 23) (bm 9 5) hHeld ?_ (hy := by intro w' hSw; have z0 := (blk_cell hSw 0).trans rfl; have z1 := (blk_cell hSw 1).trans rfl; go_simp; with_reducible rfl)
    refine pu_ 3 (some 24) (bm 9 13) ?_
    refine pu_ 4 (some 25) (bm 9 29) ?_
    refine pu_ 5 (some 26) (bm 9 61) ?_
    refine one_ (i := 1) (N := (some 22)) (bm 9 63) rfl rfl (by kernel_rfl) (by decide) (fun K hK => ?_)
    refine goes_ Tryz.func14 (by kernel_rfl) rfl #[.agg #[.slice Am p.main.length cm, .slice Ac p.calls.length cc]] (by rfl) rfl rfl (by try simp only [List.map_toArray, List.map_cons, List.map_nil]; first | done | rfl) ?_
    refine (wnew_any Am Ac p.main.length cm p.calls.length cc _).mono ?_
    rintro e w2 ⟨Wb, F, L, B, cl, rfl, hW⟩
    have hXw2 := hW.base.block _ (blk_lt hHeld) |>.trans hHeld
    refine ⟨_, rfl, ?_⟩
    refine hK.out _ _ hXw2 (fun hHeld => ?_)
    clear hK K
    refine norm_ (a' := ?_) ?_ ?_
    rotate_left
    · show Act.put _ (some 22) _ = _
      simp only [Act.put, List.setIfInBounds_toArray, List.set_cons_zero, List.set_cons_succ]
      rfl
    refine pu_ 6 (some 27) (bm 9 127) ?_
    refine last_ (i := 7) (N := some 28) (bm 9 255) rfl rfl (by kernel_rfl) (by decide) (fun K hK => ?_)
    refine value_ (w1 := w2.alloc (.cells #[.pointer (some ⟨Wb, 0, none⟩), .slice Am p.main.length cm, .slice Ac p.calls.length cc, .int .i64 (max (min f 65536) 0), .bool false, .int .i64 0, .slice none 0 0] 53)) (v := .pointer (some ⟨w2.heap.size, 0, none⟩)) (by rfl) rfl ?_ ?_
    · go_simp
    refine hK.out _ _ ?_
    clear hK K
    refine norm_ (a' := ?_) ?_ ?_
    rotate_left
    · show Act.put _ (some 28) _ = _
      simp only [Act.put, List.setIfInBounds_toArray, List.set_cons_zero, List.set_cons_succ]
      rfl
    refine pu_ 8 (some 9) (bm 9 511) ?_
    refine done_ (by kernel_rfl) ?_
    have hXw3 := alloc_at hXw2 (.cells #[.pointer (some ⟨Wb, 0, none⟩), .slice Am p.main.length cm, .slice Ac p.calls.length cc, .int .i64 (max (min f 65536) 0), .bool false, .int .i64 0, .slice none 0 0] 53)
    have y0 := (blk_cell hXw3 0).trans rfl
    have hP : PlC cl (fun _ => False) w1.drew (w2.alloc (.cells #[.pointer (some ⟨Wb, 0, none⟩), .slice Am p.main.length cm, .slice Ac p.calls.length cc, .int .i64 (max (min f 65536) 0), .bool false, .int .i64 0, .slice none 0 0] 53)) w2.heap.size Wb F L B p.calls.length (.slice Am p.main.length cm) (.slice Ac p.calls.length cc) (startPl f) :=
      ⟨hW.below (below_alloc (Below.refl _ _) _), hW.base.size, hW.zero (Nat.le_refl _), id, fun _ h => h.elim, _, blk_new _ _, Kd.R_nil _ _ _ _ _⟩
    have hr := hrun.out w1.drew _ cl _ Wb F L B (below_drew hC1) hP
    rw [hsf.out] at hr
    clear hrun hP hXw3 hXw2 hck hsf
    go_wp2_with (go_at_call 15; (with_reducible refine hr.mono ?_); rintro e w4 ⟨rfl, cl4, ow4, hP4, hS4⟩; obtain ⟨v4, hPt, hR4⟩ := hP4.row; obtain ⟨At, ct, rfl, hct, hCt⟩ := Kd.R_reads hR4)
    refine start_ (n := 10) (S := (fun W_ => W_.heap[w2.heap.size]? = some (.cells (plC Wb (.slice Am p.main.length cm) (.slice Ac p.calls.length cc) (.slice At sF.tr.length ct) sF) 53 (0, 0)))) (ds := []) (bm 10 0) (by kernel_rfl) rfl (by kernel_rfl) hPt (fun hHeld => ?_)
    refine pu_ 0 (some 34) (bm 10 1) ?_
    refine pu_ 1 (some 35) (bm 10 3) ?_
    refine pu_ 2 (some 36) (bm 10 7) ?_
    refine tb_ 3 (some 37) (bm 10 15) hHeld ?_ (hy := by intro w' hSw; have z8 : w'.cell? ⟨w2.heap.size, 6, none⟩ = some (.slice At sF.tr.length ct) := (blk_cell hSw 6).trans rfl; go_simp; with_reducible rfl)
    refine pu_ 4 (some 38) (bm 10 31) ?_
    refine pu_ 5 (some 39) (bm 10 63) ?_
    refine pu_ 6 (some 40) (bm 10 127) ?_
    refine tb_ 7 (some 41) (bm 10 255) hHeld ?_ (hy := by intro w' hSw; have z8 : w'.cell? ⟨w2.heap.size, 0, none⟩ = some (.pointer (some ⟨Wb, 0, none⟩)) := (blk_cell hSw 0).trans rfl; go_simp; with_reducible rfl)
    refine pu_ 8 (some 4) (bm 10 511) ?_
    refine pu_ 9 (some 5) (bm 10 1023) ?_
    refine done_ (by kernel_rfl) ?_
    go_wp2
    go_ret2
    have hBf := below_drew (Below.refl w4.heap.size w4)
    refine ⟨(below_drew hC1).trans ((hP4.wo.base.mono (below_drew hC1).size).trans (hBf.mono ?_)), fun h => absurd hq h, fun _ => ⟨At, ct, w1.drew, cl4, ow4, w2.heap.size, Wb, F, L, B, rfl, Kd.C_below hCt hBf, below_drew hC1, hP4.below hBf⟩⟩
    exact Nat.le_trans (below_drew hC1).size hP4.wo.base.size
  · obtain ⟨q, hqe⟩ : ∃ q, q = checkC p := ⟨_, rfl⟩
    rw [← hqe] at hck hq ⊢
    clear hm hc hsend hO hqe
    go_enter Tryz.func8, Tryz.ntmps8
    go_wp2_with (go_at_call 13; (with_reducible refine (hck _ hB0).mono ?_); rintro e w1 ⟨⟨a1, a2, rfl⟩, hB1⟩; have hC1 := below_then hB0 hB0.size hB1)
    go_ret2
    exact ⟨below_alloc hC1 _, fun _ => ⟨_, _, rfl, C_one (blk_new _ _) (k37_mk _ (errE q) (Nat.zero_le _) ⟨rfl, Nat.zero_le _, fun h => absurd h (Nat.lt_irrefl 0)⟩)⟩, fun h => absurd h hq⟩
end Go.Proofs.YtgopddjmmoohdaaGreatDoor

/- The laws of play: awake. -/
set_option linter.unusedSimpArgs false
set_option linter.unusedVariables false
set_option maxRecDepth 100000
set_option maxHeartbeats 3200000
namespace Go.Proofs.YtgopddjmmoohdaaGreatDoor
open Go.RowKit Go.Proofs.YtgopddjmmoohdaaGreatDoorW.PrintWords Go.Proofs.YtgopddjmmoohdaaGreatDoorW.PrintLast Go.Proofs.YtgopddjmmoohdaaGreatDoor.PPlaySilent

/-- Where nothing is sent. -/
def SF0 : S39 → Pl → Pl × Int × Int := fun _ s => (s, 0, 0)
theorem SF0_ok : SFOk SF0 := fun _ s T _ h => ⟨h.more (by omega), Int.le_refl _⟩
theorem playsilent_any (vm vc : Value) (p : ProgV) (f : Int) (w : World) (hO : LayO w) (hp : ReadsP w vm vc p) (hb : countP p ≤ 4294967296) (hn : ∀ x ∈ p.main, x.f0 ≠ 13) :
    Calls Tryz.prog 8 #[.agg #[vm, vc], .int .i64 f] w fun e w' => Below w.heap.size w w' ∧ (checkC p ≠ 0 → ∃ A c, e = .returned (.tuple #[.slice A 1 c, .pointer none]) ∧ k37.C w' A 1 [errE (checkC p)]) ∧
      (checkC p = 0 → ∃ A c w0 cl ow Pb Wb F L B, e = .returned (.tuple #[.slice A (playF SF0 p f).tr.length c, .pointer (some ⟨Wb, 0, none⟩)]) ∧ k37.C w' A (playF SF0 p f).tr.length (playF SF0 p f).tr ∧ Below w.heap.size w w0 ∧ PlC cl ow w0 w' Pb Wb F L B p.calls.length vm vc (playF SF0 p f)) :=
  playrun_any SF0 SF0_ok vm vc p f w hO hp hb (fun _ _ _ _ _ _ x _ _ _ _ _ hx h13 => absurd h13 (hn x hx))
def op17 : S39 := ⟨17, 1, 0, 0, 0, ⟨#[]⟩⟩
theorem awake_any (w : World) (hO : LayO w) : Calls Tryz.prog 6 #[] w fun e w' => e = .returned (.bool true) ∧ Below w.heap.size w w' := by
  have h1 : ∀ W, Below w.heap.size w W → Calls Tryz.prog 8 #[.agg #[.slice none 0 0, .slice none 0 0], .int .i64 5] W fun e w' => Below W.heap.size W w' ∧ ∃ A c Wb, e = .returned (.tuple #[.slice A 0 c, .pointer (some ⟨Wb, 0, none⟩)]) := fun W hB => by
    have hz : ∀ {α : Type} (d : Kd α), d.C W none 0 [] := fun d => ⟨rfl, by decide, fun h => absurd h (by decide)⟩
    refine (playsilent_any (.slice none 0 0) (.slice none 0 0) ⟨[], []⟩ 5 W (hO.below hB) ⟨none, 0, none, 0, rfl, rfl, hz _, hz _⟩ (by decide) (fun _ h => by cases h)).mono ?_
    rintro e w' ⟨hB', -, hk⟩
    obtain ⟨A, c, w0, cl, ow, Pb, Wb, F, L, B, rfl, -, -, -⟩ := hk (by decide +kernel)
    exact ⟨hB', A, c, Wb, rfl⟩
  have h2 : ∀ W b, Below w.heap.size w W → W.heap[b]? = some (.cells #[.int .i64 17, .int .i64 1, .int .i64 0, .int .i64 0, .int .i64 0, .string ⟨#[]⟩] 39 (0, 0)) → Calls Tryz.prog 8 #[.agg #[.slice (some ⟨b, 0, none⟩) 1 1, .slice none 0 0], .int .i64 0] W fun e w' => Below W.heap.size W w' ∧ ∃ A c Wb, e = .returned (.tuple #[.slice A 1 c, .pointer (some ⟨Wb, 0, none⟩)]) ∧ k37.C w' A 1 [opE 17 10 0 0] := fun W b hB hX => by
    have hz : ∀ {α : Type} (d : Kd α), d.C W none 0 [] := fun d => ⟨rfl, by decide, fun h => absurd h (by decide)⟩
    refine (playsilent_any (.slice (some ⟨b, 0, none⟩) 1 1) (.slice none 0 0) ⟨[op17], []⟩ 0 W (hO.below hB) ⟨_, 1, none, 0, rfl, rfl, C_one hX (k39_mk _ op17), hz _⟩ (by decide) (fun x hx => by rw [List.mem_singleton.1 hx]; decide)).mono ?_
    rintro e w' ⟨hB', -, hk⟩
    obtain ⟨A, c, w0, cl, ow, Pb, Wb, F, L, B, rfl, hC, -, -⟩ := hk (by decide +kernel)
    exact ⟨hB', A, c, Wb, rfl, hC⟩
  have hX2 := fun W => blk_new W (.cells #[.int .i64 17, .int .i64 1, .int .i64 0, .int .i64 0, .int .i64 0, .string ⟨#[]⟩] 39)
  have hz : ∀ W, k37.C W none 0 [] := fun W => ⟨rfl, by decide, fun h => absurd h (by decide)⟩
  have hz0 : ∀ (W : World) A, k37.C W A 0 [] := fun W A => ⟨rfl, by decide, fun h => absurd h (by decide)⟩
  have ho1 : ∀ W A c, Calls Tryz.prog 9 #[.slice A 0 c] W fun e w' => e = .returned (.bool false) ∧ Below W.heap.size W w' := fun W A c => pout_any A c [] W (hz0 W A)
  have ho2 : ∀ W A c, k37.C W A 1 [opE 17 10 0 0] → Calls Tryz.prog 9 #[.slice A 1 c] W fun e w' => e = .returned (.bool true) ∧ Below W.heap.size W w' := fun W A c h => pout_any A c [opE 17 10 0 0] W h
  have hB0 := Below.refl w.heap.size w
  clear hz hz0
  go_enter Tryz.func6, Tryz.ntmps6
  go_wp2_with (first
    | (go_at_call 8; (with_reducible refine (h1 _ hB0).mono ?_); rintro e w1 ⟨hB1, A1, c1, Wb1, rfl⟩; have hC1 := below_then hB0 hB0.size hB1)
    | (go_at_call 8; (with_reducible refine (h2 _ _ (below_alloc hC1 _) (hX2 _)).mono ?_); rintro e w2 ⟨hB2, A2, c2, Wb2, rfl, hD2⟩; have hC2 := below_then (below_alloc hC1 _) (below_alloc hC1 _).size hB2)
    | (go_at_call 9; (with_reducible refine (ho2 _ _ _ hD2).mono ?_); rintro e w3 ⟨rfl, hB3⟩; have hC3 := below_then hC2 hC2.size hB3)
    | (go_at_call 9; (with_reducible refine (ho1 _ _ _).mono ?_); rintro e w4 ⟨rfl, hB4⟩; have hC4 := below_then hC3 hC3.size hB4))
  go_ret
  exact ⟨rfl, hC4⟩
end Go.Proofs.YtgopddjmmoohdaaGreatDoor

/- The laws of play: Count, Small. -/
set_option linter.unusedSimpArgs false
set_option linter.unusedVariables false
set_option maxRecDepth 100000
set_option maxHeartbeats 3200000
namespace Go.Proofs.YtgopddjmmoohdaaGreatDoor
open Go.RowKit Go.Proofs.YtgopddjmmoohdaaGreatDoorW.PrintWords Go.Proofs.YtgopddjmmoohdaaGreatDoorW.PrintLast Go.Proofs.YtgopddjmmoohdaaGreatDoor.PPlaySilent

theorem rcount_any (vm vc : Value) (p : ProgV) (w : World) (h : ReadsP w vm vc p) (hb : countP p ≤ 9223372036854775807) :
    Calls Tryz.prog 12 #[.agg #[vm, vc]] w fun e w' => e = .returned (.int .i64 (countP p)) ∧ Below w.heap.size w w' := by
  obtain ⟨A, c, B, d, rfl, rfl, hm, hc⟩ := h
  have hcm := Kd.C_max hc
  have hX0 := blk_new w (.cells #[.slice A p.main.length c, .slice B p.calls.length d] 25)
  have hs0 : (w.alloc (.cells #[.slice A p.main.length c, .slice B p.calls.length d] 25)).heap.size = w.heap.size + 1 := by simp
  go_enter Tryz.func12, Tryz.ntmps12
  go_wp2
  go_loopw [3, 4] (fun v i wr => ∃ (j : Nat), j ≤ p.calls.length ∧ i = .int .i64 j ∧ v = .int .i64 ((p.main.length + sumL (p.calls.take j) : Nat) : Int) ∧ Below w.heap.size w wr ∧ wr.heap[w.heap.size]? = some (.cells #[.slice A p.main.length c, .slice B p.calls.length d] 25 (0, 0))) (fun _ i _ => p.calls.length - (intOf i).toNat)
  case atStart => exact ⟨0, Nat.zero_le _, rfl, rfl, below_alloc (Below.refl _ _) _, hX0⟩
  case round =>
    obtain ⟨j, hj, rfl, rfl, hB, hX⟩ := hrel
    have z0 := (blk_cell hX 0).trans rfl
    have z1 := (blk_cell hX 1).trans rfl
    by_cases hlt : j < p.calls.length
    · obtain ⟨bd, xs, A', c', rfl, HX, x0, _, _⟩ := el_call (Kd.C_below hc hB) j hlt
      have h1 := sumL_next HX.out
      have h2 := sumL_le (l := p.calls) (j + 1)
      have hb' : p.main.length + sumL p.calls ≤ 9223372036854775807 := hb
      obtain ⟨k, hkd⟩ : ∃ k, k = p.main.length + sumL (p.calls.take j) := ⟨_, rfl⟩
      have hk1 : k + xs.length ≤ 9223372036854775807 := by omega
      have hk2 : k + xs.length = p.main.length + sumL (p.calls.take (j + 1)) := by omega
      rw [← hkd]
      clear h1 h2 hkd hb'
      replace hk2 := hd_ hk2
      go_wp2
      go_roundw
      case rel => exact ⟨j + 1, by omega, by go_num, by rw [← hk2.out]; go_num, hB, hX⟩
      case measure => first | (simp [intOf]; done) | (simp [intOf]; omega)
    · have HP := hd_ (show p.main.length + sumL (p.calls.take j) = countP p by rw [List.take_of_length_le (by omega)]; rfl)
      go_wp2
      go_ret
      exact ⟨by rw [HP.out]; rfl, hB⟩
/-- Small's answer is true of small programs alone. -/
theorem rsmall_any (vm vc : Value) (p : ProgV) (f : Int) (w : World) (h : ReadsP w vm vc p) (hb0 : p.calls.length ≤ 70 → countP p ≤ 9223372036854775807) :
    Calls Tryz.prog 7 #[.agg #[vm, vc], .int .i64 f] w fun e w' => ∃ b : Bool, e = .returned (.bool b) ∧ (b = true → p.calls.length ≤ 70 ∧ countP p ≤ 400 ∧ f ≤ 400) ∧ Below w.heap.size w w' := by
  have hcn0 := fun hb W (hB : Below w.heap.size w W) => rcount_any vm vc p W (h.below hB) hb
  obtain ⟨A, c, B, d, rfl, rfl, hm, hc⟩ := h
  have hcm := Kd.C_max hc
  have hmm := Kd.C_max hm
  have hX0 := blk_new w (.cells #[.slice A p.main.length c, .slice B p.calls.length d] 25)
  have hB0 : Below w.heap.size w (w.alloc (.cells #[.slice A p.main.length c, .slice B p.calls.length d] 25)) := below_alloc (Below.refl _ _) _
  by_cases h70 : (70 : Int) < p.calls.length
  · clear hcn0 hb0
    go_enter Tryz.func7, Tryz.ntmps7
    go_wp2
    go_ret
    exact ⟨_, rfl, (fun h => by cases h), hB0⟩
  · have hcn := hcn0 (hb0 (by omega))
    clear hcn0 hb0
    by_cases h400 : (400 : Int) < countP p
    · have hk := hd_ h400
      go_enter Tryz.func7, Tryz.ntmps7
      go_wp2_with (go_at_call 12; (with_reducible refine (hcn _ hB0).mono ?_); rintro e w1 ⟨rfl, hB1⟩; have hC1 := below_then hB0 hB0.size hB1)
      go_ret
      exact ⟨_, rfl, (fun h => by cases h), hC1⟩
    · by_cases hf : 400 < f
      · skip
        go_enter Tryz.func7, Tryz.ntmps7
        go_wp2_with (go_at_call 12; (with_reducible refine (hcn _ hB0).mono ?_); rintro e w1 ⟨rfl, hB1⟩; have hC1 := below_then hB0 hB0.size hB1)
        go_ret
        exact ⟨_, rfl, (fun h => by cases h), hC1⟩
      · have hall := hd_ (show p.calls.length ≤ 70 ∧ countP p ≤ 400 ∧ f ≤ 400 from ⟨by omega, by omega, by omega⟩)
        go_enter Tryz.func7, Tryz.ntmps7
        go_wp2_with (go_at_call 12; (with_reducible refine (hcn _ hB0).mono ?_); rintro e w1 ⟨rfl, hB1⟩; have hC1 := below_then hB0 hB0.size hB1; have hX1 := blk_below hX0 hB1)
        clear h400 hcn
        go_loopw [5, 6, 7] (fun i _ _ wr => ∃ (j : Nat), j ≤ p.calls.length + 1 ∧ i = .int .i64 j ∧ Below w.heap.size w wr ∧ wr.heap[w.heap.size]? = some (.cells #[.slice A p.main.length c, .slice B p.calls.length d] 25 (0, 0))) (fun i _ _ _ => p.calls.length + 1 - (intOf i).toNat)
        case atStart => exact ⟨0, Nat.zero_le _, rfl, hC1, hX1⟩
        case round =>
          obtain ⟨j, hj, rfl, hB, hX⟩ := hrel
          have z0 := (blk_cell hX 0).trans rfl
          have z1 := (blk_cell hX 1).trans rfl
          by_cases hlt : (j : Int) ≤ p.calls.length
          · rcases j with _ | m
            · have hC0 := Kd.C_below hm hB
              go_wp2
              go_loopw [7] (fun v wq => ∃ (i : Nat), i ≤ p.main.length ∧ v = .int .i64 i ∧ Below w.heap.size w wq ∧ wq.heap[w.heap.size]? = some (.cells #[.slice A p.main.length c, .slice B p.calls.length d] 25 (0, 0)) ∧ Hd (k39.C wq A p.main.length p.main)) (fun v _ => p.main.length - (intOf v).toNat)
              case atStart => exact ⟨0, Nat.zero_le _, rfl, hB, hX, ⟨hC0⟩⟩
              case round =>
                obtain ⟨i, hi, rfl, hBq, hXq, hCq⟩ := hrel
                by_cases hli : i < p.main.length
                · obtain ⟨ad, x, rfl, HX5, y0, y1, y2, y3, y4, y5⟩ := el_op hCq.out i hli
                  by_cases h20 : (20 : Int) < x.f5.size
                  · go_wp2
                    go_ret
                    exact ⟨_, rfl, (fun h => by cases h), hBq⟩
                  · go_wp2
                    go_roundw
                    case rel => exact ⟨i + 1, by omega, by go_num, hBq, hXq, hCq⟩
                    case measure => first | (simp [intOf]; done) | (simp [intOf]; omega)
                · go_wp2
                  go_roundw
                  case rel => exact ⟨0 + 1, by omega, by go_num, hBq, hXq⟩
                  case measure => first | (simp [intOf]; done) | (simp [intOf]; omega)
            · obtain ⟨bd, xs, A', c', rfl, HX, x0, hle, hxs⟩ := el_call (Kd.C_below hc hB) m (by omega)
              have q1 : ((m + 1 : Nat) : Int) - 1 = m := by omega
              have hC0 := hxs
              have hxm := Kd.C_max hxs
              clear hxs
              go_wp2
              go_loopw [7] (fun v wq => ∃ (i : Nat), i ≤ xs.length ∧ v = .int .i64 i ∧ Below w.heap.size w wq ∧ wq.heap[w.heap.size]? = some (.cells #[.slice A p.main.length c, .slice (some bd) p.calls.length d] 25 (0, 0)) ∧ Hd (k39.C wq A' xs.length xs)) (fun v _ => xs.length - (intOf v).toNat)
              case atStart => exact ⟨0, Nat.zero_le _, rfl, hB, hX, ⟨hC0⟩⟩
              case round =>
                obtain ⟨i, hi, rfl, hBq, hXq, hCq⟩ := hrel
                by_cases hli : i < xs.length
                · obtain ⟨ad, x, rfl, HX5, y0, y1, y2, y3, y4, y5⟩ := el_op hCq.out i hli
                  by_cases h20 : (20 : Int) < x.f5.size
                  · go_wp2
                    go_ret
                    exact ⟨_, rfl, (fun h => by cases h), hBq⟩
                  · go_wp2
                    go_roundw
                    case rel => exact ⟨i + 1, by omega, by go_num, hBq, hXq, hCq⟩
                    case measure => first | (simp [intOf]; done) | (simp [intOf]; omega)
                · go_wp2
                  go_roundw
                  case rel => exact ⟨m + 1 + 1, by omega, by go_num, hBq, hXq⟩
                  case measure => first | (simp [intOf]; done) | (simp [intOf]; omega)
          · go_wp2
            go_ret

            first | exact ⟨_, rfl, fun _ => hall.out, hB⟩ | exact .inr ⟨rfl, (by have := hall.out; omega), hB⟩
end Go.Proofs.YtgopddjmmoohdaaGreatDoor
