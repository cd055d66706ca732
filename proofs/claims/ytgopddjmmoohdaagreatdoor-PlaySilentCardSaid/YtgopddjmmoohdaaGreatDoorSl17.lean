/- The texts of this seat, joined: part 17 of 25. -/
import Derived.Test.YtgopddjmmoohdaaGreatDoorSl16
/- edit over forests: Before, Append. -/
set_option linter.unusedSimpArgs false
set_option linter.unusedVariables false
namespace Go.Proofs.YtgopddjmmoohdaaGreatDoor
open Go.RowKit Go.Proofs.YtgopddjmmoohdaaGreatDoorW.PrintWords Go.Proofs.YtgopddjmmoohdaaGreatDoorW.PrintLast Go.Proofs.YtgopddjmmoohdaaGreatDoor.PPlaySilent

theorem FoC.gather {P P1 : Nat → Prop} {n m : Nat} {w0 w' : World} {F : Nat} {l : List S115} (h : FoC P1 w0 w' F l) (hP : ∀ k, P1 k → P k ∨ n ≤ k) (hl : ∀ k, P k → w0.heap.size ≤ k ∧ k < m) (hm : m ≤ w'.heap.size) (h0 : w0.heap.size ≤ n) : FoC (grow P n w'.heap.size) w0 w' F l :=
  h.mono (fun k hk => (hP k hk).elim .inl (fun hn => .inr ⟨hn, (h.lo k hk).2⟩)) (fun k hk => hk.elim (fun hp => ⟨(hl k hp).1, Nat.lt_of_lt_of_le (hl k hp).2 hm⟩) (fun hn => ⟨Nat.le_trans h0 hn.1, hn.2⟩))
theorem list_box {w : World} {g : Nat} (v : Int) (hg : w.heap.size = g) : (Kd.int .i64).C (w.alloc (.cells #[.int .i64 v] 3)) (some ⟨g, 0, none⟩) [v].length [v] :=
  C_of_cells (by simp) (fun j hj => by
    have : j = 0 := by simpa using hj
    subst this
    subst hg
    exact blk_cell (blk_new w _) 0)
theorem list_one {w : World} {A : Option Addr} {v : Int} (h : (Kd.int .i64).C w A [v].length [v]) : (Kd.int .i64).C w A 1 [v] := h
/-- Before: its error, and what it makes. -/
def befP (l : List S115) (node parent child : Int) : Int := putE (outF l node) parent ((nodeD (outF l node) parent).f8.take (atF (outF l node) parent (childF l node child)) ++ listF l node ++ (nodeD (outF l node) parent).f8.drop (atF (outF l node) parent (childF l node child)))
def befE (l : List S115) (node parent child : Int) : Int := if checkE l node parent child = 0 then befP l node parent child else checkE l node parent child
def befF (l : List S115) (node parent child : Int) : List S115 := if checkE l node parent child = 0 then beforeF l node parent child else l
theorem before_no {P : Nat → Prop} {w0 w W : World} {F : Nat} {l : List S115} {node parent child : Int} (h : FoC P w0 w F l) (hW : WF8 l) (hB : Below w.heap.size w W) (hv : (checkE l node parent child != 0) = true) : EdPost P w0 w F (befE l node parent child) (befF l node parent child) (.returned (.int .i64 (checkE l node parent child))) W := by
  have hn : ¬ checkE l node parent child = 0 := by simpa using hv
  rw [befE, befF, if_neg hn, if_neg hn]
  exact ⟨rfl, hW, h.mono_below hB, Ste.of_below hB⟩
theorem before_done {P : Nat → Prop} {w0 w w3 w4 w6 w7 : World} {F : Nat} {l : List S115} {node parent child : Int} (h : FoC P w0 w F l) (hW : WF8 l) (hc : checkE l node parent child = 0) (h3 : Below w.heap.size w w3) (h4 : Ste P w3 w4) (h6 : Below w4.heap.size w4 w6) (h7 : Ste (grow P w3.heap.size w4.heap.size) w6 w7)
    (hF : FoC (grow (grow P w3.heap.size w4.heap.size) w6.heap.size w7.heap.size) w0 w7 F (beforeF l node parent child)) : EdPost P w0 w F (befE l node parent child) (befF l node parent child) (.returned (.int .i64 (befP l node parent child))) w7 := by
  rw [befE, befF, if_pos hc, if_pos hc]
  have hs3 := h3.size
  have hs4 := h4.size
  have hs6 := h6.size
  have hs7 := h7.size
  refine ⟨rfl, hW.before h.len node parent child, hF.gather (m := w.heap.size) (fun k hk => ?_) h.lo (by omega) h.base.size, ?_⟩
  · rcases hk with (hk | hk) | hk
    · exact .inl hk
    · exact .inr (by omega)
    · exact .inr (by omega)
  · refine (((Ste.of_below h3).trans h4 (fun k hk => .inl hk)).below h6).trans h7 (fun k hk => ?_)
    rcases hk with hk | hk
    · exact .inl hk
    · exact .inr (by omega)
set_option maxRecDepth 100000 in
set_option maxHeartbeats 64000000 in
theorem before_any (P : Nat → Prop) (w0 : World) (F : Nat) (node parent child : Int) (l : List S115) (w : World) (h : FoC P w0 w F l) (hW : WF8 l) :
    Calls Tryz.prog 45 #[.pointer (some ⟨F, 0, none⟩), .int .i64 node, .int .i64 parent, .int .i64 child] w (EdPost P w0 w F (befE l node parent child) (befF l node parent child)) := by
  have hck := vcheck_any F node parent child l w h.read hW.wf.kl hW.wf.endsA
  have hnx := fun W (hB : Below w.heap.size w W) => next_any F node l W (h.below hB).read hW.wf.kl
  have hn1 := fun W (hB : Below w.heap.size w W) => node_callR F node l W (h.below hB).read hW.wf.kl
  have hlv := fun W (hB : Below w.heap.size w W) => leave_any P w0 F node l W (h.below hB) hW.wf
  have hcl := fun W (hB : Below w.heap.size w W) => (h.below hB).clear hW.wf node
  have hWo := hW.out node
  have hn2 := fun P1 W (hF : FoC P1 w0 W F (outF l node)) W2 (hB : Below W.heap.size W W2) => node_call F parent (outF l node) W2 (hF.below hB).read hWo.wf.kl
  have hpu := fun P1 W (hF : FoC P1 w0 W F (outF l node)) A ks c hC hA hc hl => hF.put (A := A) (ks := ks) (c := c) hWo.wf parent hC hA hc hl
  have hAT := hd_ (fun (hc : ChkOk l node parent child) => at_out hW hc.1 hc.2.1 hc.2.2.1 hc.2.2.2)
  have hLL := hd_ (listF_len hW h.len node)
  have hKL := hd_ (Nat.le_trans (hWo.kidsD parent) (by rw [len_out]; exact h.len))
  have hBL := hd_ (before_len hW h.len node parent child)
  have hBD := hd_ (fun w3 w4 w6 w7 hc h3 h4 h6 h7 hF => before_done (w3 := w3) (w4 := w4) (w6 := w6) (w7 := w7) (node := node) (parent := parent) (child := child) h hW hc h3 h4 h6 h7 hF)
  have hEX := hd_ (fun W hB hv => before_no (W := W) (node := node) (parent := parent) (child := child) h hW hB hv)
  have hCk := hd_ (fun h => checkE_ok (l := l) (node := node) (parent := parent) (child := child) h)
  have hlo := hd_ h.lo
  have hin := fun A A2 c c2 W h hc h2 ha => into_any (nodeD (outF l node) parent).f8 (listF l node) A A2 c c2 (atF (outF l node) parent (childF l node child)) W h hc h2 ha (Nat.le_trans hKL.out (by decide)) (Nat.le_trans hLL.out (by decide))
  have hDB : Hd (beforeF l node parent child = putF (outF l node) parent ((nodeD (outF l node) parent).f8.take (atF (outF l node) parent (childF l node child)) ++ listF l node ++ (nodeD (outF l node) parent).f8.drop (atF (outF l node) parent (childF l node child)))) := ⟨rfl⟩
  have hDP : Hd (befP l node parent child = putE (outF l node) parent ((nodeD (outF l node) parent).f8.take (atF (outF l node) parent (childF l node child)) ++ listF l node ++ (nodeD (outF l node) parent).f8.drop (atF (outF l node) parent (childF l node child)))) := ⟨rfl⟩
  have hDL : Hd (listF l node = if (nodeD l node).f0 = 4 then (nodeD l node).f8 else [node]) := ⟨rfl⟩
  have hDO : Hd (outF l node = if (nodeD l node).f0 = 4 then putF l node [] else leaveF l node) := ⟨rfl⟩
  have hDA : Hd (atF (outF l node) parent (childF l node child) = if childF l node child = 0 then (nodeD (outF l node) parent).f8.length else (Lib.idxOf (nodeD (outF l node) parent).f8 (childF l node child)).toNat) := ⟨rfl⟩
  have hDC : Hd (childF l node child = if child = node then nextF l node else child) := ⟨rfl⟩
  have hvc : ∀ v : Int, v = 0 ∨ (v != 0) = true := fun v => by
    by_cases e : v = 0
    · exact .inl e
    · exact .inr (by simp [e])
  simp only [nodeV] at hn1 hn2
  generalize beforeF l node parent child = lb at *
  generalize befP l node parent child = pv at *
  generalize befE l node parent child = be at *
  generalize befF l node parent child = bf at *
  generalize checkE l node parent child = cv at *
  generalize atF (outF l node) parent (childF l node child) = at_ at *
  generalize listF l node = ls at *
  generalize childF l node child = ch at *
  generalize nodeD (outF l node) parent = y at *
  generalize outF l node = l1 at *
  generalize y.f8.take at_ ++ ls ++ y.f8.drop at_ = ns at *
  generalize nodeD l node = x at *
  generalize leaveF l node = lv at *
  generalize putF l node [] = lp at *
  generalize nextF l node = nx at *
  generalize isN l1 parent = b2 at *

  by_cases e1 : child = node
  · have q1 : (child == node) = true := by simp [e1]
    obtain rfl : nx = ch := by rw [hDC.out, if_pos e1]
    clear hDC e1 h hW hWo
    by_cases e2 : x.f0 = 4
    · have q2 : (x.f0 == 4) = true := by simp [e2]
      obtain rfl : lp = l1 := by rw [hDO.out, if_pos e2]
      obtain rfl : x.f8 = ls := by rw [hDL.out, if_pos e2]
      clear e2 hDO hDL hlv
      by_cases e3 : nx = 0
      · have q3 : (nx != 0) = false := by simp [e3]
        obtain rfl : at_ = y.f8.length := by rw [hDA.out, if_pos e3]
        clear e3 hDA
        go_enter Tryz.func45, Tryz.ntmps45
        go_wp2_with (first
          | (go_at_call 66; (with_reducible refine hck.mono ?_); rintro e w1 ⟨rfl, hB1⟩; rcases hvc cv with rfl | hvb; have hvv := hd_ (hCk.out rfl))
          | (go_at_call 67; (with_reducible refine (hnx _ hB1).mono ?_); rintro e w2 ⟨rfl, hB2⟩; replace hB1 := below_then hB1 hB1.size hB2)
          | (go_at_call 57; (with_reducible refine (hn1 _ hB1).mono ?_); rintro e w3 ⟨A, c, rfl, hc3, hR3, hB3⟩; have hRb := Kd.R_base hR3; have hA : ∀ ad, A = some ad → w.heap.size ≤ ad.block := (by rintro ad rfl; have := hRb ad.block rfl; have := hB1.size; omega); have hC3 := below_alloc (below_then hB1 hB1.size hB3) (.cells #[.int .i64 x.f0, .int .i64 x.f1, .int .i64 x.f2, .int .i64 x.f3, .int .i64 x.f4, .bool x.f5, .string x.f6, .string x.f7, .slice A x.f8.length c] 115); have hX3 := blk_new w3 (.cells #[.int .i64 x.f0, .int .i64 x.f1, .int .i64 x.f2, .int .i64 x.f3, .int .i64 x.f4, .bool x.f5, .string x.f6, .string x.f7, .slice A x.f8.length c] 115); have hK3 := Kd.C_alloc ((Kd.R_reads' hR3).2.2) (.cells #[.int .i64 x.f0, .int .i64 x.f1, .int .i64 x.f2, .int .i64 x.f3, .int .i64 x.f4, .bool x.f5, .string x.f6, .string x.f7, .slice A x.f8.length c] 115); have z0 := fun o => cell_alloc_at ((blk_cell hX3 0).trans rfl) o; have z8 := fun o => cell_alloc_at ((blk_cell hX3 8).trans rfl) o; have hC4 := below_alloc hC3 (.cells #[.int .i64 node] 3); have hL4 := list_box (w := w3.alloc (.cells #[.int .i64 x.f0, .int .i64 x.f1, .int .i64 x.f2, .int .i64 x.f3, .int .i64 x.f4, .bool x.f5, .string x.f6, .string x.f7, .slice A x.f8.length c] 115)) (g := w3.heap.size + 1) node (by simp); have hs4 : w.heap.size ≤ w3.heap.size + 1 := (by have := hC3.size; simpa using this); clear hB3 hRb hR3)
          | (go_at_call 68; (with_reducible refine (hcl _ hC4).mono ?_); rintro e w5 ⟨rfl, hF5, hS5⟩; have hK5 := ints_ste hS5 (Kd.C_alloc hK3 (.cells #[.int .i64 node] 3)) (fun ad ha hp => by have h1 := (hlo.out _ hp).2; have h2 := hA ad ha; omega))
          | (go_at_call 57; (with_reducible refine (hn2 _ _ hF5 _ (Below.refl _ _)).mono ?_); rintro e w6 ⟨A2, c2, rfl, hc6, hK6, hB6⟩; have hC6 := below_alloc hB6 (.cells #[.int .i64 y.f0, .int .i64 y.f1, .int .i64 y.f2, .int .i64 y.f3, .int .i64 y.f4, .bool y.f5, .string y.f6, .string y.f7, .slice A2 y.f8.length c2] 115); have hX6 := blk_new w6 (.cells #[.int .i64 y.f0, .int .i64 y.f1, .int .i64 y.f2, .int .i64 y.f3, .int .i64 y.f4, .bool y.f5, .string y.f6, .string y.f7, .slice A2 y.f8.length c2] 115); have y8 := (blk_cell hX6 8).trans rfl; replace hK6 := Kd.C_alloc hK6 (.cells #[.int .i64 y.f0, .int .i64 y.f1, .int .i64 y.f2, .int .i64 y.f3, .int .i64 y.f4, .bool y.f5, .string y.f6, .string y.f7, .slice A2 y.f8.length c2] 115); clear z0 z8 hX3)
          | (go_at_call 71; refine (hin A2 A c2 c _ hK6 hc6 (Kd.C_below hK5 hC6) (hAT.out hvv.out).1).mono ?_; rintro e w8 ⟨A8, c8, rfl, hR8, hB8⟩; have hC8 := below_then hC6 hC6.size hB8; have hRr := Kd.R_reads' hR8; have hRc := Kd.R_base hR8)
          | (go_at_call 68; (with_reducible refine (hpu _ _ (hF5.below hC8) A8 _ c8 hRr.2.2 (fun ad ha hp => by subst ha; have h1 := (hF5.lo _ hp).2; have h2 := hRc ad.block rfl; have h3 := hC6.size; omega) hRr.2.1 (Nat.le_trans hBL.out (by decide))).mono ?_); rintro e w9 ⟨rfl, hF9, hS9⟩))
        all_goals go_ret
        all_goals first
          | exact hEX.out _ hB1 hvb
          | exact (congrArg (fun v => Ending.returned (.int .i64 v)) hDP.out) ▸ hBD.out _ _ _ _ (by simp) hC4 hS5 hC8 hS9 (by rw [hDB.out]; exact hF9)
      · have q3 : (nx != 0) = true := by simp [e3]
        have hix : ∀ (u : Int), ChkOk l node parent child → ∀ A c W, (Kd.int .i64).C W A y.f8.length y.f8 → Calls Tryz.prog 70 #[.slice A y.f8.length c, .int .i64 nx] W fun e w' => e = .returned (.int .i64 at_) ∧ w' = W := fun _ hc A c W hC => by
          rw [← (hAT.out hc).2 e3]
          exact index_any y.f8 _ A c W hC (by have := hKL.out; omega)
        clear e3 hDA
        go_enter Tryz.func45, Tryz.ntmps45
        go_wp2_with (first
          | (go_at_call 66; (with_reducible refine hck.mono ?_); rintro e w1 ⟨rfl, hB1⟩; rcases hvc cv with rfl | hvb; have hvv := hd_ (hCk.out rfl))
          | (go_at_call 67; (with_reducible refine (hnx _ hB1).mono ?_); rintro e w2 ⟨rfl, hB2⟩; replace hB1 := below_then hB1 hB1.size hB2)
          | (go_at_call 57; (with_reducible refine (hn1 _ hB1).mono ?_); rintro e w3 ⟨A, c, rfl, hc3, hR3, hB3⟩; have hRb := Kd.R_base hR3; have hA : ∀ ad, A = some ad → w.heap.size ≤ ad.block := (by rintro ad rfl; have := hRb ad.block rfl; have := hB1.size; omega); have hC3 := below_alloc (below_then hB1 hB1.size hB3) (.cells #[.int .i64 x.f0, .int .i64 x.f1, .int .i64 x.f2, .int .i64 x.f3, .int .i64 x.f4, .bool x.f5, .string x.f6, .string x.f7, .slice A x.f8.length c] 115); have hX3 := blk_new w3 (.cells #[.int .i64 x.f0, .int .i64 x.f1, .int .i64 x.f2, .int .i64 x.f3, .int .i64 x.f4, .bool x.f5, .string x.f6, .string x.f7, .slice A x.f8.length c] 115); have hK3 := Kd.C_alloc ((Kd.R_reads' hR3).2.2) (.cells #[.int .i64 x.f0, .int .i64 x.f1, .int .i64 x.f2, .int .i64 x.f3, .int .i64 x.f4, .bool x.f5, .string x.f6, .string x.f7, .slice A x.f8.length c] 115); have z0 := fun o => cell_alloc_at ((blk_cell hX3 0).trans rfl) o; have z8 := fun o => cell_alloc_at ((blk_cell hX3 8).trans rfl) o; have hC4 := below_alloc hC3 (.cells #[.int .i64 node] 3); have hL4 := list_box (w := w3.alloc (.cells #[.int .i64 x.f0, .int .i64 x.f1, .int .i64 x.f2, .int .i64 x.f3, .int .i64 x.f4, .bool x.f5, .string x.f6, .string x.f7, .slice A x.f8.length c] 115)) (g := w3.heap.size + 1) node (by simp); have hs4 : w.heap.size ≤ w3.heap.size + 1 := (by have := hC3.size; simpa using this); clear hB3 hRb hR3)
          | (go_at_call 68; (with_reducible refine (hcl _ hC4).mono ?_); rintro e w5 ⟨rfl, hF5, hS5⟩; have hK5 := ints_ste hS5 (Kd.C_alloc hK3 (.cells #[.int .i64 node] 3)) (fun ad ha hp => by have h1 := (hlo.out _ hp).2; have h2 := hA ad ha; omega))
          | (go_at_call 57; (with_reducible refine (hn2 _ _ hF5 _ (Below.refl _ _)).mono ?_); rintro e w6 ⟨A2, c2, rfl, hc6, hK6, hB6⟩; have hC6 := below_alloc hB6 (.cells #[.int .i64 y.f0, .int .i64 y.f1, .int .i64 y.f2, .int .i64 y.f3, .int .i64 y.f4, .bool y.f5, .string y.f6, .string y.f7, .slice A2 y.f8.length c2] 115); have hX6 := blk_new w6 (.cells #[.int .i64 y.f0, .int .i64 y.f1, .int .i64 y.f2, .int .i64 y.f3, .int .i64 y.f4, .bool y.f5, .string y.f6, .string y.f7, .slice A2 y.f8.length c2] 115); have y8 := (blk_cell hX6 8).trans rfl; replace hK6 := Kd.C_alloc hK6 (.cells #[.int .i64 y.f0, .int .i64 y.f1, .int .i64 y.f2, .int .i64 y.f3, .int .i64 y.f4, .bool y.f5, .string y.f6, .string y.f7, .slice A2 y.f8.length c2] 115); clear z0 z8 hX3)
          | (go_at_call 70; (with_reducible refine (hix 0 hvv.out A2 c2 _ hK6).mono ?_); rintro e w7 ⟨rfl, hw7⟩; obtain rfl := hw7.symm)
          | (go_at_call 71; refine (hin A2 A c2 c _ hK6 hc6 (Kd.C_below hK5 hC6) (hAT.out hvv.out).1).mono ?_; rintro e w8 ⟨A8, c8, rfl, hR8, hB8⟩; have hC8 := below_then hC6 hC6.size hB8; have hRr := Kd.R_reads' hR8; have hRc := Kd.R_base hR8)
          | (go_at_call 68; (with_reducible refine (hpu _ _ (hF5.below hC8) A8 _ c8 hRr.2.2 (fun ad ha hp => by subst ha; have h1 := (hF5.lo _ hp).2; have h2 := hRc ad.block rfl; have h3 := hC6.size; omega) hRr.2.1 (Nat.le_trans hBL.out (by decide))).mono ?_); rintro e w9 ⟨rfl, hF9, hS9⟩))
        all_goals go_ret
        all_goals first
          | exact hEX.out _ hB1 hvb
          | exact (congrArg (fun v => Ending.returned (.int .i64 v)) hDP.out) ▸ hBD.out _ _ _ _ (by simp) hC4 hS5 hC8 hS9 (by rw [hDB.out]; exact hF9)
    · have q2 : (x.f0 == 4) = false := by simp [e2]
      obtain rfl : lv = l1 := by rw [hDO.out, if_neg e2]
      obtain rfl : [node] = ls := by rw [hDL.out, if_neg e2]
      clear e2 hDO hDL hcl
      by_cases e3 : nx = 0
      · have q3 : (nx != 0) = false := by simp [e3]
        obtain rfl : at_ = y.f8.length := by rw [hDA.out, if_pos e3]
        clear e3 hDA
        go_enter Tryz.func45, Tryz.ntmps45
        go_wp2_with (first
          | (go_at_call 66; (with_reducible refine hck.mono ?_); rintro e w1 ⟨rfl, hB1⟩; rcases hvc cv with rfl | hvb; have hvv := hd_ (hCk.out rfl))
          | (go_at_call 67; (with_reducible refine (hnx _ hB1).mono ?_); rintro e w2 ⟨rfl, hB2⟩; replace hB1 := below_then hB1 hB1.size hB2)
          | (go_at_call 57; (with_reducible refine (hn1 _ hB1).mono ?_); rintro e w3 ⟨A, c, rfl, hc3, hR3, hB3⟩; have hRb := Kd.R_base hR3; have hA : ∀ ad, A = some ad → w.heap.size ≤ ad.block := (by rintro ad rfl; have := hRb ad.block rfl; have := hB1.size; omega); have hC3 := below_alloc (below_then hB1 hB1.size hB3) (.cells #[.int .i64 x.f0, .int .i64 x.f1, .int .i64 x.f2, .int .i64 x.f3, .int .i64 x.f4, .bool x.f5, .string x.f6, .string x.f7, .slice A x.f8.length c] 115); have hX3 := blk_new w3 (.cells #[.int .i64 x.f0, .int .i64 x.f1, .int .i64 x.f2, .int .i64 x.f3, .int .i64 x.f4, .bool x.f5, .string x.f6, .string x.f7, .slice A x.f8.length c] 115); have hK3 := Kd.C_alloc ((Kd.R_reads' hR3).2.2) (.cells #[.int .i64 x.f0, .int .i64 x.f1, .int .i64 x.f2, .int .i64 x.f3, .int .i64 x.f4, .bool x.f5, .string x.f6, .string x.f7, .slice A x.f8.length c] 115); have z0 := fun o => cell_alloc_at ((blk_cell hX3 0).trans rfl) o; have z8 := fun o => cell_alloc_at ((blk_cell hX3 8).trans rfl) o; have hC4 := below_alloc hC3 (.cells #[.int .i64 node] 3); have hL4 := list_box (w := w3.alloc (.cells #[.int .i64 x.f0, .int .i64 x.f1, .int .i64 x.f2, .int .i64 x.f3, .int .i64 x.f4, .bool x.f5, .string x.f6, .string x.f7, .slice A x.f8.length c] 115)) (g := w3.heap.size + 1) node (by simp); have hs4 : w.heap.size ≤ w3.heap.size + 1 := (by have := hC3.size; simpa using this); clear hB3 hRb hR3)
          | (go_at_call 69; (with_reducible refine (hlv _ hC4).mono ?_); rintro e w5 ⟨rfl, hF5, hS5⟩; have hK5 := ints_ste hS5 hL4 (fun ad ha hp => by have h1 := (hlo.out _ hp).2; cases ha; simp only at h1; omega); replace hK5 := list_one hK5)
          | (go_at_call 57; (with_reducible refine (hn2 _ _ hF5 _ (Below.refl _ _)).mono ?_); rintro e w6 ⟨A2, c2, rfl, hc6, hK6, hB6⟩; have hC6 := below_alloc hB6 (.cells #[.int .i64 y.f0, .int .i64 y.f1, .int .i64 y.f2, .int .i64 y.f3, .int .i64 y.f4, .bool y.f5, .string y.f6, .string y.f7, .slice A2 y.f8.length c2] 115); have hX6 := blk_new w6 (.cells #[.int .i64 y.f0, .int .i64 y.f1, .int .i64 y.f2, .int .i64 y.f3, .int .i64 y.f4, .bool y.f5, .string y.f6, .string y.f7, .slice A2 y.f8.length c2] 115); have y8 := (blk_cell hX6 8).trans rfl; replace hK6 := Kd.C_alloc hK6 (.cells #[.int .i64 y.f0, .int .i64 y.f1, .int .i64 y.f2, .int .i64 y.f3, .int .i64 y.f4, .bool y.f5, .string y.f6, .string y.f7, .slice A2 y.f8.length c2] 115); clear z0 z8 hX3)
          | (go_at_call 71; refine (hin A2 (some ⟨w3.heap.size + 1, 0, none⟩) c2 1 _ hK6 hc6 (Kd.C_below hK5 hC6) (hAT.out hvv.out).1).mono ?_; rintro e w8 ⟨A8, c8, rfl, hR8, hB8⟩; have hC8 := below_then hC6 hC6.size hB8; have hRr := Kd.R_reads' hR8; have hRc := Kd.R_base hR8)
          | (go_at_call 68; (with_reducible refine (hpu _ _ (hF5.below hC8) A8 _ c8 hRr.2.2 (fun ad ha hp => by subst ha; have h1 := (hF5.lo _ hp).2; have h2 := hRc ad.block rfl; have h3 := hC6.size; omega) hRr.2.1 (Nat.le_trans hBL.out (by decide))).mono ?_); rintro e w9 ⟨rfl, hF9, hS9⟩))
        all_goals go_ret
        all_goals first
          | exact hEX.out _ hB1 hvb
          | exact (congrArg (fun v => Ending.returned (.int .i64 v)) hDP.out) ▸ hBD.out _ _ _ _ (by simp) hC4 hS5 hC8 hS9 (by rw [hDB.out]; exact hF9)
      · have q3 : (nx != 0) = true := by simp [e3]
        have hix : ∀ (u : Int), ChkOk l node parent child → ∀ A c W, (Kd.int .i64).C W A y.f8.length y.f8 → Calls Tryz.prog 70 #[.slice A y.f8.length c, .int .i64 nx] W fun e w' => e = .returned (.int .i64 at_) ∧ w' = W := fun _ hc A c W hC => by
          rw [← (hAT.out hc).2 e3]
          exact index_any y.f8 _ A c W hC (by have := hKL.out; omega)
        clear e3 hDA
        go_enter Tryz.func45, Tryz.ntmps45
        go_wp2_with (first
          | (go_at_call 66; (with_reducible refine hck.mono ?_); rintro e w1 ⟨rfl, hB1⟩; rcases hvc cv with rfl | hvb; have hvv := hd_ (hCk.out rfl))
          | (go_at_call 67; (with_reducible refine (hnx _ hB1).mono ?_); rintro e w2 ⟨rfl, hB2⟩; replace hB1 := below_then hB1 hB1.size hB2)
          | (go_at_call 57; (with_reducible refine (hn1 _ hB1).mono ?_); rintro e w3 ⟨A, c, rfl, hc3, hR3, hB3⟩; have hRb := Kd.R_base hR3; have hA : ∀ ad, A = some ad → w.heap.size ≤ ad.block := (by rintro ad rfl; have := hRb ad.block rfl; have := hB1.size; omega); have hC3 := below_alloc (below_then hB1 hB1.size hB3) (.cells #[.int .i64 x.f0, .int .i64 x.f1, .int .i64 x.f2, .int .i64 x.f3, .int .i64 x.f4, .bool x.f5, .string x.f6, .string x.f7, .slice A x.f8.length c] 115); have hX3 := blk_new w3 (.cells #[.int .i64 x.f0, .int .i64 x.f1, .int .i64 x.f2, .int .i64 x.f3, .int .i64 x.f4, .bool x.f5, .string x.f6, .string x.f7, .slice A x.f8.length c] 115); have hK3 := Kd.C_alloc ((Kd.R_reads' hR3).2.2) (.cells #[.int .i64 x.f0, .int .i64 x.f1, .int .i64 x.f2, .int .i64 x.f3, .int .i64 x.f4, .bool x.f5, .string x.f6, .string x.f7, .slice A x.f8.length c] 115); have z0 := fun o => cell_alloc_at ((blk_cell hX3 0).trans rfl) o; have z8 := fun o => cell_alloc_at ((blk_cell hX3 8).trans rfl) o; have hC4 := below_alloc hC3 (.cells #[.int .i64 node] 3); have hL4 := list_box (w := w3.alloc (.cells #[.int .i64 x.f0, .int .i64 x.f1, .int .i64 x.f2, .int .i64 x.f3, .int .i64 x.f4, .bool x.f5, .string x.f6, .string x.f7, .slice A x.f8.length c] 115)) (g := w3.heap.size + 1) node (by simp); have hs4 : w.heap.size ≤ w3.heap.size + 1 := (by have := hC3.size; simpa using this); clear hB3 hRb hR3)
          | (go_at_call 69; (with_reducible refine (hlv _ hC4).mono ?_); rintro e w5 ⟨rfl, hF5, hS5⟩; have hK5 := ints_ste hS5 hL4 (fun ad ha hp => by have h1 := (hlo.out _ hp).2; cases ha; simp only at h1; omega); replace hK5 := list_one hK5)
          | (go_at_call 57; (with_reducible refine (hn2 _ _ hF5 _ (Below.refl _ _)).mono ?_); rintro e w6 ⟨A2, c2, rfl, hc6, hK6, hB6⟩; have hC6 := below_alloc hB6 (.cells #[.int .i64 y.f0, .int .i64 y.f1, .int .i64 y.f2, .int .i64 y.f3, .int .i64 y.f4, .bool y.f5, .string y.f6, .string y.f7, .slice A2 y.f8.length c2] 115); have hX6 := blk_new w6 (.cells #[.int .i64 y.f0, .int .i64 y.f1, .int .i64 y.f2, .int .i64 y.f3, .int .i64 y.f4, .bool y.f5, .string y.f6, .string y.f7, .slice A2 y.f8.length c2] 115); have y8 := (blk_cell hX6 8).trans rfl; replace hK6 := Kd.C_alloc hK6 (.cells #[.int .i64 y.f0, .int .i64 y.f1, .int .i64 y.f2, .int .i64 y.f3, .int .i64 y.f4, .bool y.f5, .string y.f6, .string y.f7, .slice A2 y.f8.length c2] 115); clear z0 z8 hX3)
          | (go_at_call 70; (with_reducible refine (hix 0 hvv.out A2 c2 _ hK6).mono ?_); rintro e w7 ⟨rfl, hw7⟩; obtain rfl := hw7.symm)
          | (go_at_call 71; refine (hin A2 (some ⟨w3.heap.size + 1, 0, none⟩) c2 1 _ hK6 hc6 (Kd.C_below hK5 hC6) (hAT.out hvv.out).1).mono ?_; rintro e w8 ⟨A8, c8, rfl, hR8, hB8⟩; have hC8 := below_then hC6 hC6.size hB8; have hRr := Kd.R_reads' hR8; have hRc := Kd.R_base hR8)
          | (go_at_call 68; (with_reducible refine (hpu _ _ (hF5.below hC8) A8 _ c8 hRr.2.2 (fun ad ha hp => by subst ha; have h1 := (hF5.lo _ hp).2; have h2 := hRc ad.block rfl; have h3 := hC6.size; omega) hRr.2.1 (Nat.le_trans hBL.out (by decide))).mono ?_); rintro e w9 ⟨rfl, hF9, hS9⟩))
        all_goals go_ret
        all_goals first
          | exact hEX.out _ hB1 hvb
          | exact (congrArg (fun v => Ending.returned (.int .i64 v)) hDP.out) ▸ hBD.out _ _ _ _ (by simp) hC4 hS5 hC8 hS9 (by rw [hDB.out]; exact hF9)
  · have q1 : (child == node) = false := by simp [e1]
    obtain rfl : child = ch := by rw [hDC.out, if_neg e1]
    clear hDC e1 h hW hWo hnx
    by_cases e2 : x.f0 = 4
    · have q2 : (x.f0 == 4) = true := by simp [e2]
      obtain rfl : lp = l1 := by rw [hDO.out, if_pos e2]
      obtain rfl : x.f8 = ls := by rw [hDL.out, if_pos e2]
      clear e2 hDO hDL hlv
      by_cases e3 : child = 0
      · have q3 : (child != 0) = false := by simp [e3]
        obtain rfl : at_ = y.f8.length := by rw [hDA.out, if_pos e3]
        clear e3 hDA
        go_enter Tryz.func45, Tryz.ntmps45
        go_wp2_with (first
          | (go_at_call 66; (with_reducible refine hck.mono ?_); rintro e w1 ⟨rfl, hB1⟩; rcases hvc cv with rfl | hvb; have hvv := hd_ (hCk.out rfl))
          | (go_at_call 57; (with_reducible refine (hn1 _ hB1).mono ?_); rintro e w3 ⟨A, c, rfl, hc3, hR3, hB3⟩; have hRb := Kd.R_base hR3; have hA : ∀ ad, A = some ad → w.heap.size ≤ ad.block := (by rintro ad rfl; have := hRb ad.block rfl; have := hB1.size; omega); have hC3 := below_alloc (below_then hB1 hB1.size hB3) (.cells #[.int .i64 x.f0, .int .i64 x.f1, .int .i64 x.f2, .int .i64 x.f3, .int .i64 x.f4, .bool x.f5, .string x.f6, .string x.f7, .slice A x.f8.length c] 115); have hX3 := blk_new w3 (.cells #[.int .i64 x.f0, .int .i64 x.f1, .int .i64 x.f2, .int .i64 x.f3, .int .i64 x.f4, .bool x.f5, .string x.f6, .string x.f7, .slice A x.f8.length c] 115); have hK3 := Kd.C_alloc ((Kd.R_reads' hR3).2.2) (.cells #[.int .i64 x.f0, .int .i64 x.f1, .int .i64 x.f2, .int .i64 x.f3, .int .i64 x.f4, .bool x.f5, .string x.f6, .string x.f7, .slice A x.f8.length c] 115); have z0 := fun o => cell_alloc_at ((blk_cell hX3 0).trans rfl) o; have z8 := fun o => cell_alloc_at ((blk_cell hX3 8).trans rfl) o; have hC4 := below_alloc hC3 (.cells #[.int .i64 node] 3); have hL4 := list_box (w := w3.alloc (.cells #[.int .i64 x.f0, .int .i64 x.f1, .int .i64 x.f2, .int .i64 x.f3, .int .i64 x.f4, .bool x.f5, .string x.f6, .string x.f7, .slice A x.f8.length c] 115)) (g := w3.heap.size + 1) node (by simp); have hs4 : w.heap.size ≤ w3.heap.size + 1 := (by have := hC3.size; simpa using this); clear hB3 hRb hR3)
          | (go_at_call 68; (with_reducible refine (hcl _ hC4).mono ?_); rintro e w5 ⟨rfl, hF5, hS5⟩; have hK5 := ints_ste hS5 (Kd.C_alloc hK3 (.cells #[.int .i64 node] 3)) (fun ad ha hp => by have h1 := (hlo.out _ hp).2; have h2 := hA ad ha; omega))
          | (go_at_call 57; (with_reducible refine (hn2 _ _ hF5 _ (Below.refl _ _)).mono ?_); rintro e w6 ⟨A2, c2, rfl, hc6, hK6, hB6⟩; have hC6 := below_alloc hB6 (.cells #[.int .i64 y.f0, .int .i64 y.f1, .int .i64 y.f2, .int .i64 y.f3, .int .i64 y.f4, .bool y.f5, .string y.f6, .string y.f7, .slice A2 y.f8.length c2] 115); have hX6 := blk_new w6 (.cells #[.int .i64 y.f0, .int .i64 y.f1, .int .i64 y.f2, .int .i64 y.f3, .int .i64 y.f4, .bool y.f5, .string y.f6, .string y.f7, .slice A2 y.f8.length c2] 115); have y8 := (blk_cell hX6 8).trans rfl; replace hK6 := Kd.C_alloc hK6 (.cells #[.int .i64 y.f0, .int .i64 y.f1, .int .i64 y.f2, .int .i64 y.f3, .int .i64 y.f4, .bool y.f5, .string y.f6, .string y.f7, .slice A2 y.f8.length c2] 115); clear z0 z8 hX3)
          | (go_at_call 71; refine (hin A2 A c2 c _ hK6 hc6 (Kd.C_below hK5 hC6) (hAT.out hvv.out).1).mono ?_; rintro e w8 ⟨A8, c8, rfl, hR8, hB8⟩; have hC8 := below_then hC6 hC6.size hB8; have hRr := Kd.R_reads' hR8; have hRc := Kd.R_base hR8)
          | (go_at_call 68; (with_reducible refine (hpu _ _ (hF5.below hC8) A8 _ c8 hRr.2.2 (fun ad ha hp => by subst ha; have h1 := (hF5.lo _ hp).2; have h2 := hRc ad.block rfl; have h3 := hC6.size; omega) hRr.2.1 (Nat.le_trans hBL.out (by decide))).mono ?_); rintro e w9 ⟨rfl, hF9, hS9⟩))
        all_goals go_ret
        all_goals first
          | exact hEX.out _ hB1 hvb
          | exact (congrArg (fun v => Ending.returned (.int .i64 v)) hDP.out) ▸ hBD.out _ _ _ _ (by simp) hC4 hS5 hC8 hS9 (by rw [hDB.out]; exact hF9)
      · have q3 : (child != 0) = true := by simp [e3]
        have hix : ∀ (u : Int), ChkOk l node parent child → ∀ A c W, (Kd.int .i64).C W A y.f8.length y.f8 → Calls Tryz.prog 70 #[.slice A y.f8.length c, .int .i64 child] W fun e w' => e = .returned (.int .i64 at_) ∧ w' = W := fun _ hc A c W hC => by
          rw [← (hAT.out hc).2 e3]
          exact index_any y.f8 _ A c W hC (by have := hKL.out; omega)
        clear e3 hDA
        go_enter Tryz.func45, Tryz.ntmps45
        go_wp2_with (first
          | (go_at_call 66; (with_reducible refine hck.mono ?_); rintro e w1 ⟨rfl, hB1⟩; rcases hvc cv with rfl | hvb; have hvv := hd_ (hCk.out rfl))
          | (go_at_call 57; (with_reducible refine (hn1 _ hB1).mono ?_); rintro e w3 ⟨A, c, rfl, hc3, hR3, hB3⟩; have hRb := Kd.R_base hR3; have hA : ∀ ad, A = some ad → w.heap.size ≤ ad.block := (by rintro ad rfl; have := hRb ad.block rfl; have := hB1.size; omega); have hC3 := below_alloc (below_then hB1 hB1.size hB3) (.cells #[.int .i64 x.f0, .int .i64 x.f1, .int .i64 x.f2, .int .i64 x.f3, .int .i64 x.f4, .bool x.f5, .string x.f6, .string x.f7, .slice A x.f8.length c] 115); have hX3 := blk_new w3 (.cells #[.int .i64 x.f0, .int .i64 x.f1, .int .i64 x.f2, .int .i64 x.f3, .int .i64 x.f4, .bool x.f5, .string x.f6, .string x.f7, .slice A x.f8.length c] 115); have hK3 := Kd.C_alloc ((Kd.R_reads' hR3).2.2) (.cells #[.int .i64 x.f0, .int .i64 x.f1, .int .i64 x.f2, .int .i64 x.f3, .int .i64 x.f4, .bool x.f5, .string x.f6, .string x.f7, .slice A x.f8.length c] 115); have z0 := fun o => cell_alloc_at ((blk_cell hX3 0).trans rfl) o; have z8 := fun o => cell_alloc_at ((blk_cell hX3 8).trans rfl) o; have hC4 := below_alloc hC3 (.cells #[.int .i64 node] 3); have hL4 := list_box (w := w3.alloc (.cells #[.int .i64 x.f0, .int .i64 x.f1, .int .i64 x.f2, .int .i64 x.f3, .int .i64 x.f4, .bool x.f5, .string x.f6, .string x.f7, .slice A x.f8.length c] 115)) (g := w3.heap.size + 1) node (by simp); have hs4 : w.heap.size ≤ w3.heap.size + 1 := (by have := hC3.size; simpa using this); clear hB3 hRb hR3)
          | (go_at_call 68; (with_reducible refine (hcl _ hC4).mono ?_); rintro e w5 ⟨rfl, hF5, hS5⟩; have hK5 := ints_ste hS5 (Kd.C_alloc hK3 (.cells #[.int .i64 node] 3)) (fun ad ha hp => by have h1 := (hlo.out _ hp).2; have h2 := hA ad ha; omega))
          | (go_at_call 57; (with_reducible refine (hn2 _ _ hF5 _ (Below.refl _ _)).mono ?_); rintro e w6 ⟨A2, c2, rfl, hc6, hK6, hB6⟩; have hC6 := below_alloc hB6 (.cells #[.int .i64 y.f0, .int .i64 y.f1, .int .i64 y.f2, .int .i64 y.f3, .int .i64 y.f4, .bool y.f5, .string y.f6, .string y.f7, .slice A2 y.f8.length c2] 115); have hX6 := blk_new w6 (.cells #[.int .i64 y.f0, .int .i64 y.f1, .int .i64 y.f2, .int .i64 y.f3, .int .i64 y.f4, .bool y.f5, .string y.f6, .string y.f7, .slice A2 y.f8.length c2] 115); have y8 := (blk_cell hX6 8).trans rfl; replace hK6 := Kd.C_alloc hK6 (.cells #[.int .i64 y.f0, .int .i64 y.f1, .int .i64 y.f2, .int .i64 y.f3, .int .i64 y.f4, .bool y.f5, .string y.f6, .string y.f7, .slice A2 y.f8.length c2] 115); clear z0 z8 hX3)
          | (go_at_call 70; (with_reducible refine (hix 0 hvv.out A2 c2 _ hK6).mono ?_); rintro e w7 ⟨rfl, hw7⟩; obtain rfl := hw7.symm)
          | (go_at_call 71; refine (hin A2 A c2 c _ hK6 hc6 (Kd.C_below hK5 hC6) (hAT.out hvv.out).1).mono ?_; rintro e w8 ⟨A8, c8, rfl, hR8, hB8⟩; have hC8 := below_then hC6 hC6.size hB8; have hRr := Kd.R_reads' hR8; have hRc := Kd.R_base hR8)
          | (go_at_call 68; (with_reducible refine (hpu _ _ (hF5.below hC8) A8 _ c8 hRr.2.2 (fun ad ha hp => by subst ha; have h1 := (hF5.lo _ hp).2; have h2 := hRc ad.block rfl; have h3 := hC6.size; omega) hRr.2.1 (Nat.le_trans hBL.out (by decide))).mono ?_); rintro e w9 ⟨rfl, hF9, hS9⟩))
        all_goals go_ret
        all_goals first
          | exact hEX.out _ hB1 hvb
          | exact (congrArg (fun v => Ending.returned (.int .i64 v)) hDP.out) ▸ hBD.out _ _ _ _ (by simp) hC4 hS5 hC8 hS9 (by rw [hDB.out]; exact hF9)
    · have q2 : (x.f0 == 4) = false := by simp [e2]
      obtain rfl : lv = l1 := by rw [hDO.out, if_neg e2]
      obtain rfl : [node] = ls := by rw [hDL.out, if_neg e2]
      clear e2 hDO hDL hcl
      by_cases e3 : child = 0
      · have q3 : (child != 0) = false := by simp [e3]
        obtain rfl : at_ = y.f8.length := by rw [hDA.out, if_pos e3]
        clear e3 hDA
        go_enter Tryz.func45, Tryz.ntmps45
        go_wp2_with (first
          | (go_at_call 66; (with_reducible refine hck.mono ?_); rintro e w1 ⟨rfl, hB1⟩; rcases hvc cv with rfl | hvb; have hvv := hd_ (hCk.out rfl))
          | (go_at_call 57; (with_reducible refine (hn1 _ hB1).mono ?_); rintro e w3 ⟨A, c, rfl, hc3, hR3, hB3⟩; have hRb := Kd.R_base hR3; have hA : ∀ ad, A = some ad → w.heap.size ≤ ad.block := (by rintro ad rfl; have := hRb ad.block rfl; have := hB1.size; omega); have hC3 := below_alloc (below_then hB1 hB1.size hB3) (.cells #[.int .i64 x.f0, .int .i64 x.f1, .int .i64 x.f2, .int .i64 x.f3, .int .i64 x.f4, .bool x.f5, .string x.f6, .string x.f7, .slice A x.f8.length c] 115); have hX3 := blk_new w3 (.cells #[.int .i64 x.f0, .int .i64 x.f1, .int .i64 x.f2, .int .i64 x.f3, .int .i64 x.f4, .bool x.f5, .string x.f6, .string x.f7, .slice A x.f8.length c] 115); have hK3 := Kd.C_alloc ((Kd.R_reads' hR3).2.2) (.cells #[.int .i64 x.f0, .int .i64 x.f1, .int .i64 x.f2, .int .i64 x.f3, .int .i64 x.f4, .bool x.f5, .string x.f6, .string x.f7, .slice A x.f8.length c] 115); have z0 := fun o => cell_alloc_at ((blk_cell hX3 0).trans rfl) o; have z8 := fun o => cell_alloc_at ((blk_cell hX3 8).trans rfl) o; have hC4 := below_alloc hC3 (.cells #[.int .i64 node] 3); have hL4 := list_box (w := w3.alloc (.cells #[.int .i64 x.f0, .int .i64 x.f1, .int .i64 x.f2, .int .i64 x.f3, .int .i64 x.f4, .bool x.f5, .string x.f6, .string x.f7, .slice A x.f8.length c] 115)) (g := w3.heap.size + 1) node (by simp); have hs4 : w.heap.size ≤ w3.heap.size + 1 := (by have := hC3.size; simpa using this); clear hB3 hRb hR3)
          | (go_at_call 69; (with_reducible refine (hlv _ hC4).mono ?_); rintro e w5 ⟨rfl, hF5, hS5⟩; have hK5 := ints_ste hS5 hL4 (fun ad ha hp => by have h1 := (hlo.out _ hp).2; cases ha; simp only at h1; omega); replace hK5 := list_one hK5)
          | (go_at_call 57; (with_reducible refine (hn2 _ _ hF5 _ (Below.refl _ _)).mono ?_); rintro e w6 ⟨A2, c2, rfl, hc6, hK6, hB6⟩; have hC6 := below_alloc hB6 (.cells #[.int .i64 y.f0, .int .i64 y.f1, .int .i64 y.f2, .int .i64 y.f3, .int .i64 y.f4, .bool y.f5, .string y.f6, .string y.f7, .slice A2 y.f8.length c2] 115); have hX6 := blk_new w6 (.cells #[.int .i64 y.f0, .int .i64 y.f1, .int .i64 y.f2, .int .i64 y.f3, .int .i64 y.f4, .bool y.f5, .string y.f6, .string y.f7, .slice A2 y.f8.length c2] 115); have y8 := (blk_cell hX6 8).trans rfl; replace hK6 := Kd.C_alloc hK6 (.cells #[.int .i64 y.f0, .int .i64 y.f1, .int .i64 y.f2, .int .i64 y.f3, .int .i64 y.f4, .bool y.f5, .string y.f6, .string y.f7, .slice A2 y.f8.length c2] 115); clear z0 z8 hX3)
          | (go_at_call 71; refine (hin A2 (some ⟨w3.heap.size + 1, 0, none⟩) c2 1 _ hK6 hc6 (Kd.C_below hK5 hC6) (hAT.out hvv.out).1).mono ?_; rintro e w8 ⟨A8, c8, rfl, hR8, hB8⟩; have hC8 := below_then hC6 hC6.size hB8; have hRr := Kd.R_reads' hR8; have hRc := Kd.R_base hR8)
          | (go_at_call 68; (with_reducible refine (hpu _ _ (hF5.below hC8) A8 _ c8 hRr.2.2 (fun ad ha hp => by subst ha; have h1 := (hF5.lo _ hp).2; have h2 := hRc ad.block rfl; have h3 := hC6.size; omega) hRr.2.1 (Nat.le_trans hBL.out (by decide))).mono ?_); rintro e w9 ⟨rfl, hF9, hS9⟩))
        all_goals go_ret
        all_goals first
          | exact hEX.out _ hB1 hvb
          | exact (congrArg (fun v => Ending.returned (.int .i64 v)) hDP.out) ▸ hBD.out _ _ _ _ (by simp) hC4 hS5 hC8 hS9 (by rw [hDB.out]; exact hF9)
      · have q3 : (child != 0) = true := by simp [e3]
        have hix : ∀ (u : Int), ChkOk l node parent child → ∀ A c W, (Kd.int .i64).C W A y.f8.length y.f8 → Calls Tryz.prog 70 #[.slice A y.f8.length c, .int .i64 child] W fun e w' => e = .returned (.int .i64 at_) ∧ w' = W := fun _ hc A c W hC => by
          rw [← (hAT.out hc).2 e3]
          exact index_any y.f8 _ A c W hC (by have := hKL.out; omega)
        clear e3 hDA
        go_enter Tryz.func45, Tryz.ntmps45
        go_wp2_with (first
          | (go_at_call 66; (with_reducible refine hck.mono ?_); rintro e w1 ⟨rfl, hB1⟩; rcases hvc cv with rfl | hvb; have hvv := hd_ (hCk.out rfl))
          | (go_at_call 57; (with_reducible refine (hn1 _ hB1).mono ?_); rintro e w3 ⟨A, c, rfl, hc3, hR3, hB3⟩; have hRb := Kd.R_base hR3; have hA : ∀ ad, A = some ad → w.heap.size ≤ ad.block := (by rintro ad rfl; have := hRb ad.block rfl; have := hB1.size; omega); have hC3 := below_alloc (below_then hB1 hB1.size hB3) (.cells #[.int .i64 x.f0, .int .i64 x.f1, .int .i64 x.f2, .int .i64 x.f3, .int .i64 x.f4, .bool x.f5, .string x.f6, .string x.f7, .slice A x.f8.length c] 115); have hX3 := blk_new w3 (.cells #[.int .i64 x.f0, .int .i64 x.f1, .int .i64 x.f2, .int .i64 x.f3, .int .i64 x.f4, .bool x.f5, .string x.f6, .string x.f7, .slice A x.f8.length c] 115); have hK3 := Kd.C_alloc ((Kd.R_reads' hR3).2.2) (.cells #[.int .i64 x.f0, .int .i64 x.f1, .int .i64 x.f2, .int .i64 x.f3, .int .i64 x.f4, .bool x.f5, .string x.f6, .string x.f7, .slice A x.f8.length c] 115); have z0 := fun o => cell_alloc_at ((blk_cell hX3 0).trans rfl) o; have z8 := fun o => cell_alloc_at ((blk_cell hX3 8).trans rfl) o; have hC4 := below_alloc hC3 (.cells #[.int .i64 node] 3); have hL4 := list_box (w := w3.alloc (.cells #[.int .i64 x.f0, .int .i64 x.f1, .int .i64 x.f2, .int .i64 x.f3, .int .i64 x.f4, .bool x.f5, .string x.f6, .string x.f7, .slice A x.f8.length c] 115)) (g := w3.heap.size + 1) node (by simp); have hs4 : w.heap.size ≤ w3.heap.size + 1 := (by have := hC3.size; simpa using this); clear hB3 hRb hR3)
          | (go_at_call 69; (with_reducible refine (hlv _ hC4).mono ?_); rintro e w5 ⟨rfl, hF5, hS5⟩; have hK5 := ints_ste hS5 hL4 (fun ad ha hp => by have h1 := (hlo.out _ hp).2; cases ha; simp only at h1; omega); replace hK5 := list_one hK5)
          | (go_at_call 57; (with_reducible refine (hn2 _ _ hF5 _ (Below.refl _ _)).mono ?_); rintro e w6 ⟨A2, c2, rfl, hc6, hK6, hB6⟩; have hC6 := below_alloc hB6 (.cells #[.int .i64 y.f0, .int .i64 y.f1, .int .i64 y.f2, .int .i64 y.f3, .int .i64 y.f4, .bool y.f5, .string y.f6, .string y.f7, .slice A2 y.f8.length c2] 115); have hX6 := blk_new w6 (.cells #[.int .i64 y.f0, .int .i64 y.f1, .int .i64 y.f2, .int .i64 y.f3, .int .i64 y.f4, .bool y.f5, .string y.f6, .string y.f7, .slice A2 y.f8.length c2] 115); have y8 := (blk_cell hX6 8).trans rfl; replace hK6 := Kd.C_alloc hK6 (.cells #[.int .i64 y.f0, .int .i64 y.f1, .int .i64 y.f2, .int .i64 y.f3, .int .i64 y.f4, .bool y.f5, .string y.f6, .string y.f7, .slice A2 y.f8.length c2] 115); clear z0 z8 hX3)
          | (go_at_call 70; (with_reducible refine (hix 0 hvv.out A2 c2 _ hK6).mono ?_); rintro e w7 ⟨rfl, hw7⟩; obtain rfl := hw7.symm)
          | (go_at_call 71; refine (hin A2 (some ⟨w3.heap.size + 1, 0, none⟩) c2 1 _ hK6 hc6 (Kd.C_below hK5 hC6) (hAT.out hvv.out).1).mono ?_; rintro e w8 ⟨A8, c8, rfl, hR8, hB8⟩; have hC8 := below_then hC6 hC6.size hB8; have hRr := Kd.R_reads' hR8; have hRc := Kd.R_base hR8)
          | (go_at_call 68; (with_reducible refine (hpu _ _ (hF5.below hC8) A8 _ c8 hRr.2.2 (fun ad ha hp => by subst ha; have h1 := (hF5.lo _ hp).2; have h2 := hRc ad.block rfl; have h3 := hC6.size; omega) hRr.2.1 (Nat.le_trans hBL.out (by decide))).mono ?_); rintro e w9 ⟨rfl, hF9, hS9⟩))
        all_goals go_ret
        all_goals first
          | exact hEX.out _ hB1 hvb
          | exact (congrArg (fun v => Ending.returned (.int .i64 v)) hDP.out) ▸ hBD.out _ _ _ _ (by simp) hC4 hS5 hC8 hS9 (by rw [hDB.out]; exact hF9)
set_option maxRecDepth 100000 in
theorem append_any (P : Nat → Prop) (w0 : World) (F : Nat) (node parent : Int) (l : List S115) (w : World) (h : FoC P w0 w F l) (hW : WF8 l) :
    Calls Tryz.prog 44 #[.pointer (some ⟨F, 0, none⟩), .int .i64 node, .int .i64 parent] w (EdPost P w0 w F (befE l node parent 0) (befF l node parent 0)) := by
  have hp := before_any P w0 F node parent 0 l w h hW
  go_enter Tryz.func44, Tryz.ntmps44
  go_wp2_with (go_at_call 45; (with_reducible refine hp.mono ?_); rintro e w1 ⟨rfl, h2, h3, h4⟩)
  go_ret
  exact ⟨rfl, h2, h3, h4⟩
end Go.Proofs.YtgopddjmmoohdaaGreatDoor

/- shade.Attach over forests. -/
set_option linter.unusedSimpArgs false
set_option linter.unusedVariables false
namespace Go.Proofs.YtgopddjmmoohdaaGreatDoor
open Go.RowKit Go.Proofs.YtgopddjmmoohdaaGreatDoorW.PrintWords Go.Proofs.YtgopddjmmoohdaaGreatDoorW.PrintLast Go.Proofs.YtgopddjmmoohdaaGreatDoor.PPlaySilent

/-- Attach: the forest then, its answer, its error. -/
def attR (l : List S115) (a m : Int) : List S115 × Int × Int :=
  if isN l a = false then (l, 0, 1) else if (m != 1 && m != 2) = true then (l, 0, 1) else if ((nodeD l a).f0 != 2) = true then (l, 0, 5) else if ((nodeD l a).f3 != 0) = true then (l, 0, 5) else
    if (makeV l 3 m false ⟨#[]⟩ ⟨#[]⟩).2 = 0 then (tieF (makeF l 3 m false ⟨#[]⟩ ⟨#[]⟩) a (makeV l 3 m false ⟨#[]⟩ ⟨#[]⟩).1, (makeV l 3 m false ⟨#[]⟩ ⟨#[]⟩).1, tieE (makeF l 3 m false ⟨#[]⟩ ⟨#[]⟩) a (makeV l 3 m false ⟨#[]⟩ ⟨#[]⟩).1) else (makeF l 3 m false ⟨#[]⟩ ⟨#[]⟩, 0, (makeV l 3 m false ⟨#[]⟩ ⟨#[]⟩).2)
def AtPost (P : Nat → Prop) (w0 w : World) (F : Nat) (r : List S115 × Int × Int) (e : Ending) (w' : World) : Prop := e = .returned (.tuple #[.int .i64 r.2.1, .int .i64 r.2.2]) ∧ WF8 r.1 ∧ FoC (grow P w.heap.size w'.heap.size) w0 w' F r.1 ∧ Ste P w w'
set_option maxRecDepth 100000 in
set_option maxHeartbeats 16000000 in
theorem attach_any (P : Nat → Prop) (w0 : World) (F : Nat) (a m : Int) (l : List S115) (w : World) (h : FoC P w0 w F l) (hW : WF8 l) :
    Calls Tryz.prog 48 #[.pointer (some ⟨F, 0, none⟩), .int .i64 a, .int .i64 m] w (AtPost P w0 w F (attR l a m)) := by
  have hn1 := node_call F a l w h.read hW.wf.kl
  have hmk := fun W (hB : Below w.heap.size w W) => (h.below hB).make 3 0 0 0 m false ⟨#[]⟩ ⟨#[]⟩ none 0 0
  have htie := fun P1 W (hF : FoC P1 w0 W F (makeF l 3 m false ⟨#[]⟩ ⟨#[]⟩)) u => hF.tie (hW.make 3 m false ⟨#[]⟩ ⟨#[]⟩).wf a u
  have hEX : Hd (∀ W v, attR l a m = (l, 0, v) → Below w.heap.size w W → AtPost P w0 w F (attR l a m) (.returned (.tuple #[.int .i64 0, .int .i64 v])) W) := ⟨fun W v he hB => by
    rw [he]; exact ⟨rfl, hW, h.mono_below hB, Ste.of_below hB⟩⟩
  have hT1 : Hd (∀ W1 W2, attR l a m = (makeF l 3 m false ⟨#[]⟩ ⟨#[]⟩, 0, (makeV l 3 m false ⟨#[]⟩ ⟨#[]⟩).2) → Below w.heap.size w W1 → FoC (grow P W1.heap.size W2.heap.size) w0 W2 F (makeF l 3 m false ⟨#[]⟩ ⟨#[]⟩) → Ste P W1 W2 → AtPost P w0 w F (attR l a m) (.returned (.tuple #[.int .i64 0, .int .i64 (makeV l 3 m false ⟨#[]⟩ ⟨#[]⟩).2])) W2) := ⟨fun W1 W2 he hB hF hS => by
    rw [he]
    exact ⟨rfl, hW.make 3 m false ⟨#[]⟩ ⟨#[]⟩, hF.wide hB.size h.lo h.base.size, (Ste.of_below hB).trans hS (fun k hk => .inl hk)⟩⟩
  have hT2 : Hd (∀ W1 W2 W3, attR l a m = (tieF (makeF l 3 m false ⟨#[]⟩ ⟨#[]⟩) a (makeV l 3 m false ⟨#[]⟩ ⟨#[]⟩).1, (makeV l 3 m false ⟨#[]⟩ ⟨#[]⟩).1, tieE (makeF l 3 m false ⟨#[]⟩ ⟨#[]⟩) a (makeV l 3 m false ⟨#[]⟩ ⟨#[]⟩).1) → Below w.heap.size w W1 → Ste P W1 W2 → FoC (grow (grow P W1.heap.size W2.heap.size) W2.heap.size W3.heap.size) w0 W3 F (tieF (makeF l 3 m false ⟨#[]⟩ ⟨#[]⟩) a (makeV l 3 m false ⟨#[]⟩ ⟨#[]⟩).1) → Ste (grow P W1.heap.size W2.heap.size) W2 W3 → AtPost P w0 w F (attR l a m) (.returned (.tuple #[.int .i64 (makeV l 3 m false ⟨#[]⟩ ⟨#[]⟩).1, .int .i64 (tieE (makeF l 3 m false ⟨#[]⟩ ⟨#[]⟩) a (makeV l 3 m false ⟨#[]⟩ ⟨#[]⟩).1)])) W3) := ⟨fun W1 W2 W3 he hB hS hF hS3 => by
    have h1 := hB.size
    have h2 := hS.size
    have h3 := hS3.size
    rw [he]
    refine ⟨rfl, (hW.make 3 m false ⟨#[]⟩ ⟨#[]⟩).tie a _, hF.gather (m := w.heap.size) (fun k hk => ?_) h.lo (by omega) h.base.size, ((Ste.of_below hB).trans hS (fun k hk => .inl hk)).trans hS3 (fun k hk => ?_)⟩
    · rcases hk with (hk | hk) | hk
      · exact .inl hk
      · exact .inr (by omega)
      · exact .inr (by omega)
    · rcases hk with hk | hk
      · exact .inl hk
      · exact .inr (by omega)⟩
  have HE := hd_ (show attR l a m = if isN l a = false then (l, 0, 1) else if (m != 1 && m != 2) = true then (l, 0, 1) else if ((nodeD l a).f0 != 2) = true then (l, 0, 5) else if ((nodeD l a).f3 != 0) = true then (l, 0, 5) else
    if (makeV l 3 m false ⟨#[]⟩ ⟨#[]⟩).2 = 0 then (tieF (makeF l 3 m false ⟨#[]⟩ ⟨#[]⟩) a (makeV l 3 m false ⟨#[]⟩ ⟨#[]⟩).1, (makeV l 3 m false ⟨#[]⟩ ⟨#[]⟩).1, tieE (makeF l 3 m false ⟨#[]⟩ ⟨#[]⟩) a (makeV l 3 m false ⟨#[]⟩ ⟨#[]⟩).1) else (makeF l 3 m false ⟨#[]⟩ ⟨#[]⟩, 0, (makeV l 3 m false ⟨#[]⟩ ⟨#[]⟩).2) from rfl)
  have hvc : ∀ v : Int, v = 0 ∨ (v != 0) = true := fun v => by
    by_cases e : v = 0
    · exact .inl e
    · exact .inr (by simp [e])
  simp only [nodeV] at hn1
  generalize attR l a m = ar at *
  generalize makeF l 3 m false ⟨#[]⟩ ⟨#[]⟩ = l1 at *
  generalize (makeV l 3 m false ⟨#[]⟩ ⟨#[]⟩).1 = u at *
  generalize (makeV l 3 m false ⟨#[]⟩ ⟨#[]⟩).2 = v at *
  generalize nodeD l a = x at *
  generalize isN l a = b at *
  clear h hW
  cases b with
  | false =>
    have HF := hd_ (show ar = (l, 0, 1) by rw [HE.out]; simp [])
    clear HE hT1 hT2
    go_enter Tryz.func48, Tryz.ntmps48
    go_wp2_with (first
      | (go_at_call 57; (with_reducible refine hn1.mono ?_); rintro e w1 ⟨A, c, rfl, -, -, hB1⟩; have hC1 := below_alloc hB1 (.cells #[.int .i64 x.f0, .int .i64 x.f1, .int .i64 x.f2, .int .i64 x.f3, .int .i64 x.f4, .bool x.f5, .string x.f6, .string x.f7, .slice A x.f8.length c] 115); have hX1 := blk_new w1 (.cells #[.int .i64 x.f0, .int .i64 x.f1, .int .i64 x.f2, .int .i64 x.f3, .int .i64 x.f4, .bool x.f5, .string x.f6, .string x.f7, .slice A x.f8.length c] 115); have z0 := (blk_cell hX1 0).trans rfl; have z3 := (blk_cell hX1 3).trans rfl))
    go_ret2
    exact hEX.out _ _ HF.out hC1
  | true =>
    by_cases k1 : m = 1
    · subst k1
      by_cases k0 : x.f0 = 2
      · have q0 : (x.f0 != 2) = false := by simp [k0]
        by_cases k3 : x.f3 = 0
        · have q3 : (x.f3 != 0) = false := by simp [k3]
          clear k0 k3
          have HF := hd_ (show ar = if v = 0 then (tieF l1 a u, u, tieE l1 a u) else (l1, 0, v) by rw [HE.out]; simp [q0, q3])
          clear HE hEX
          go_enter Tryz.func48, Tryz.ntmps48
          go_wp2_with (first
            | (go_at_call 57; (with_reducible refine hn1.mono ?_); rintro e w1 ⟨A, c, rfl, -, -, hB1⟩; have hC1 := below_alloc hB1 (.cells #[.int .i64 x.f0, .int .i64 x.f1, .int .i64 x.f2, .int .i64 x.f3, .int .i64 x.f4, .bool x.f5, .string x.f6, .string x.f7, .slice A x.f8.length c] 115); have hX1 := blk_new w1 (.cells #[.int .i64 x.f0, .int .i64 x.f1, .int .i64 x.f2, .int .i64 x.f3, .int .i64 x.f4, .bool x.f5, .string x.f6, .string x.f7, .slice A x.f8.length c] 115); have z0 := (blk_cell hX1 0).trans rfl; have z3 := (blk_cell hX1 3).trans rfl)
            | (go_at_call 63; refine (hmk _ hC1).mono ?_; rintro e w2 ⟨rfl, hF2, hS2⟩; clear z0 z3; rcases hvc v with rfl | hvb)
            | (go_at_call 72; (with_reducible refine (htie _ _ hF2 u).mono ?_); rintro e w3 ⟨rfl, hF3, hS3⟩))
          all_goals go_ret2
          all_goals first
            | exact hT2.out _ _ _ (by rw [HF.out]; simp) hC1 hS2 hF3 hS3
            | exact hT1.out _ _ (by rw [HF.out, if_neg (by simpa using hvb)]) hC1 hF2 hS2
        · have q3 : (x.f3 != 0) = true := by simp [k3]
          clear k0 k3
          have HF := hd_ (show ar = (l, 0, 5) by rw [HE.out]; simp [q0, q3])
          clear HE hT1 hT2
          go_enter Tryz.func48, Tryz.ntmps48
          go_wp2_with (first
            | (go_at_call 57; (with_reducible refine hn1.mono ?_); rintro e w1 ⟨A, c, rfl, -, -, hB1⟩; have hC1 := below_alloc hB1 (.cells #[.int .i64 x.f0, .int .i64 x.f1, .int .i64 x.f2, .int .i64 x.f3, .int .i64 x.f4, .bool x.f5, .string x.f6, .string x.f7, .slice A x.f8.length c] 115); have hX1 := blk_new w1 (.cells #[.int .i64 x.f0, .int .i64 x.f1, .int .i64 x.f2, .int .i64 x.f3, .int .i64 x.f4, .bool x.f5, .string x.f6, .string x.f7, .slice A x.f8.length c] 115); have z0 := (blk_cell hX1 0).trans rfl; have z3 := (blk_cell hX1 3).trans rfl))
          go_ret2
          exact hEX.out _ _ HF.out hC1
      · have q0 : (x.f0 != 2) = true := by simp [k0]
        clear k0
        have HF := hd_ (show ar = (l, 0, 5) by rw [HE.out]; simp [q0])
        clear HE hT1 hT2
        go_enter Tryz.func48, Tryz.ntmps48
        go_wp2_with (first
          | (go_at_call 57; (with_reducible refine hn1.mono ?_); rintro e w1 ⟨A, c, rfl, -, -, hB1⟩; have hC1 := below_alloc hB1 (.cells #[.int .i64 x.f0, .int .i64 x.f1, .int .i64 x.f2, .int .i64 x.f3, .int .i64 x.f4, .bool x.f5, .string x.f6, .string x.f7, .slice A x.f8.length c] 115); have hX1 := blk_new w1 (.cells #[.int .i64 x.f0, .int .i64 x.f1, .int .i64 x.f2, .int .i64 x.f3, .int .i64 x.f4, .bool x.f5, .string x.f6, .string x.f7, .slice A x.f8.length c] 115); have z0 := (blk_cell hX1 0).trans rfl; have z3 := (blk_cell hX1 3).trans rfl))
        go_ret2
        exact hEX.out _ _ HF.out hC1
    · have q1 : (m != 1) = true := by simp [k1]
      by_cases k2 : m = 2
      · subst k2
        clear k1
        by_cases k0 : x.f0 = 2
        · have q0 : (x.f0 != 2) = false := by simp [k0]
          by_cases k3 : x.f3 = 0
          · have q3 : (x.f3 != 0) = false := by simp [k3]
            clear k0 k3
            have HF := hd_ (show ar = if v = 0 then (tieF l1 a u, u, tieE l1 a u) else (l1, 0, v) by rw [HE.out]; simp [q0, q3])
            clear HE hEX
            go_enter Tryz.func48, Tryz.ntmps48
            go_wp2_with (first
              | (go_at_call 57; (with_reducible refine hn1.mono ?_); rintro e w1 ⟨A, c, rfl, -, -, hB1⟩; have hC1 := below_alloc hB1 (.cells #[.int .i64 x.f0, .int .i64 x.f1, .int .i64 x.f2, .int .i64 x.f3, .int .i64 x.f4, .bool x.f5, .string x.f6, .string x.f7, .slice A x.f8.length c] 115); have hX1 := blk_new w1 (.cells #[.int .i64 x.f0, .int .i64 x.f1, .int .i64 x.f2, .int .i64 x.f3, .int .i64 x.f4, .bool x.f5, .string x.f6, .string x.f7, .slice A x.f8.length c] 115); have z0 := (blk_cell hX1 0).trans rfl; have z3 := (blk_cell hX1 3).trans rfl)
              | (go_at_call 63; refine (hmk _ hC1).mono ?_; rintro e w2 ⟨rfl, hF2, hS2⟩; clear z0 z3; rcases hvc v with rfl | hvb)
              | (go_at_call 72; (with_reducible refine (htie _ _ hF2 u).mono ?_); rintro e w3 ⟨rfl, hF3, hS3⟩))
            all_goals go_ret2
            all_goals first
              | exact hT2.out _ _ _ (by rw [HF.out]; simp) hC1 hS2 hF3 hS3
              | exact hT1.out _ _ (by rw [HF.out, if_neg (by simpa using hvb)]) hC1 hF2 hS2
          · have q3 : (x.f3 != 0) = true := by simp [k3]
            clear k0 k3
            have HF := hd_ (show ar = (l, 0, 5) by rw [HE.out]; simp [q0, q3])
            clear HE hT1 hT2
            go_enter Tryz.func48, Tryz.ntmps48
            go_wp2_with (first
              | (go_at_call 57; (with_reducible refine hn1.mono ?_); rintro e w1 ⟨A, c, rfl, -, -, hB1⟩; have hC1 := below_alloc hB1 (.cells #[.int .i64 x.f0, .int .i64 x.f1, .int .i64 x.f2, .int .i64 x.f3, .int .i64 x.f4, .bool x.f5, .string x.f6, .string x.f7, .slice A x.f8.length c] 115); have hX1 := blk_new w1 (.cells #[.int .i64 x.f0, .int .i64 x.f1, .int .i64 x.f2, .int .i64 x.f3, .int .i64 x.f4, .bool x.f5, .string x.f6, .string x.f7, .slice A x.f8.length c] 115); have z0 := (blk_cell hX1 0).trans rfl; have z3 := (blk_cell hX1 3).trans rfl))
            go_ret2
            exact hEX.out _ _ HF.out hC1
        · have q0 : (x.f0 != 2) = true := by simp [k0]
          clear k0
          have HF := hd_ (show ar = (l, 0, 5) by rw [HE.out]; simp [q0])
          clear HE hT1 hT2
          go_enter Tryz.func48, Tryz.ntmps48
          go_wp2_with (first
            | (go_at_call 57; (with_reducible refine hn1.mono ?_); rintro e w1 ⟨A, c, rfl, -, -, hB1⟩; have hC1 := below_alloc hB1 (.cells #[.int .i64 x.f0, .int .i64 x.f1, .int .i64 x.f2, .int .i64 x.f3, .int .i64 x.f4, .bool x.f5, .string x.f6, .string x.f7, .slice A x.f8.length c] 115); have hX1 := blk_new w1 (.cells #[.int .i64 x.f0, .int .i64 x.f1, .int .i64 x.f2, .int .i64 x.f3, .int .i64 x.f4, .bool x.f5, .string x.f6, .string x.f7, .slice A x.f8.length c] 115); have z0 := (blk_cell hX1 0).trans rfl; have z3 := (blk_cell hX1 3).trans rfl))
          go_ret2
          exact hEX.out _ _ HF.out hC1
      · have q2 : (m != 2) = true := by simp [k2]
        clear k1 k2
        have HF := hd_ (show ar = (l, 0, 1) by rw [HE.out]; simp [q1, q2])
        clear HE hT1 hT2
        go_enter Tryz.func48, Tryz.ntmps48
        go_wp2_with (first
          | (go_at_call 57; (with_reducible refine hn1.mono ?_); rintro e w1 ⟨A, c, rfl, -, -, hB1⟩; have hC1 := below_alloc hB1 (.cells #[.int .i64 x.f0, .int .i64 x.f1, .int .i64 x.f2, .int .i64 x.f3, .int .i64 x.f4, .bool x.f5, .string x.f6, .string x.f7, .slice A x.f8.length c] 115); have hX1 := blk_new w1 (.cells #[.int .i64 x.f0, .int .i64 x.f1, .int .i64 x.f2, .int .i64 x.f3, .int .i64 x.f4, .bool x.f5, .string x.f6, .string x.f7, .slice A x.f8.length c] 115); have z0 := (blk_cell hX1 0).trans rfl; have z3 := (blk_cell hX1 3).trans rfl))
        go_ret2
        exact hEX.out _ _ HF.out hC1
end Go.Proofs.YtgopddjmmoohdaaGreatDoor
