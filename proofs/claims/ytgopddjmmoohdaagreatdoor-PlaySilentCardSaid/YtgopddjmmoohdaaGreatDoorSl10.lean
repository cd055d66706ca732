/- The texts of this seat, joined: part 10 of 25. -/
import Derived.Test.YtgopddjmmoohdaaGreatDoorSl07
import Derived.Test.YtgopddjmmoohdaaGreatDoorSl09
import Derived.Defers
import Derived.Laws.LoneSync
import Derived.Laws.Pointers
import Derived.RegionTactic
import Derived.RegionCalls
import Derived.ChangeAlike
import Derived.Tactics2
import Derived.Shelf.Slices.Cells
import Derived.Shelf.Slices.Empties
/- Parts of a heap: what a part's operation leaves of the others. -/
set_option linter.unusedSimpArgs false
set_option linter.unusedVariables false
namespace Go.Proofs.YtgopddjmmoohdaaGreatDoor
open Go.RowKit Go.Proofs.YtgopddjmmoohdaaGreatDoorW.PrintWords Go.Proofs.YtgopddjmmoohdaaGreatDoorW.PrintLast Go.Proofs.YtgopddjmmoohdaaGreatDoor.PPlaySilent

/-- A part's blocks, and those that were laid between two sizes. -/
def grow (P : Nat → Prop) (a b : Nat) (k : Nat) : Prop := P k ∨ (a ≤ k ∧ k < b)
/-- From w to w' only blocks of P were written, and new ones laid. -/
structure Ste (P : Nat → Prop) (w w' : World) : Prop where
  os : w'.os = w.os
  tape : w'.tape = w.tape
  output : w'.output = w.output
  size : w.heap.size ≤ w'.heap.size
  keep : ∀ k, k < w.heap.size → ¬ P k → w'.heap[k]? = w.heap[k]?
theorem Ste.refl (P : Nat → Prop) (w : World) : Ste P w w := ⟨rfl, rfl, rfl, Nat.le_refl _, fun _ _ _ => rfl⟩
theorem Ste.of_below {P : Nat → Prop} {w w' : World} (h : Below w.heap.size w w') : Ste P w w' := ⟨h.os, h.tape, h.output, h.size, fun k hk _ => h.block k hk⟩
theorem Ste.trans {P P1 : Nat → Prop} {w w1 w2 : World} (h : Ste P w w1) (h1 : Ste P1 w1 w2) (hP : ∀ k, P1 k → P k ∨ w.heap.size ≤ k) : Ste P w w2 :=
  ⟨h1.os.trans h.os, h1.tape.trans h.tape, h1.output.trans h.output, Nat.le_trans h.size h1.size, fun k hk hn => (h1.keep k (Nat.lt_of_lt_of_le hk h.size) (fun hk1 => (hP k hk1).elim hn (fun h => by omega))).trans (h.keep k hk hn)⟩
theorem Ste.below {P : Nat → Prop} {w w1 w2 : World} (h : Ste P w w1) (h1 : Below w1.heap.size w1 w2) : Ste P w w2 := h.trans (P1 := fun _ => False) (Ste.of_below h1) (fun _ hk => hk.elim)
theorem Ste.mono {P P' : Nat → Prop} {w w' : World} (h : Ste P w w') (hP : ∀ k, P k → P' k ∨ w.heap.size ≤ k) : Ste P' w w' := ⟨h.os, h.tape, h.output, h.size, fun k hk hn => h.keep k hk (fun hp => (hP k hp).elim hn (fun h => by omega))⟩
theorem Ste.base {P : Nat → Prop} {n : Nat} {w0 w w' : World} (h : Ste P w w') (hb : Below n w0 w) (hn : n ≤ w.heap.size) (hP : ∀ k, P k → n ≤ k) : Below n w0 w' :=
  ⟨h.os.trans hb.os, h.tape.trans hb.tape, h.output.trans hb.output, Nat.le_trans hb.size h.size, fun k hk => (h.keep k (by omega) (fun hp => by have := hP k hp; omega)).trans (hb.block k hk)⟩
theorem Ste.blk {P : Nat → Prop} {w w' : World} (h : Ste P w w') {k : Nat} {o : Obj} (ho : w.heap[k]? = some o) (hk : ¬ P k) : w'.heap[k]? = some o := (h.keep k (blk_lt ho) hk).trans ho
theorem Ste.kept {P : Nat → Prop} {w w' : World} (h : Ste P w w') : Kept w w' P := ⟨h.size, h.keep⟩
/-- A forest at block F, in the blocks P. -/
structure FoC (P : Nat → Prop) (w0 w : World) (F : Nat) (l : List S115) : Prop where
  own : P F
  lo : ∀ k, P k → w0.heap.size ≤ k ∧ k < w.heap.size
  fo : FoO (fun k => P k ∨ w.heap.size ≤ k) w0 w w F l
theorem FoC.read {P : Nat → Prop} {w0 w : World} {F : Nat} {l : List S115} (h : FoC P w0 w F l) : FoR w F l := h.fo.read
theorem FoC.base {P : Nat → Prop} {w0 w : World} {F : Nat} {l : List S115} (h : FoC P w0 w F l) : Below w0.heap.size w0 w := h.fo.base
theorem FoC.len {P : Nat → Prop} {w0 w : World} {F : Nat} {l : List S115} (h : FoC P w0 w F l) : l.length ≤ 128 := h.fo.2.2.1
theorem FoC.mono {P P' : Nat → Prop} {w0 w : World} {F : Nat} {l : List S115} (h : FoC P w0 w F l) (hP : ∀ k, P k → P' k) (hl : ∀ k, P' k → w0.heap.size ≤ k ∧ k < w.heap.size) : FoC P' w0 w F l := by
  obtain ⟨h1, h2, h3, hB, v, h4, h5⟩ := h.fo
  have hb := hB.base
  refine ⟨hP _ h.own, hl, h1, h2, h3, ⟨hb, fun k hk => hk.elim (fun h => (hl k h).1) (fun h => Nat.le_trans hb.size h), fun k hk => .inr hk, Nat.le_refl _, fun _ _ _ _ => rfl⟩, v, h4, ?_⟩
  exact Kd.N_mono h5 (fun k hk => ⟨hk.1.elim (fun h => .inl (hP k h)) .inr, hk.2⟩)
/-- What an operation on the forest leaves. -/
theorem FoC.after {P : Nat → Prop} {w0 w w' : World} {F : Nat} {l l' : List S115} (h : FoC P w0 w F l) (h' : FoO (fun k => P k ∨ w.heap.size ≤ k) w0 w w' F l') :
    FoC (grow P w.heap.size w'.heap.size) w0 w' F l' ∧ Ste P w w' := by
  obtain ⟨h1, h2, h3, hB, v, h4, h5⟩ := h'
  have hb := hB.base
  have hb0 := h.base
  have hlo : ∀ k, grow P w.heap.size w'.heap.size k → w0.heap.size ≤ k ∧ k < w'.heap.size := fun k hk => hk.elim (fun hp => ⟨(h.lo k hp).1, Nat.lt_of_lt_of_le (h.lo k hp).2 hB.sz⟩) (fun hn => ⟨Nat.le_trans hb0.size hn.1, hn.2⟩)
  refine ⟨⟨.inl h.own, hlo, h1, h2, h3, ⟨hb, fun k hk => hk.elim (fun h => (hlo k h).1) (fun h => Nat.le_trans hb.size h), fun k hk => .inr hk, Nat.le_refl _, fun _ _ _ _ => rfl⟩, v, h4, ?_⟩, hb.os.trans hb0.os.symm, hb.tape.trans hb0.tape.symm, hb.output.trans hb0.output.symm, hB.sz, fun k hk hn => hB.keep k hk (fun hq => hq.elim hn (fun h => by omega)) (fun e => hn (e ▸ h.own))⟩
  refine Kd.N_mono h5 (fun k hk => ⟨?_, hk.2⟩)
  rcases hk.1 with hp | hp
  · exact .inl (.inl hp)
  · by_cases hlt : k < w'.heap.size
    · exact .inl (.inr ⟨hp, hlt⟩)
    · exact .inr (by omega)
/-- What another part's operation leaves of it. -/
theorem FoC.ste {P P2 : Nat → Prop} {w0 w w' : World} {F : Nat} {l : List S115} (h : FoC P w0 w F l) (hs : Ste P2 w w') (hd : ∀ k, P k → ¬ P2 k) (hl2 : ∀ k, P2 k → w0.heap.size ≤ k) : FoC P w0 w' F l := by
  obtain ⟨h1, h2, h3, hB, v, h4, h5⟩ := h.fo
  have hb := hs.base hB.base hB.base.size hl2
  have hlo : ∀ k, P k → w0.heap.size ≤ k ∧ k < w'.heap.size := fun k hk => ⟨(h.lo k hk).1, Nat.lt_of_lt_of_le (h.lo k hk).2 hs.size⟩
  refine ⟨h.own, hlo, h1, Nat.lt_of_lt_of_le h2 hs.size, h3, ⟨hb, fun k hk => hk.elim (fun h => (hlo k h).1) (fun h => Nat.le_trans hb.size h), fun k hk => .inr hk, Nat.le_refl _, fun _ _ _ _ => rfl⟩, v, hs.blk h4 (hd F h.own), ?_⟩
  refine Kd.N_mono (Kd.N_step (Kd.N_bound h5) (fun k hk hlt => hs.keep k hlt (hd k (hk.1.1.elim id (fun h => by omega))))) (fun k hk => ⟨.inl (hk.1.1.elim id (fun h => by have := hk.2; omega)), hk.1.2⟩)
theorem FoC.below {P : Nat → Prop} {w0 w w' : World} {F : Nat} {l : List S115} (h : FoC P w0 w F l) (hb : Below w.heap.size w w') : FoC P w0 w' F l := h.ste (P2 := fun _ => False) (Ste.of_below hb) (fun _ _ => id) (fun _ h => h.elim)
/-- The same, with the new blocks among its own. -/
theorem FoC.mono_below {P : Nat → Prop} {w0 w w' : World} {F : Nat} {l : List S115} (h : FoC P w0 w F l) (hb : Below w.heap.size w w') : FoC (grow P w.heap.size w'.heap.size) w0 w' F l :=
  (h.below hb).mono (fun _ hk => .inl hk) (fun k hk => hk.elim (fun hp => ⟨(h.lo k hp).1, Nat.lt_of_lt_of_le (h.lo k hp).2 hb.size⟩) (fun hn => ⟨Nat.le_trans h.base.size hn.1, hn.2⟩))
theorem FoC.wide {P : Nat → Prop} {n m a : Nat} {w0 w : World} {F : Nat} {l : List S115} (h : FoC (grow P a w.heap.size) w0 w F l) (hn : n ≤ a) (hm : ∀ k, P k → w0.heap.size ≤ k ∧ k < m) (h0 : w0.heap.size ≤ n) : FoC (grow P n w.heap.size) w0 w F l :=
  h.mono (fun k hk => hk.elim .inl (fun h => .inr ⟨Nat.le_trans hn h.1, h.2⟩)) (fun k hk => hk.elim (fun hp => h.lo k (.inl hp)) (fun hk => ⟨Nat.le_trans h0 hk.1, hk.2⟩))
theorem cell_blk {w V : World} {a : Addr} {u : Value} (h : V.heap[a.block]? = w.heap[a.block]?) (hc : w.cell? a = some u) : V.cell? a = some u := by
  simpa [World.cell?, h] using hc
theorem block_add (a : Addr) (n : Nat) : (a.add n).block = a.block := by unfold Addr.add; split <;> rfl
/-- Numbers whose block stands. -/
theorem ints_stay {w V : World} {A : Option Addr} {ks : List Int} (hC : (Kd.int .i64).C w A ks.length ks) (hA : ∀ ad, A = some ad → ad.block < w.heap.size → V.heap[ad.block]? = w.heap[ad.block]?) : (Kd.int .i64).C V A ks.length ks := by
  refine ⟨hC.1, hC.2.1, fun hp => ?_⟩
  obtain ⟨ad, rfl, hr⟩ := hC.2.2 hp
  refine ⟨ad, rfl, fun j p hj => ?_⟩
  obtain ⟨c, h1, h2, h3⟩ := hr j p hj
  refine ⟨c, h1, h2, fun i u hi => ?_⟩
  have hc := h3 i u hi
  have hlt := World.block_lt_of_cell? w _ hc
  rw [block_add] at hlt
  exact cell_blk (by rw [block_add]; exact hA ad rfl hlt) hc
theorem ints_ste {P : Nat → Prop} {w V : World} {A : Option Addr} {ks : List Int} (hs : Ste P w V) (hC : (Kd.int .i64).C w A ks.length ks) (hA : ∀ ad, A = some ad → ¬ P ad.block) : (Kd.int .i64).C V A ks.length ks :=
  ints_stay hC (fun ad h hlt => hs.keep _ hlt (hA ad h))
/-- Children that lie in no block of the forest. -/
theorem FoC.kids {P : Nat → Prop} {w0 w : World} {F : Nat} {l : List S115} (h : FoC P w0 w F l) {A : Option Addr} {ks : List Int} (hC : (Kd.int .i64).C w A ks.length ks) (hA : ∀ ad, A = some ad → ¬ P ad.block) :
    ∀ V, BaseX (fun k => P k ∨ w.heap.size ≤ k) w0 w V F → (Kd.int .i64).C V A ks.length ks := fun V hV =>
  ints_stay hC (fun ad e hlt => hV.keep _ hlt (fun hq => hq.elim (hA _ e) (fun h => by omega)) (fun e2 => hA _ e (e2 ▸ h.own)))
/-- The forest's operations. -/
theorem FoC.put {P : Nat → Prop} {w0 w : World} {F : Nat} {l : List S115} (h : FoC P w0 w F l) (hW : WF l) (p : Int) {A : Option Addr} {ks : List Int} {c : Nat} (hC : (Kd.int .i64).C w A ks.length ks) (hA : ∀ ad, A = some ad → ¬ P ad.block) (hc : ks.length ≤ c) (hkl : ks.length ≤ 100000) :
    Calls Tryz.prog 68 #[.pointer (some ⟨F, 0, none⟩), .int .i64 p, .slice A ks.length c] w fun e w' => e = .returned (.int .i64 (putE l p ks)) ∧ FoC (grow P w.heap.size w'.heap.size) w0 w' F (putF l p ks) ∧ Ste P w w' := by
  refine (put_any F p ks A c l _ w0 w w h.fo (h.kids hC hA) hc hkl hW.links hW.endsO hW.kid hW.kl).mono ?_
  rintro e w' ⟨rfl, h'⟩
  exact ⟨rfl, h.after h'⟩
theorem FoC.name {P : Nat → Prop} {w0 w : World} {F : Nat} {l : List S115} (h : FoC P w0 w F l) (id : Int) (s : ByteArray) :
    Calls Tryz.prog 43 #[.pointer (some ⟨F, 0, none⟩), .int .i64 id, .string s] w fun e w' => e = .returned (.int .i64 (nameE l id s)) ∧ FoC (grow P w.heap.size w'.heap.size) w0 w' F (nameF l id s) ∧ Ste P w w' := by
  refine (name_any F id s l _ w0 w w h.fo).mono ?_
  rintro e w' ⟨rfl, h'⟩
  exact ⟨rfl, h.after h'⟩
theorem FoC.want {P : Nat → Prop} {w0 w : World} {F : Nat} {l : List S115} (h : FoC P w0 w F l) (id : Int) (s : ByteArray) :
    Calls Tryz.prog 42 #[.pointer (some ⟨F, 0, none⟩), .int .i64 id, .string s] w fun e w' => e = .returned (.int .i64 (wantE l id s)) ∧ FoC (grow P w.heap.size w'.heap.size) w0 w' F (wantF l id s) ∧ Ste P w w' := by
  refine (want_any F id s l _ w0 w w h.fo).mono ?_
  rintro e w' ⟨rfl, h'⟩
  exact ⟨rfl, h.after h'⟩
theorem FoC.tie {P : Nat → Prop} {w0 w : World} {F : Nat} {l : List S115} (h : FoC P w0 w F l) (hW : WF l) (a b : Int) :
    Calls Tryz.prog 72 #[.pointer (some ⟨F, 0, none⟩), .int .i64 a, .int .i64 b] w fun e w' => e = .returned (.int .i64 (tieE l a b)) ∧ FoC (grow P w.heap.size w'.heap.size) w0 w' F (tieF l a b) ∧ Ste P w w' := by
  refine (tie_any F a b l _ w0 w w h.fo hW.links hW.endsO).mono ?_
  rintro e w' ⟨rfl, h'⟩
  exact ⟨rfl, h.after h'⟩
theorem FoC.make {P : Nat → Prop} {w0 w : World} {F : Nat} {l : List S115} (h : FoC P w0 w F l) (k p hh s m : Int) (sl : Bool) (nm wt : ByteArray) (A : Option Addr) (n c : Nat) :
    Calls Tryz.prog 63 #[.pointer (some ⟨F, 0, none⟩), .agg #[.int .i64 k, .int .i64 p, .int .i64 hh, .int .i64 s, .int .i64 m, .bool sl, .string nm, .string wt, .slice A n c]] w fun e w' => e = .returned (.tuple #[.int .i64 (makeV l k m sl nm wt).1, .int .i64 (makeV l k m sl nm wt).2]) ∧ FoC (grow P w.heap.size w'.heap.size) w0 w' F (makeF l k m sl nm wt) ∧ Ste P w w' := by
  refine (make_any F k p hh s m sl nm wt A n c l _ w0 w w h.fo).mono ?_
  rintro e w' ⟨rfl, h'⟩
  exact ⟨rfl, h.after h'⟩
end Go.Proofs.YtgopddjmmoohdaaGreatDoor

/- sync.Once and atomic.Bool of one goroutine. -/
set_option linter.unusedSimpArgs false
set_option linter.unusedVariables false
set_option maxRecDepth 100000
set_option maxHeartbeats 1600000
namespace Go.Proofs.YtgopddjmmoohdaaGreatDoor
open Go.RowKit Go.Proofs.YtgopddjmmoohdaaGreatDoorW.PrintWords Go.Proofs.YtgopddjmmoohdaaGreatDoorW.PrintLast Go.Proofs.YtgopddjmmoohdaaGreatDoor.PPlaySilent

theorem o_disable (w : World) : (callFunc 177 #[]).run Tryz.prog w = .ok (.value (.tuple #[])) w := run_call_mark0 Tryz.func177 (by kernel_rfl) (by kernel_rfl) (by kernel_rfl) .disable (by kernel_rfl) w
theorem o_enable (w : World) : (callFunc 179 #[]).run Tryz.prog w = .ok (.value (.tuple #[])) w := run_call_mark0 Tryz.func179 (by kernel_rfl) (by kernel_rfl) (by kernel_rfl) .enable (by kernel_rfl) w
theorem o_acquire (a : Addr) (w : World) : (callFunc 180 #[.pointer (some a)]).run Tryz.prog w = .ok (.value (.tuple #[])) w := run_call_marked Tryz.func180 (by kernel_rfl) (by kernel_rfl) (by kernel_rfl) .acquire (by kernel_rfl) a w
theorem o_releaseMerge (a : Addr) (w : World) : (callFunc 182 #[.pointer (some a)]).run Tryz.prog w = .ok (.value (.tuple #[])) w := run_call_marked Tryz.func182 (by kernel_rfl) (by kernel_rfl) (by kernel_rfl) .releaseMerge (by kernel_rfl) a w
/-- atomic.Bool.Load. -/
theorem bload_any (a : Addr) (d : Int) (w : World) (h0 : w.cell? a = some (.int .u32 d)) :
    Calls Tryz.prog 123 #[.pointer (some a)] w fun e w' => e = .returned (.bool (d != 0)) ∧ w' = w := by
  have hl := run_call_load (P := Tryz.prog) Tryz.func155 (by kernel_rfl) (by kernel_rfl) (by kernel_rfl) .u32 (by kernel_rfl) h0
  go_enter Tryz.func123, Tryz.ntmps123
  go_wp2
  go_ret
  exact ⟨rfl, rfl⟩
/-- atomic.Bool.Store(true). -/
theorem bstore_true (a : Addr) (x : Value) (w : World) (hc : w.cell? a = some x) (hz : w.frozen? a = false) :
    Calls Tryz.prog 126 #[.pointer (some a), .bool true] w fun e w' => e = .returned (.tuple #[]) ∧ w' = w.drew.setCell a (.int .u32 1) := by
  have hc' : w.drew.cell? a = some x := by go_simp
  have hz' : w.drew.frozen? a = false := by go_simp
  have hst := run_call_store (P := Tryz.prog) Tryz.func157 (by kernel_rfl) (by kernel_rfl) (by kernel_rfl) (by kernel_rfl) (k := .u32) (y := 1) hc' hz'
  go_enter Tryz.func126, Tryz.ntmps126
  go_wp2
  go_region_calls
  all_goals (go_end0; exact ⟨rfl, rfl⟩)
theorem bstore_deferred (a : Addr) (x : Value) (u : FrameMode) (w : World) (hc : w.cell? a = some x) (hz : w.frozen? a = false) :
    CallsD Tryz.prog 126 #[.pointer (some a), .bool true] u w fun e u' w' => u' = u ∧ (e = .returned (.tuple #[]) ∧ w' = w.drew.setCell a (.int .u32 1)) := by
  have hc' : w.drew.cell? a = some x := by go_simp
  have hz' : w.drew.frozen? a = false := by go_simp
  have hst := run_call_store (P := Tryz.prog) Tryz.func157 (by kernel_rfl) (by kernel_rfl) (by kernel_rfl) (by kernel_rfl) (k := .u32) (y := 1) hc' hz'
  go_enter_d Tryz.func126, Tryz.ntmps126
  go_wp2
  go_region_calls
  all_goals (go_end0; exact ⟨rfl, rfl⟩)
theorem unlock_deferred (a : Addr) (u : FrameMode) (w : World) (hc : w.cell? a = some (.int .i32 1)) (hz : w.frozen? a = false) :
    CallsD Tryz.prog 170 #[.pointer (some a)] u w fun e u' w' => u' = u ∧ (e = .returned (.tuple #[]) ∧ w' = w.setCell a (.int .i32 0)) := by
  have hd := o_disable
  have he := o_enable
  have hr := o_releaseMerge
  have hadd := run_call_add (P := Tryz.prog) Tryz.func183 (by kernel_rfl) (by kernel_rfl) (by kernel_rfl) .i32 (by kernel_rfl) (y := -1) (s := 0) hc hz (by simp [go_sem]; rfl)
  have hcv := run_convert_to_unsafe (P := Tryz.prog) (src := 250) (dst := 254) Tryz.underlying250 Tryz.underlying254 (by kernel_rfl) hc
  go_enter_d Tryz.func170, Tryz.ntmps170
  go_wp2
  go_end0
  go_wp2
  go_end0
  exact ⟨rfl, rfl⟩
theorem lock_free (a : Addr) (w : World) (hc : w.cell? a = some (.int .i32 0)) (hz : w.frozen? a = false) :
    Calls Tryz.prog 169 #[.pointer (some a)] w fun e w' => e = .returned (.tuple #[]) ∧ w' = w.setCell a (.int .i32 1) := by
  have hd := o_disable
  have he := o_enable
  have ha := o_acquire
  have hcas := run_call_cas_hit (P := Tryz.prog) Tryz.func178 (by kernel_rfl) (by kernel_rfl) (by kernel_rfl) .i32 (by kernel_rfl) (y := 1) hc hz
  have hc' : (w.setCell a (.int .i32 1)).cell? a = some (.int .i32 1) := World.cell?_setCell_same w a _ hc
  have hcv := run_convert_to_unsafe (P := Tryz.prog) (src := 250) (dst := 254) Tryz.underlying250 Tryz.underlying254 (by kernel_rfl) hc'
  go_enter Tryz.func169, Tryz.ntmps169
  go_wp2
  first | go_end0 | (simp only [Exit.inBlock, Exit.then]; refine bodyPost_ret (results_none rfl _ _ _) rfl ?_) | refine bodyPost_ret (results_none rfl _ _ _) rfl ?_
  go_wp2
  go_end0
  exact ⟨rfl, rfl⟩
/-- Do$1 of a latch: first is set, the latch is shut. -/
theorem do1_any (o fb bb : Nat) (hof : o ≠ fb) (hob : o ≠ bb) (hfb : fb ≠ bb) (x3 : Value) (w : World) (cf : Value) (hf : w.cell? ⟨fb, 0, none⟩ = some cf) (ff : w.frozen? ⟨fb, 0, none⟩ = false)
    (hb : w.cell? ⟨bb, 0, none⟩ = some (.pointer (some ⟨o, 0, none⟩))) (h3 : w.cell? ⟨o, 3, none⟩ = some x3) (f3 : w.frozen? ⟨o, 3, none⟩ = false) :
    Calls Tryz.prog 125 #[.pointer (some ⟨fb, 0, none⟩), .pointer (some ⟨bb, 0, none⟩)] w fun e w' => e = .returned (.tuple #[]) ∧ w' = ((w.setCell ⟨fb, 0, none⟩ (.bool true)).drew).setCell ⟨o, 3, none⟩ (.int .u32 1) := by
  have hb' : (w.setCell ⟨fb, 0, none⟩ (.bool true)).cell? ⟨bb, 0, none⟩ = some (.pointer (some ⟨o, 0, none⟩)) := (World.cell?_setCell_other _ ⟨fb, 0, none⟩ ⟨bb, 0, none⟩ _ (by simp; try omega)).trans hb
  have h3' : (w.setCell ⟨fb, 0, none⟩ (.bool true)).cell? ⟨o, 3, none⟩ = some x3 := (World.cell?_setCell_other _ ⟨fb, 0, none⟩ ⟨o, 3, none⟩ _ (by simp)).trans h3
  have hst := bstore_true ⟨o, 3, none⟩ x3 (w.setCell ⟨fb, 0, none⟩ (.bool true)) h3' (by simpa using f3)
  go_enter Tryz.func125, Tryz.ntmps125
  go_wp2_with (go_at_call 126; (with_reducible refine hst.mono ?_); rintro e w1 ⟨rfl, rfl⟩)
  go_end0
  exact ⟨rfl, rfl⟩
/-- An open latch's block, and a shut one's. -/
def latchO : Obj := .cells #[.int .u32 0, .int .i32 0, .int .u32 0, .int .u32 0] 195 (0, 0)
def latchS : Obj := .cells #[.int .u32 1, .int .i32 0, .int .u32 0, .int .u32 1] 195 (0, 0)
set_option maxHeartbeats 6400000 in
theorem slow_any (o fb bb : Nat) (hof : o ≠ fb) (hob : o ≠ bb) (hfb : fb ≠ bb) (w : World) (cf : Value) (hf : w.cell? ⟨fb, 0, none⟩ = some cf) (ff : w.frozen? ⟨fb, 0, none⟩ = false)
    (hb : w.cell? ⟨bb, 0, none⟩ = some (.pointer (some ⟨o, 0, none⟩))) (ho : w.heap[o]? = some latchO) :
    Calls Tryz.prog 156 #[.pointer (some ⟨o, 0, none⟩), .func (.func 125) #[] #[.pointer (some ⟨fb, 0, none⟩), .pointer (some ⟨bb, 0, none⟩)]] w fun e w' => e = .returned (.tuple #[]) ∧
      w' = (((((w.setCell ⟨o, 1, none⟩ (.int .i32 1)).setCell ⟨fb, 0, none⟩ (.bool true)).drew.setCell ⟨o, 3, none⟩ (.int .u32 1)).drew).setCell ⟨o, 0, none⟩ (.int .u32 1)).setCell ⟨o, 1, none⟩ (.int .i32 0) := by
  have h0 : w.cell? ⟨o, 0, none⟩ = some (.int .u32 0) := blk_cell ho 0
  have h1 : w.cell? ⟨o, 1, none⟩ = some (.int .i32 0) := blk_cell ho 1
  have h3 : w.cell? ⟨o, 3, none⟩ = some (.int .u32 0) := blk_cell ho 3
  have fz : ∀ j, w.frozen? ⟨o, j, none⟩ = false := fun j => blk_frozen ho j
  have n1 : ∀ (W : World) (v : Value) b j, b ≠ o ∨ j ≠ 1 → (W.setCell ⟨o, 1, none⟩ v).cell? ⟨b, j, none⟩ = W.cell? ⟨b, j, none⟩ := fun W v b j hbj => World.cell?_setCell_other _ _ _ _ (by simp; omega)
  have hl := bload_any ⟨o, 0, none⟩ 0 (w.setCell ⟨o, 1, none⟩ (.int .i32 1)) ((n1 _ _ _ _ (by omega)).trans h0)
  have hd1 := do1_any o fb bb hof hob hfb (.int .u32 0) (w.setCell ⟨o, 1, none⟩ (.int .i32 1)) cf ((n1 _ _ _ _ (by omega)).trans hf) (by simpa using ff) ((n1 _ _ _ _ (by omega)).trans hb) ((n1 _ _ _ _ (by omega)).trans h3) (by simpa using fz 3)
  have hnot : ∀ (x : Bool) (w : World), (Op.unary .not (.bool x)).run Tryz.prog w = .ok (.bool (!x)) w := fun _ _ => rfl
  have hlk := lock_free ⟨o, 1, none⟩ w h1 (fz 1)
  clear hf hb h3
  go_enter_defers Tryz.func156, Tryz.ntmps156
  go_wp2_with (first
    | (go_at_call 169; (with_reducible refine hlk.mono ?_); rintro e w1 ⟨rfl, rfl⟩)
    | (go_at_call 123; (with_reducible refine hl.mono ?_); rintro e w1 ⟨rfl, rfl⟩)
    | (go_at_call 125; (with_reducible refine hd1.mono ?_); rintro e w1 ⟨rfl, rfl⟩))
  have nd : ∀ (W : World) a, W.drew.cell? a = W.cell? a := fun _ _ => rfl
  have k0 : ((((w.setCell ⟨o, 1, none⟩ (.int .i32 1)).setCell ⟨fb, 0, none⟩ (.bool true)).setCell ⟨o, 3, none⟩ (.int .u32 1)).drew).cell? ⟨o, 0, none⟩ = some (.int .u32 0) := by
    rw [nd, World.cell?_setCell_other _ ⟨o, 3, none⟩ ⟨o, 0, none⟩ _ (by simp), World.cell?_setCell_other _ ⟨fb, 0, none⟩ ⟨o, 0, none⟩ _ (by simp; try omega), n1 _ _ _ _ (by omega)]; exact h0
  have k1 : (((((w.setCell ⟨o, 1, none⟩ (.int .i32 1)).setCell ⟨fb, 0, none⟩ (.bool true)).setCell ⟨o, 3, none⟩ (.int .u32 1)).drew).drew.setCell ⟨o, 0, none⟩ (.int .u32 1)).cell? ⟨o, 1, none⟩ = some (.int .i32 1) := by
    rw [World.cell?_setCell_other _ ⟨o, 0, none⟩ ⟨o, 1, none⟩ _ (by simp), nd, nd, World.cell?_setCell_other _ ⟨o, 3, none⟩ ⟨o, 1, none⟩ _ (by simp), World.cell?_setCell_other _ ⟨fb, 0, none⟩ ⟨o, 1, none⟩ _ (by simp; try omega)]; exact World.cell?_setCell_same _ _ _ h1
  refine leaves_cons (f := 126) (args := #[.pointer (some ⟨o, 0, none⟩), .bool true]) (by simp) (by simp [go_sem]) ?_
  refine (bstore_deferred ⟨o, 0, none⟩ (.int .u32 0) .returning _ k0 (by simp [fz])).mono ?_
  rintro e u' w'' ⟨rfl, rfl, rfl⟩
  refine leaves_cons (f := 170) (args := #[.pointer (some ⟨o, 1, none⟩)]) (by simp [settle]) (by simp [go_sem]) ?_
  refine (unlock_deferred ⟨o, 1, none⟩ _ _ k1 (by simp [fz])).mono ?_
  rintro e u' w'' ⟨rfl, rfl, rfl⟩
  simp [Leaves, settle, results, Tryz.results156]
  rfl
theorem once_sum {o fb : Nat} {t : TypeId} {x : Value} {w : World} (hof : o ≠ fb) (ho : w.heap[o]? = some latchO) (hf : w.heap[fb]? = some (.cells #[x] t (0, 0))) {w' : World}
    (hw : w' = (((((w.setCell ⟨o, 1, none⟩ (.int .i32 1)).setCell ⟨fb, 0, none⟩ (.bool true)).drew.setCell ⟨o, 3, none⟩ (.int .u32 1)).drew).setCell ⟨o, 0, none⟩ (.int .u32 1)).setCell ⟨o, 1, none⟩ (.int .i32 0)) :
    w'.heap[o]? = some latchS ∧ w'.heap[fb]? = some (.cells #[.bool true] t (0, 0)) ∧ w'.heap.size = w.heap.size ∧ Ste (fun k => k = o ∨ k = fb) w w' := by
  subst hw
  have hk : ∀ k, k ≠ o → k ≠ fb → ((((((w.setCell ⟨o, 1, none⟩ (.int .i32 1)).setCell ⟨fb, 0, none⟩ (.bool true)).drew.setCell ⟨o, 3, none⟩ (.int .u32 1)).drew).setCell ⟨o, 0, none⟩ (.int .u32 1)).setCell ⟨o, 1, none⟩ (.int .i32 0)).heap[k]? = w.heap[k]? := fun k h1 h2 => by
    rw [Below.heap_setCell _ _ _ k h1, Below.heap_setCell _ _ _ k h1]
    show (World.setCell _ _ _).heap[k]? = _
    rw [Below.heap_setCell _ _ _ k h1]
    show (World.setCell _ _ _).heap[k]? = _
    rw [Below.heap_setCell _ _ _ k h2, Below.heap_setCell _ _ _ k h1]
  have e1 : (w.setCell ⟨o, 1, none⟩ (.int .i32 1)).heap[o]? = some (.cells #[.int .u32 0, .int .i32 1, .int .u32 0, .int .u32 0] 195 (0, 0)) := blk_put ho 1 _ rfl
  have e2 : ((w.setCell ⟨o, 1, none⟩ (.int .i32 1)).setCell ⟨fb, 0, none⟩ (.bool true)).heap[o]? = some (.cells #[.int .u32 0, .int .i32 1, .int .u32 0, .int .u32 0] 195 (0, 0)) := (Below.heap_setCell _ _ _ o hof).trans e1
  have e3 := blk_put (w := ((w.setCell ⟨o, 1, none⟩ (.int .i32 1)).setCell ⟨fb, 0, none⟩ (.bool true)).drew) (cs' := #[.int .u32 0, .int .i32 1, .int .u32 0, .int .u32 1]) e2 3 (.int .u32 1) rfl
  have e4 := blk_put (w := ((((w.setCell ⟨o, 1, none⟩ (.int .i32 1)).setCell ⟨fb, 0, none⟩ (.bool true)).drew.setCell ⟨o, 3, none⟩ (.int .u32 1)).drew)) (cs' := #[.int .u32 1, .int .i32 1, .int .u32 0, .int .u32 1]) e3 0 (.int .u32 1) rfl
  have e5 := blk_put (cs' := #[.int .u32 1, .int .i32 0, .int .u32 0, .int .u32 1]) e4 1 (.int .i32 0) rfl
  have g1 : (w.setCell ⟨o, 1, none⟩ (.int .i32 1)).heap[fb]? = some (.cells #[x] t (0, 0)) := (Below.heap_setCell _ _ _ fb (Ne.symm hof)).trans hf
  have g2 := blk_put (cs' := #[.bool true]) g1 0 (.bool true) rfl
  refine ⟨e5, ?_, by simp, ⟨rfl, rfl, rfl, by simp, fun k _ hn => hk k (fun e => hn (.inl e)) (fun e => hn (.inr e))⟩⟩
  rw [Below.heap_setCell _ _ _ fb (Ne.symm hof), Below.heap_setCell _ _ _ fb (Ne.symm hof)]
  show (World.setCell _ _ _).heap[fb]? = _
  rw [Below.heap_setCell _ _ _ fb (Ne.symm hof)]
  exact g2
theorem once_do (o fb bb : Nat) (hof : o ≠ fb) (hob : o ≠ bb) (hfb : fb ≠ bb) (w : World) (x : Value) (t t2 : TypeId) (hf : w.heap[fb]? = some (.cells #[x] t (0, 0)))
    (hb : w.heap[bb]? = some (.cells #[.pointer (some ⟨o, 0, none⟩)] t2 (0, 0))) (ho : w.heap[o]? = some latchO) :
    Calls Tryz.prog 124 #[.pointer (some ⟨o, 0, none⟩), .func (.func 125) #[] #[.pointer (some ⟨fb, 0, none⟩), .pointer (some ⟨bb, 0, none⟩)]] w fun e w' => e = .returned (.tuple #[]) ∧
      w'.heap[o]? = some latchS ∧ w'.heap[fb]? = some (.cells #[.bool true] t (0, 0)) ∧ w'.heap.size = w.heap.size ∧ Ste (fun k => k = o ∨ k = fb) w w' := by
  have hl := bload_any ⟨o, 0, none⟩ 0 w (blk_cell ho 0)
  have hnot : ∀ (x : Bool) (w : World), (Op.unary .not (.bool x)).run Tryz.prog w = .ok (.bool (!x)) w := fun _ _ => rfl
  have hsl := slow_any o fb bb hof hob hfb w x (blk_cell hf 0) (blk_frozen hf 0) (blk_cell hb 0) ho
  have hsum := hd_ (fun w' hw => once_sum hof ho hf (w' := w') hw)
  clear hf hb ho
  go_enter Tryz.func124, Tryz.ntmps124
  go_wp2_with (first
    | (go_at_call 123; (with_reducible refine hl.mono ?_); rintro e w1 ⟨rfl, rfl⟩)
    | (go_at_call 156; (with_reducible refine hsl.mono ?_); rintro e w1 ⟨rfl, hw1⟩; have hS1 := hd_ (hsum.out w1 hw1); clear hw1))
  go_end0
  exact ⟨rfl, hS1.out⟩
end Go.Proofs.YtgopddjmmoohdaaGreatDoor

/- latch: New, Done, Do. -/
set_option linter.unusedSimpArgs false
set_option linter.unusedVariables false
set_option maxRecDepth 100000
set_option maxHeartbeats 1600000
namespace Go.Proofs.YtgopddjmmoohdaaGreatDoor
open Go.RowKit Go.Proofs.YtgopddjmmoohdaaGreatDoorW.PrintWords Go.Proofs.YtgopddjmmoohdaaGreatDoorW.PrintLast Go.Proofs.YtgopddjmmoohdaaGreatDoor.PPlaySilent

theorem eq_nil (w : World) : (Op.equal 1 .nilFunc .nilFunc).run Tryz.prog w = .ok true w := by
  have h := run_underlying (P := Tryz.prog) Tryz.underlying1 w
  unfold Op.equal Op.maxDepth
  rw [Op.equalIn.eq_def]
  simp [go_sem, h]
theorem eq_fn (n : Nat) (a b : Array Value) (w : World) : (Op.equal 1 (.func (.func n) a b) .nilFunc).run Tryz.prog w = .ok false w := by
  have h := run_underlying (P := Tryz.prog) Tryz.underlying1 w
  unfold Op.equal Op.maxDepth
  rw [Op.equalIn.eq_def]
  simp [go_sem, h]
theorem func_nil (w : World) : (binOp .neq 1 .nilFunc .nilFunc).run Tryz.prog w = .ok (.bool false) w := by
  have h := eq_nil w
  simp [binOp, go_sem, h]
theorem func_some (n : Nat) (a b : Array Value) (w : World) : (binOp .neq 1 (.func (.func n) a b) .nilFunc).run Tryz.prog w = .ok (.bool true) w := by
  have h := eq_fn n a b w
  simp [binOp, go_sem, h]
def latchB (s : Bool) : Obj := if s then latchS else latchO
theorem latch_new (w : World) : Calls Tryz.prog 73 #[] w fun e w' => e = .returned (.pointer (some ⟨w.heap.size, 0, none⟩)) ∧ w' = w.alloc (latchB false) := by
  go_enter Tryz.func73, Tryz.ntmps73
  go_wp2
  go_ret
  exact ⟨rfl, rfl⟩
theorem latch_done (o : Nat) (s : Bool) (w : World) (ho : w.heap[o]? = some (latchB s)) :
    Calls Tryz.prog 122 #[.pointer (some ⟨o, 0, none⟩)] w fun e w' => e = .returned (.bool s) ∧ w' = w := by
  cases s with
  | false =>
    have hl := bload_any ⟨o, 3, none⟩ 0 w (blk_cell ho 3)
    clear ho
    go_enter Tryz.func122, Tryz.ntmps122
    go_wp2_with (go_at_call 123; (with_reducible refine hl.mono ?_); rintro e w1 ⟨rfl, hw⟩; obtain rfl := hw.symm)
    go_ret
    exact ⟨rfl, rfl⟩
  | true =>
    have hl := bload_any ⟨o, 3, none⟩ 1 w (blk_cell ho 3)
    clear ho
    go_enter Tryz.func122, Tryz.ntmps122
    go_wp2_with (go_at_call 123; (with_reducible refine hl.mono ?_); rintro e w1 ⟨rfl, hw⟩; obtain rfl := hw.symm)
    go_ret
    exact ⟨rfl, rfl⟩
/-- Do on a shut latch. -/
theorem latch_do_shut (o : Nat) (fv : Value) (w : World) (ho : w.heap[o]? = some (latchB true)) :
    Calls Tryz.prog 78 #[.pointer (some ⟨o, 0, none⟩), fv] w fun e w' => e = .returned (.bool false) ∧ Below w.heap.size w w' := by
  have hb := fun X => below_alloc (Below.refl w.heap.size w) X
  have hl := fun X => bload_any ⟨o, 3, none⟩ 1 (w.alloc X) (blk_cell (blk_alloc ho X) 3)
  have z0 := fun X => blk_cell (blk_new w (.cells #[X] 135)) 0
  clear ho
  go_enter Tryz.func78, Tryz.ntmps78
  go_wp2_with (go_at_call 123; refine (hl _).mono ?_; rintro e w1 ⟨rfl, hw⟩; obtain rfl := hw.symm)
  go_ret
  exact ⟨rfl, hb _⟩
theorem once_do2 (o : Nat) (w : World) (ho : w.heap[o]? = some latchO) :
    Calls Tryz.prog 124 #[.pointer (some ⟨o, 0, none⟩), .func (.func 125) #[] #[.pointer (some ⟨w.heap.size + 1, 0, none⟩), .pointer (some ⟨w.heap.size, 0, none⟩)]] ((w.alloc (.cells #[.pointer (some ⟨o, 0, none⟩)] 135)).alloc (.cells #[.bool false] 4)) fun e w' => e = .returned (.tuple #[]) ∧
      Hd (w'.heap[o]? = some latchS ∧ Ste (fun k => k = o) w w' ∧ w'.heap.size = w.heap.size + 2) ∧ w'.heap[w.heap.size]? = some (.cells #[.pointer (some ⟨o, 0, none⟩)] 135 (0, 0)) ∧ w'.heap[w.heap.size + 1]? = some (.cells #[.bool true] 4 (0, 0)) := by
  have hlt := blk_lt ho
  have hb1 := blk_alloc (blk_new w (.cells #[.pointer (some ⟨o, 0, none⟩)] 135)) (.cells #[.bool false] 4)
  have hf1 : ((w.alloc (.cells #[.pointer (some ⟨o, 0, none⟩)] 135)).alloc (.cells #[.bool false] 4)).heap[w.heap.size + 1]? = some (.cells #[.bool false] 4 (0, 0)) := alloc_new' (by simp)
  refine (once_do o (w.heap.size + 1) w.heap.size (by omega) (by omega) (by omega) _ _ 4 135 hf1 hb1 (blk_alloc (blk_alloc ho _) _)).mono ?_
  rintro e w' ⟨rfl, h1, h2, h3, h4⟩
  have hB : Below w.heap.size w ((w.alloc (.cells #[.pointer (some ⟨o, 0, none⟩)] 135)).alloc (.cells #[.bool false] 4)) := below_alloc (below_alloc (Below.refl _ _) _) _
  refine ⟨rfl, ⟨h1, (Ste.of_below hB).trans h4 (fun k hk => hk.elim .inl (fun e => .inr (by omega))), by rw [h3]; simp⟩, ?_, h2⟩
  exact h4.blk hb1 (fun e => by omega)
/-- Do on an open latch, without a function. -/
theorem latch_do_nil (o : Nat) (w : World) (ho : w.heap[o]? = some (latchB false)) :
    Calls Tryz.prog 78 #[.pointer (some ⟨o, 0, none⟩), .nilFunc] w fun e w' => e = .returned (.bool true) ∧ Ste (fun k => k = o) w w' ∧ w'.heap[o]? = some (latchB true) := by
  have hl := fun X => bload_any ⟨o, 3, none⟩ 0 (w.alloc X) (blk_cell (blk_alloc ho X) 3)
  have z0 := fun X => blk_cell (blk_new w (.cells #[X] 135)) 0
  have z1 : ∀ X X2, ((w.alloc (.cells #[X] 135)).alloc X2).cell? ⟨w.heap.size, 0, none⟩ = some X := fun X X2 => blk_cell (blk_alloc (blk_new w (.cells #[X] 135)) X2) 0
  have hod := once_do2 o w ho
  have hnn := func_nil
  have hns := func_some
  clear ho
  go_enter Tryz.func78, Tryz.ntmps78
  go_wp2_with (first
    | (go_at_call 123; refine (hl _).mono ?_; rintro e w1 ⟨rfl, hw⟩; obtain rfl := hw.symm)
    | (go_at_call 124; refine hod.mono ?_; rintro e w2 ⟨rfl, hH, hb2, hf2⟩; have y0 := blk_cell hf2 0; clear z0 z1))
  go_ret
  exact ⟨rfl, hH.out.2.1, hH.out.1⟩
/-- Do on an open latch, with one of Give's functions. -/
theorem latch_do_call (o : Nat) (caps : Array Value) (R : World → World → Prop) (w : World) (ho : w.heap[o]? = some (latchB false))
    (hc : ∀ W, Ste (fun k => k = o) w W → W.heap[o]? = some (latchB true) → Calls Tryz.prog 128 caps W fun e W' => e = .returned (.tuple #[]) ∧ (∀ k, w.heap.size ≤ k → k < W.heap.size → W'.heap[k]? = W.heap[k]?) ∧ R W W') :
    Calls Tryz.prog 78 #[.pointer (some ⟨o, 0, none⟩), .func (.func 128) #[] caps] w fun e w' => e = .returned (.bool true) ∧ ∃ W, Ste (fun k => k = o) w W ∧ W.heap[o]? = some (latchB true) ∧ R W w' := by
  have hl := fun X => bload_any ⟨o, 3, none⟩ 0 (w.alloc X) (blk_cell (blk_alloc ho X) 3)
  have z0 := fun X => blk_cell (blk_new w (.cells #[X] 135)) 0
  have z1 : ∀ X X2, ((w.alloc (.cells #[X] 135)).alloc X2).cell? ⟨w.heap.size, 0, none⟩ = some X := fun X X2 => blk_cell (blk_alloc (blk_new w (.cells #[X] 135)) X2) 0
  have hod := once_do2 o w ho
  have hnn := func_nil
  have hns := func_some
  clear ho
  go_enter Tryz.func78, Tryz.ntmps78
  go_wp2_with (first
    | (go_at_call 123; refine (hl _).mono ?_; rintro e w1 ⟨rfl, hw⟩; obtain rfl := hw.symm)
    | (go_at_call 124; refine hod.mono ?_; rintro e w2 ⟨rfl, hH, hb2, hf2⟩; have y0 := blk_cell hf2 0; clear z0 z1)
    | (go_at_call 128; refine (hc w2 hH.out.2.1 hH.out.1).mono ?_; rintro e w3 ⟨rfl, hk3, hR3⟩; have y1 := blk_cell ((hk3 _ (Nat.le_succ _) (by rw [hH.out.2.2]; omega)).trans hf2) 0))
  go_ret
  exact ⟨rfl, w2, hH.out.2.1, hH.out.1, hR3⟩
end Go.Proofs.YtgopddjmmoohdaaGreatDoor

/- slices.Delete at []int, laid at this program. -/
set_option linter.unusedSimpArgs false
set_option linter.unusedVariables false
namespace Go.Proofs
open Go.Shelf
def Tryz.laysD23_ren : Go.Shelf.Ren := ⟨fun | 23 => 121 | n => n, fun | 22 => 32 | 3 => 3 | 0 => 0 | 4 => 4 | n => n, fun | n => n⟩
theorem Tryz.laysD23 : Go.Proofs.Lays2.n23 Tryz.prog Tryz.laysD23_ren := {
  mixed := by kernel_rfl
  f23 := Tryz.func121.trans (congrArg some (by kernel_rfl))
  t0 := Tryz.underlying0
  a0 := Tryz.isAgg0
  z0 := Tryz.sizeOf0
  v0 := Tryz.zeroValue0
  t3 := Tryz.underlying3
  a3 := Tryz.isAgg3
  z3 := Tryz.sizeOf3
  v3 := Tryz.zeroValue3
  t4 := Tryz.underlying4
  a4 := Tryz.isAgg4
  z4 := Tryz.sizeOf4
  v4 := Tryz.zeroValue4
  t22 := Tryz.underlying32
  a22 := Tryz.isAgg32
  z22 := Tryz.sizeOf32
  v22 := Tryz.zeroValue32
  i3 := by kernel_rfl }
namespace YtgopddjmmoohdaaGreatDoor
open Go.RowKit Go.Proofs.YtgopddjmmoohdaaGreatDoorW.PrintWords Go.Proofs.YtgopddjmmoohdaaGreatDoorW.PrintLast Go.Proofs.YtgopddjmmoohdaaGreatDoor.PPlaySilent
theorem R_cap {α : Type} {d : Kd α} {e base n c : Nat} {ok : Nat → Prop} {w : World} {A : Option Addr} {xs : List α} (h : d.R e w base ok (.slice A n c) xs) : c ≤ maxLen := by
  obtain ⟨_, inner, ho, _⟩ := h
  rcases ho.2 with ⟨hv, _⟩ | ⟨g, cap', cur, hv, _, _, _, hc, _⟩
  · simp only [Value.slice.injEq] at hv; omega
  · simp only [Value.slice.injEq] at hv; omega
theorem C_of_cells {w : World} {b off : Nat} {xs : List Int} (hl : xs.length ≤ 9223372036854775807) (h : ∀ j, j < xs.length → w.cell? ⟨b, off + j, none⟩ = some (.int .i64 (xs.getD j 0))) : (Kd.int .i64).C w (some ⟨b, off, none⟩) xs.length xs := by
  refine ⟨rfl, hl, fun _ => ⟨_, rfl, fun j p hj => ?_⟩⟩
  obtain ⟨hj1, hj2⟩ := List.getElem?_eq_some_iff.1 hj
  refine ⟨[.int .i64 p], rfl, rfl, fun i u hi => ?_⟩
  obtain ⟨hi1, hi2⟩ := List.getElem?_eq_some_iff.1 hi
  have hi0 : i = 0 := by simpa using hi1
  subst hi0
  simp only [List.getElem_cons_zero] at hi2
  subst hi2
  rw [add_off]
  have := h j hj1
  rw [List.getD_eq_getElem?_getD, hj] at this
  simpa [Kd.int, Kd.scalar] using this
theorem sc_kept (g : Nat) : ∀ (vs : List Value) (o : Nat) (w : World), (w.setCells g o vs).heap.size = w.heap.size ∧ (w.setCells g o vs).os = w.os ∧ (w.setCells g o vs).tape = w.tape ∧ (w.setCells g o vs).output = w.output ∧ ∀ k, k ≠ g → (w.setCells g o vs).heap[k]? = w.heap[k]?
  | [], _, _ => ⟨rfl, rfl, rfl, rfl, fun _ _ => rfl⟩
  | v :: vs, o, w => by
    obtain ⟨h1, h2, h3, h4, h5⟩ := sc_kept g vs (o + 1) (w.setCell ⟨g, o, none⟩ v)
    exact ⟨h1.trans (by simp), h2.trans rfl, h3.trans rfl, h4.trans rfl, fun k hk => (h5 k hk).trans (Below.heap_setCell w _ v k hk)⟩
/-- slices.Delete of one number, in a row of one's own. -/
theorem delete_any (ks : List Int) (A : Option Addr) (c i base : Nat) (ok : Nat → Prop) (w : World) (h : (Kd.int .i64).R 3 w base ok (.slice A ks.length c) ks) (hi : i < ks.length) :
    Calls Tryz.prog 121 #[.slice A ks.length c, .int .i64 i, .int .i64 ((i : Int) + 1)] w fun e w' => e = .returned (.slice A (ks.eraseIdx i).length c) ∧ (ks.eraseIdx i).length ≤ c ∧ (Kd.int .i64).C w' A (ks.eraseIdx i).length (ks.eraseIdx i) ∧ ∃ g, A = some ⟨g, 0, none⟩ ∧ base ≤ g ∧ g < w.heap.size ∧ Ste (fun k => k = g) w w' := by
  obtain ⟨g, cap, he, hbg, hgs, cells, hcl⟩ := Kd.R_form h (by omega)
  simp only [Value.slice.injEq, true_and] at he
  obtain ⟨rfl, rfl⟩ := he
  obtain ⟨-, hc2, hC⟩ := Kd.R_reads' h
  have hcap := R_cap h
  obtain ⟨b, off, hb, hcells⟩ := ints_cells hC (by omega)
  simp only [Addr.mk.injEq, and_true] at hb
  obtain ⟨rfl, rfl⟩ := hb
  have hmax : maxLen = 9223372036854775807 := by decide
  have hlen : (ks.eraseIdx i).length = ks.length - 1 := by rw [List.length_eraseIdx]; simp [hi]
  refine (Any.slices_Delete_int_cells Tryz.laysD23 g 0 ks.length c i (i + 1) ks w (Nat.le_refl _) hc2 (by omega) (by omega) (by omega) hcells (fun j hj => blk_frozen hcl _)).mono ?_
  rintro e w' ⟨rfl, q, rfl⟩
  have hes : (ks.take ks.length).take i ++ (ks.take ks.length).drop (i + 1) = ks.eraseIdx i := by rw [List.take_length, List.eraseIdx_eq_take_drop_succ]
  rw [hes]
  refine ⟨by rw [hlen, show ks.length - (i + 1 - i) = ks.length - 1 by omega], by omega, ?_, g, rfl, hbg, hgs, ?_⟩
  · refine C_of_cells (by omega) (fun j hj => ?_)
    have hs : ∀ j, j < ((ks.eraseIdx i ++ List.replicate (i + 1 - i) 0).map (Value.int .i64)).length → ((w.drewN q).cell? ⟨g, 0 + j, none⟩).isSome = true := fun j hj => by
      have := hcells j (by simpa [hlen] using (show j < ks.length by simp [hlen] at hj; omega))
      show (w.cell? _).isSome = true
      rw [this]; rfl
    rw [World.cell?_setCells_in g _ 0 _ hs j (by simp; omega)]
    simp only [List.getElem_map]
    rw [List.getElem_append_left hj, List.getD_eq_getElem?_getD, List.getElem?_eq_getElem hj]
    rfl
  · have hk := sc_kept g ((ks.eraseIdx i ++ List.replicate (i + 1 - i) 0).map (Value.int .i64)) 0 (w.drewN q)
    exact ⟨hk.2.1, hk.2.2.1, hk.2.2.2.1, Nat.le_of_eq hk.1.symm, fun k _ hn => hk.2.2.2.2 k hn⟩
end YtgopddjmmoohdaaGreatDoor
end Go.Proofs

/- signal: a board, its entries, what stands apart. -/
set_option linter.unusedSimpArgs false
set_option linter.unusedVariables false
set_option maxRecDepth 100000
set_option maxHeartbeats 1600000
namespace Go.Proofs.YtgopddjmmoohdaaGreatDoor
open Go.RowKit Go.Proofs.YtgopddjmmoohdaaGreatDoorW.PrintWords Go.Proofs.YtgopddjmmoohdaaGreatDoorW.PrintLast Go.Proofs.YtgopddjmmoohdaaGreatDoor.PPlaySilent

/-- Pointers to whole blocks. -/
def encP (o : Nat) : Value := .pointer (some ⟨o, 0, none⟩)
theorem encP_one (o : Nat) : (encP o).oneCell' = true := rfl
def KdP : Kd Nat := Kd.scalar encP encP_one
theorem ptrs_cells {w : World} {ad : Addr} {xs : List Nat} (h : KdP.C w (some ad) xs.length xs) (hp : 0 < xs.length) : ∃ b off, ad = ⟨b, off, none⟩ ∧ ∀ j, j < xs.length → w.cell? ⟨b, off + j, none⟩ = some (encP (xs.getD j 0)) := by
  have hx : ∀ j, j < xs.length → w.cell? (ad.add j) = some (encP (xs.getD j 0)) := fun j hj => by
    obtain ⟨ad', c, e, _, hK, hc⟩ := Kd.C_get h 0 (j : Int) (by omega) (by omega)
    obtain rfl := Option.some.inj e
    rw [Int.toNat_natCast] at hK hc
    have hK' : c = [encP (xs.getD j 0)] := hK
    have := hc 0 _ (by rw [hK']; rfl)
    rwa [show j * KdP.sz + 0 = j from Nat.mul_one j] at this
  have h0 := hx 0 hp
  rw [show ad.add 0 = ad from rfl] at h0
  obtain ⟨b, off, spot⟩ := ad
  obtain rfl : spot = none := World.cell?_spot h0
  refine ⟨b, off, rfl, fun j hj => ?_⟩
  have := hx j hj
  rwa [add_off] at this
/-- Element j of a row of pointers of one's own. -/
theorem ptrs_at {w : World} {t base : Nat} {ok : Nat → Prop} {v : Value} {xs : List Nat} (h : KdP.R t w base ok v xs) {j x : Nat} (hx : xs[j]? = some x) :
    ∃ g c, v = .slice (some ⟨g, 0, none⟩) xs.length c ∧ xs.length ≤ c ∧ w.cell? ⟨g, j, none⟩ = some (.pointer (some ⟨x, 0, none⟩)) := by
  obtain ⟨hj, hxj⟩ := List.getElem?_eq_some_iff.1 hx
  obtain ⟨g, c, rfl, hb, hs, cells, hc⟩ := Kd.R_form h (by omega)
  obtain ⟨-, hl, hC⟩ := Kd.R_reads' h
  obtain ⟨b, off, he, hcell⟩ := ptrs_cells hC (by omega)
  simp only [Addr.mk.injEq, and_true] at he
  obtain ⟨rfl, rfl⟩ := he
  refine ⟨g, c, rfl, hl, ?_⟩
  have := hcell j hj
  rw [Nat.zero_add, List.getD_eq_getElem?_getD, hx] at this
  exact this
/-- A row of one's own over a step that writes none of its blocks. -/
theorem R_ste {α : Type} {d : Kd α} {e base : Nat} {ok P : Nat → Prop} {w w' : World} {v : Value} {xs : List α} (h : d.R e w base ok v xs) (hs : Ste P w w') (hd : ∀ k, ok k → ¬ P k) : d.R e w' base ok v xs :=
  Kd.R_step h (fun k hk hlt => hs.keep k hlt (hd k hk))
/-- An entry of a board: its block, its latch's, whether it was given, whom it follows, its tags. -/
structure SigS where
  ob : Nat
  lb : Nat
  shut : Bool
  fol : List Int
  tags : List Int
structure EntC (P : Nat → Prop) (w0 w : World) (s : SigS) : Prop where
  po : P s.ob
  pl : P s.lb
  latch : w.heap[s.lb]? = some (latchB s.shut)
  row : ∃ v v2, w.heap[s.ob]? = some (.cells #[.pointer (some ⟨s.lb, 0, none⟩), v, v2] 139 (0, 0)) ∧ (Kd.int .i64).R 3 w w0.heap.size P v s.fol ∧ (Kd.int .i64).R 3 w w0.heap.size (fun k => P k ∧ some k ≠ v.ownBlock) v2 s.tags
theorem EntC.ste {P P2 : Nat → Prop} {w0 w w' : World} {s : SigS} (h : EntC P w0 w s) (hs : Ste P2 w w') (hd : ∀ k, P k → ¬ P2 k) : EntC P w0 w' s := by
  obtain ⟨v, v2, h1, h2, h3⟩ := h.row
  exact ⟨h.po, h.pl, hs.blk h.latch (hd _ h.pl), v, v2, hs.blk h1 (hd _ h.po), R_ste h2 hs hd, R_ste h3 hs (fun k hk => hd k hk.1)⟩
theorem EntC.mono {P P' : Nat → Prop} {w0 w : World} {s : SigS} (h : EntC P w0 w s) (hP : ∀ k, P k → P' k) : EntC P' w0 w s := by
  obtain ⟨v, v2, h1, h2, h3⟩ := h.row
  exact ⟨hP _ h.po, hP _ h.pl, h.latch, v, v2, h1, Kd.R_mono h2 hP, Kd.R_mono h3 (fun k hk => ⟨hP k hk.1, hk.2⟩)⟩
/-- A board at block B. Whose a block is: 0: none of the board's; 1: the board's row's; i + 2: entry i's. -/
structure BoC (own : Nat → Nat) (w0 w : World) (B : Nat) (l : List SigS) : Prop where
  pb : own B = 1
  lo : ∀ k, own k ≠ 0 → w0.heap.size ≤ k ∧ k < w.heap.size
  base : Below w0.heap.size w0 w
  len : l.length ≤ 64
  row : ∃ v, w.heap[B]? = some (.cells #[v] 85 (0, 0)) ∧ KdP.R 134 w w0.heap.size (fun k => own k = 1 ∧ k ≠ B) v (l.map (·.ob))
  ent : ∀ i s, l[i]? = some s → EntC (fun k => own k = i + 2) w0 w s
def BoP (own : Nat → Nat) (k : Nat) : Prop := own k ≠ 0
theorem BoC.ste {own : Nat → Nat} {P2 : Nat → Prop} {w0 w w' : World} {B : Nat} {l : List SigS} (h : BoC own w0 w B l) (hs : Ste P2 w w') (hd : ∀ k, own k ≠ 0 → ¬ P2 k) (hl2 : ∀ k, P2 k → w0.heap.size ≤ k) : BoC own w0 w' B l := by
  obtain ⟨v, h1, h2⟩ := h.row
  exact ⟨h.pb, fun k hk => ⟨(h.lo k hk).1, Nat.lt_of_lt_of_le (h.lo k hk).2 hs.size⟩, hs.base h.base h.base.size hl2, h.len, ⟨v, hs.blk h1 (hd _ (by rw [h.pb]; decide)), R_ste h2 hs (fun k hk => hd k (by rw [hk.1]; decide))⟩, fun i s hi => (h.ent i s hi).ste hs (fun k hk => hd k (by rw [hk]; omega))⟩
theorem BoC.below {own : Nat → Nat} {w0 w w' : World} {B : Nat} {l : List SigS} (h : BoC own w0 w B l) (hb : Below w.heap.size w w') : BoC own w0 w' B l := h.ste (P2 := fun _ => False) (Ste.of_below hb) (fun _ _ => id) (fun _ h => h.elim)
/-- An entry's place. -/
def sigF (l : List SigS) (id : Int) : Option SigS := if 1 ≤ id then l[(id - 1).toNat]? else none
theorem sigF_some {l : List SigS} {id : Int} {s : SigS} (h : sigF l id = some s) : ∃ j : Nat, id = ((j + 1 : Nat) : Int) ∧ j < l.length ∧ l[j]? = some s := by
  unfold sigF at h
  split at h
  · obtain ⟨h1, _⟩ := List.getElem?_eq_some_iff.1 h
    exact ⟨(id - 1).toNat, by omega, h1, h⟩
  · cases h
theorem sigF_none {l : List SigS} {id : Int} (h : sigF l id = none) : id < 1 ∨ (l.length : Int) < id := by
  unfold sigF at h
  split at h
  · rw [List.getElem?_eq_none_iff] at h; omega
  · omega
def sigP (l : List SigS) (id : Int) : Value := match sigF l id with
  | none => .pointer none
  | some s => .pointer (some ⟨s.ob, 0, none⟩)
theorem bat_any (own : Nat → Nat) (w0 w : World) (B : Nat) (id : Int) (l : List SigS) (h : BoC own w0 w B l) :
    Calls Tryz.prog 75 #[.pointer (some ⟨B, 0, none⟩), .int .i64 id] w fun e w' => e = .returned (sigP l id) ∧ w' = w := by
  obtain ⟨v, h1, h2⟩ := h.row
  have h64 := h.len
  have z0 := blk_cell h1 0
  obtain ⟨A, c, rfl, hl, hC⟩ := Kd.R_reads h2
  rw [List.length_map] at z0 hl
  cases hn : sigF l id with
  | none =>
    have HP : Hd (sigP l id = .pointer none) := ⟨by unfold sigP; rw [hn]⟩
    rcases sigF_none hn with hi | hi
    · have q1 : id < 1 := hi
      clear hn h2 h hC
      go_enter Tryz.func75, Tryz.ntmps75
      go_wp2
      go_ret
      exact ⟨congrArg Ending.returned HP.out.symm, rfl⟩
    · have q1 : ¬ id < 1 := by omega
      have q2 : (l.length : Int) < id := hi
      clear hn h2 h hC
      go_enter Tryz.func75, Tryz.ntmps75
      go_wp2
      go_ret
      exact ⟨congrArg Ending.returned HP.out.symm, rfl⟩
  | some s =>
    have HP : Hd (sigP l id = .pointer (some ⟨s.ob, 0, none⟩)) := ⟨by unfold sigP; rw [hn]⟩
    obtain ⟨j, rfl, hj, hx⟩ := sigF_some hn
    obtain ⟨g, c', he, _, hcell⟩ := ptrs_at h2 (j := j) (x := s.ob) (by rw [List.getElem?_map, hx]; rfl)
    simp only [Value.slice.injEq] at he
    obtain ⟨rfl, -, rfl⟩ := he
    have q1 : ¬ ((j + 1 : Nat) : Int) < 1 := by omega
    have q2 : ¬ (l.length : Int) < ((j + 1 : Nat) : Int) := by omega
    have q3 : (((j + 1 : Nat) : Int) - 1) = j := by omega
    clear hn h2 h hC
    go_enter Tryz.func75, Tryz.ntmps75
    go_wp2
    go_ret
    exact ⟨congrArg Ending.returned HP.out.symm, rfl⟩
theorem blen_any (own : Nat → Nat) (w0 w : World) (B : Nat) (l : List SigS) (h : BoC own w0 w B l) :
    Calls Tryz.prog 80 #[.pointer (some ⟨B, 0, none⟩)] w fun e w' => e = .returned (.int .i64 l.length) ∧ w' = w := by
  obtain ⟨v, h1, h2⟩ := h.row
  have z0 := blk_cell h1 0
  obtain ⟨A, c, rfl, hl, hC⟩ := Kd.R_reads h2
  rw [List.length_map] at z0 hl
  clear h2 h hC
  go_enter Tryz.func80, Tryz.ntmps80
  go_wp2
  go_ret
  exact ⟨rfl, rfl⟩
def givenF (l : List SigS) (id : Int) : Bool := match sigF l id with
  | none => false
  | some s => s.shut
theorem given_any (own : Nat → Nat) (w0 w : World) (B : Nat) (id : Int) (l : List SigS) (h : BoC own w0 w B l) :
    Calls Tryz.prog 77 #[.pointer (some ⟨B, 0, none⟩), .int .i64 id] w fun e w' => e = .returned (.bool (givenF l id)) ∧ w' = w := by
  have hat := bat_any own w0 w B id l h
  cases hn : sigF l id with
  | none =>
    have HP : Hd (givenF l id = false) := ⟨by unfold givenF; rw [hn]⟩
    rw [show sigP l id = .pointer none by unfold sigP; rw [hn]] at hat
    clear hn h
    go_enter Tryz.func77, Tryz.ntmps77
    go_wp2_with (go_at_call 75; (with_reducible refine hat.mono ?_); rintro e w1 ⟨rfl, hw⟩; obtain rfl := hw.symm)
    go_ret
    exact ⟨congrArg (fun b => Ending.returned (.bool b)) HP.out.symm, rfl⟩
  | some s =>
    have HP : Hd (givenF l id = s.shut) := ⟨by unfold givenF; rw [hn]⟩
    rw [show sigP l id = .pointer (some ⟨s.ob, 0, none⟩) by unfold sigP; rw [hn]] at hat
    obtain ⟨j, hj0, hj, hx⟩ := sigF_some hn
    have hE := h.ent j s hx
    obtain ⟨v, v2, h1, -, -⟩ := hE.row
    have z0 : w.cell? ⟨s.ob, 0, none⟩ = some (.pointer (some ⟨s.lb, 0, none⟩)) := blk_cell h1 0
    have hdn := latch_done s.lb s.shut w hE.latch
    clear hn h hE h1 hj0
    go_enter Tryz.func77, Tryz.ntmps77
    go_wp2_with (first
      | (go_at_call 75; (with_reducible refine hat.mono ?_); rintro e w1 ⟨rfl, hw⟩; obtain rfl := hw.symm)
      | (go_at_call 122; (with_reducible refine hdn.mono ?_); rintro e w1 ⟨rfl, hw⟩; obtain rfl := hw.symm))
    go_ret
    exact ⟨congrArg (fun b => Ending.returned (.bool b)) HP.out.symm, rfl⟩
end Go.Proofs.YtgopddjmmoohdaaGreatDoor

/- signal: what an operation on one entry leaves; Add. -/
set_option linter.unusedSimpArgs false
set_option linter.unusedVariables false
set_option maxRecDepth 100000
set_option maxHeartbeats 1600000
namespace Go.Proofs.YtgopddjmmoohdaaGreatDoor
open Go.RowKit Go.Proofs.YtgopddjmmoohdaaGreatDoorW.PrintWords Go.Proofs.YtgopddjmmoohdaaGreatDoorW.PrintLast Go.Proofs.YtgopddjmmoohdaaGreatDoor.PPlaySilent

/-- The owners, with what was laid between two sizes given to n. -/
def ownX (own : Nat → Nat) (n a b k : Nat) : Nat := if k < a then own k else if k < b then n else 0
theorem ownX_old {own : Nat → Nat} {n a b k : Nat} (h : k < a) : ownX own n a b k = own k := if_pos h
theorem ownX_new {own : Nat → Nat} {n a b k : Nat} (h : a ≤ k) (h2 : k < b) : ownX own n a b k = n := by unfold ownX; rw [if_neg (by omega), if_pos h2]
theorem ownX_ne {own : Nat → Nat} {n a b k : Nat} (h : ownX own n a b k ≠ 0) : (k < a ∧ own k ≠ 0) ∨ (a ≤ k ∧ k < b) := by
  unfold ownX at h
  split at h
  · exact .inl ⟨by assumption, h⟩
  · split at h
    · exact .inr ⟨by omega, by assumption⟩
    · exact absurd rfl h
theorem BoC.old {own : Nat → Nat} {w0 w : World} {B : Nat} {l : List SigS} (h : BoC own w0 w B l) {k m : Nat} (hk : own k = m) (hm : m ≠ 0) (n b : Nat) : ownX own n w.heap.size b k = m := by
  rw [ownX_old (h.lo k (by rw [hk]; exact hm)).2, hk]
/-- Entry j has been written, in its own blocks. -/
theorem BoC.upd {own : Nat → Nat} {w0 w w' : World} {B j : Nat} {l : List SigS} {s s' : SigS} (h : BoC own w0 w B l) (hj : l[j]? = some s) (hob : s'.ob = s.ob) (hs : Ste (fun k => own k = j + 2) w w') (hE : EntC (fun k => own k = j + 2 ∨ (w.heap.size ≤ k ∧ k < w'.heap.size)) w0 w' s') :
    BoC (ownX own (j + 2) w.heap.size w'.heap.size) w0 w' B (l.set j s') := by
  obtain ⟨v, h1, h2⟩ := h.row
  have hB : ownX own (j + 2) w.heap.size w'.heap.size B = 1 := h.old h.pb (by decide) _ _
  refine ⟨hB, fun k hk => ?_, hs.base h.base h.base.size (fun k hk => (h.lo k (by rw [hk]; omega)).1), by simpa using h.len, ⟨v, hs.blk h1 (by rw [h.pb]; omega), ?_⟩, fun i t hi => ?_⟩
  · rcases ownX_ne hk with ⟨h3, h4⟩ | ⟨h3, h4⟩
    · exact ⟨(h.lo k h4).1, Nat.lt_of_lt_of_le h3 hs.size⟩
    · exact ⟨Nat.le_trans h.base.size h3, h4⟩
  · have hm : (l.set j s').map (·.ob) = l.map (·.ob) := by
      refine List.ext_getElem? (fun i => ?_)
      rw [List.getElem?_map, List.getElem?_map, List.getElem?_set]
      split
      · rename_i e
        subst e
        have hlt := (List.getElem?_eq_some_iff.1 hj).1
        rw [if_pos hlt, hj, Option.map_some, Option.map_some, hob]
      · rfl
    rw [hm]
    refine Kd.R_mono (R_ste h2 hs (fun k hk he => ?_)) (fun k hk => ⟨h.old hk.1 (by decide) _ _, hk.2⟩)
    rw [hk.1] at he
    omega
  · rw [List.getElem?_set] at hi
    split at hi
    · rename_i e
      subst e
      split at hi
      · cases hi
        refine hE.mono (fun k hk => ?_)
        rcases hk with hk | ⟨hk, hk2⟩
        · exact h.old hk (by omega) _ _
        · exact ownX_new hk hk2
      · cases hi
    · rename_i e
      refine ((h.ent i t hi).ste hs (fun k hk he => ?_)).mono (fun k hk => h.old hk (by omega) _ _)
      rw [hk] at he
      omega
/-- The same, seen from outside. -/
structure BoStep (own own' : Nat → Nat) (w w' : World) : Prop where
  ste : Ste (BoP own) w w'
  new : ∀ k, own' k ≠ 0 → own k ≠ 0 ∨ w.heap.size ≤ k
theorem BoStep.of {own : Nat → Nat} {j : Nat} {w w' : World} (hs : Ste (fun k => own k = j + 2) w w') (n : Nat) : BoStep own (ownX own n w.heap.size w'.heap.size) w w' :=
  ⟨hs.mono (fun k hk => .inl (by show own k ≠ 0; rw [hk]; omega)), fun k hk => (ownX_ne hk).elim (fun h => .inl h.2) (fun h => .inr h.1)⟩
theorem BoStep.same {own : Nat → Nat} {w w' : World} (hb : Below w.heap.size w w') : BoStep own own w w' := ⟨Ste.of_below hb, fun k hk => .inl hk⟩
theorem BoStep.trans {own own1 own2 : Nat → Nat} {w w1 w2 : World} (h : BoStep own own1 w w1) (h1 : BoStep own1 own2 w1 w2) : BoStep own own2 w w2 :=
  ⟨h.ste.trans h1.ste (fun k hk => h.new k hk), fun k hk => (h1.new k hk).elim (fun hk => h.new k hk) (fun hk => .inr (Nat.le_trans h.ste.size hk))⟩
def addF (l : List SigS) (id tag : Int) : List SigS := match sigF l id with
  | none => l
  | some s => if s.shut = true then l else l.set (id - 1).toNat { s with tags := s.tags ++ [tag] }
theorem grown_ste {w w1 : World} {row : Option Nat} (hg : w.grownBy w1 row) (hb : Below 0 w w1) : Ste (fun k => row = some k) w w1 :=
  ⟨hb.os, hb.tape, hb.output, hg.size, fun k hk hn => hg.block k hk (fun e => hn e.symm)⟩
theorem setCell_ste (w : World) (g j : Nat) (v : Value) : Ste (fun k => k = g) w (w.setCell ⟨g, j, none⟩ v) :=
  ⟨rfl, rfl, rfl, by simp, fun k _ hn => Below.heap_setCell w _ v k hn⟩
theorem badd_any (own : Nat → Nat) (w0 w : World) (B : Nat) (id tag : Int) (l : List SigS) (h : BoC own w0 w B l) (ht : ∀ s ∈ l, s.tags.length ≤ 100000) :
    Calls Tryz.prog 87 #[.pointer (some ⟨B, 0, none⟩), .int .i64 id, .int .i64 tag] w fun e w' => ∃ r : Bool, ∃ own', e = .returned (.bool r) ∧ BoC own' w0 w' B (addF l id tag) ∧ BoStep own own' w w' := by
  have hat := bat_any own w0 w B id l h
  cases hn : sigF l id with
  | none =>
    have HP : Hd (addF l id tag = l) := ⟨by unfold addF; rw [hn]⟩
    rw [show sigP l id = .pointer none by unfold sigP; rw [hn]] at hat
    clear hn
    go_enter Tryz.func87, Tryz.ntmps87
    go_wp2_with (go_at_call 75; (with_reducible refine hat.mono ?_); rintro e w1 ⟨rfl, hw⟩; obtain rfl := hw.symm)
    go_ret
    exact ⟨_, own, rfl, by rw [HP.out]; exact h, BoStep.same (Below.refl _ _)⟩
  | some s =>
    rw [show sigP l id = .pointer (some ⟨s.ob, 0, none⟩) by unfold sigP; rw [hn]] at hat
    have HP : Hd (addF l id tag = if s.shut = true then l else l.set (id - 1).toNat { s with tags := s.tags ++ [tag] }) := ⟨by unfold addF; rw [hn]⟩
    obtain ⟨j, hj0, hj, hx⟩ := sigF_some hn
    have hE := h.ent j s hx
    obtain ⟨v, v2, h1, h2, h3⟩ := hE.row
    have z0 : w.cell? ⟨s.ob, 0, none⟩ = some (.pointer (some ⟨s.lb, 0, none⟩)) := blk_cell h1 0
    have z2 : w.cell? ⟨s.ob, 2, none⟩ = some v2 := blk_cell h1 2
    have hdn := latch_done s.lb s.shut w hE.latch
    have htl := ht s (List.mem_of_getElem? hx)
    cases hsh : s.shut with
    | true =>
      replace HP : Hd (addF l id tag = l) := ⟨by rw [HP.out, if_pos hsh]⟩
      rw [hsh] at hdn
      clear hn hE h1 h2 h3 hj0 hsh
      go_enter Tryz.func87, Tryz.ntmps87
      go_wp2_with (first
        | (go_at_call 75; (with_reducible refine hat.mono ?_); rintro e w1 ⟨rfl, hw⟩; obtain rfl := hw.symm)
        | (go_at_call 122; (with_reducible refine hdn.mono ?_); rintro e w1 ⟨rfl, hw⟩; obtain rfl := hw.symm))
      go_ret
      exact ⟨_, own, rfl, by rw [HP.out]; exact h, BoStep.same (Below.refl _ _)⟩
    | false =>
      replace HP : Hd (addF l id tag = l.set j { s with tags := s.tags ++ [tag] }) := ⟨by rw [HP.out, if_neg (by simp [hsh]), hj0, show (((j + 1 : Nat) : Int) - 1).toNat = j by omega]⟩
      rw [hsh] at hdn
      have hvl := Kd.R_lt h2
      have hR := Kd.R_mono (ok' := fun k => (own k = j + 2 ∨ w.heap.size ≤ k) ∧ some k ≠ v.ownBlock) h3 (fun k hk => ⟨.inl hk.1, hk.2⟩)
      have hfr : ∀ k, w.heap.size ≤ k → (own k = j + 2 ∨ w.heap.size ≤ k) ∧ some k ≠ v.ownBlock := fun k hk => ⟨.inr hk, fun e => by have := hvl k e.symm; omega⟩
      have hne1 := Kd.R_ne h3 h1 (by decide)
      have hla : w.heap[s.lb]? = some latchO := by have := hE.latch; rw [hsh] at this; exact this
      have hlo : s.lb ≠ s.ob := fun e => by rw [e, h1] at hla; cases hla
      have hb0 := h.base.size
      have hDone : Hd (∀ v1 w1, (Kd.int .i64).R 3 w1 w0.heap.size (fun k => (own k = j + 2 ∨ w.heap.size ≤ k) ∧ some k ≠ v.ownBlock) v1 (s.tags ++ [tag]) → Below w0.heap.size w w1 → w.grownBy w1 v2.ownBlock → w1.heap[s.ob]? = some (.cells #[.pointer (some ⟨s.lb, 0, none⟩), v, v2] 139 (0, 0)) →
          ∃ own', BoC own' w0 (w1.setCell ⟨s.ob, 2, none⟩ v1) B (l.set j { s with tags := s.tags ++ [tag] }) ∧ BoStep own own' w (w1.setCell ⟨s.ob, 2, none⟩ v1)) := ⟨fun v1 w1 hR1 hB1 hg1 hX1 => by
        have hS0 := grown_ste hg1 ⟨hB1.os, hB1.tape, hB1.output, hB1.size, fun k hk => absurd hk (Nat.not_lt_zero k)⟩
        have hS1 : Ste (fun k => v2.ownBlock = some k ∨ k = s.ob) w (w1.setCell ⟨s.ob, 2, none⟩ v1) := (hS0.mono (P' := fun k => v2.ownBlock = some k ∨ k = s.ob) (fun k hk => .inl (.inl hk))).trans (setCell_ste w1 s.ob 2 v1) (fun k hk => .inl (.inr hk))
        have hS : Ste (fun k => own k = j + 2) w (w1.setCell ⟨s.ob, 2, none⟩ v1) := hS1.mono (fun k hk => .inl (hk.elim (fun e => (h3.1 k e).1) (fun e => e ▸ hE.po)))
        have hsz : (w1.setCell ⟨s.ob, 2, none⟩ v1).heap.size = w1.heap.size := by simp
        refine ⟨_, h.upd hx rfl hS ⟨.inl hE.po, .inl hE.pl, ?_, v, v1, blk_put hX1 2 v1 rfl, ?_, ?_⟩, BoStep.of hS _⟩
        · show _ = some (latchB s.shut)
          rw [hsh]
          exact hS1.blk hla (fun e => e.elim (fun e => Kd.R_ne h3 hla (by decide) e.symm) hlo)
        · refine Kd.R_mono (R_ste (Kd.R_tight rfl h2) hS1 (fun k hk e => ?_)) (fun k hk => .inl (h2.1 k hk.symm))
          rcases e with e | e
          · exact (h3.1 k e).2 hk
          · subst e
            exact Kd.R_ne h2 h1 (by decide) hk
        · refine Kd.R_mono (R_ste (Kd.R_tight rfl hR1) (setCell_ste w1 s.ob 2 v1) (fun k hk e => ?_)) (fun k hk => ?_)
          · obtain rfl : k = s.ob := e
            exact Kd.R_ne hR1 hX1 (by decide) hk
          · have h5 := hR1.1 k hk.symm
            have h6 := Kd.R_lt hR1 k hk.symm
            exact ⟨h5.1.elim .inl (fun h7 => .inr ⟨h7, by rw [hsz]; exact h6⟩), h5.2⟩⟩
      clear hn hE h2 h3 hj0 hsh hla hlo hvl h
      go_enter Tryz.func87, Tryz.ntmps87
      go_wp2_with (first
        | (go_at_call 75; (with_reducible refine hat.mono ?_); rintro e w1 ⟨rfl, hw⟩; obtain rfl := hw.symm)
        | (go_at_call 122; (with_reducible refine hdn.mono ?_); rintro e w1 ⟨rfl, hw⟩; obtain rfl := hw.symm)
        | (at_builtin; refine Kd.R_append (Kd.int .i64) (w0 := w) w0.heap.size rfl (.tmp 24) (.tmp 26) 32 3 (.int .i64 0) 8 rfl Tryz.underlying32 info3 rfl (by decide) (by decide) v2 s.tags tag [.int .i64 tag] _ (fun _ => False) rfl rfl rfl (fun _ hk => hk.elim) hfr hR (Below.refl _ _) hb0 (by omega) ?_; intro v1 w1 hR1 hB1 hg1 hat1; obtain ⟨A5, c5, rfl, hl5, -⟩ := Kd.R_reads hR1; have hX1 := blk_grown h1 hg1 hne1; have y2 : w1.cell? ⟨s.ob, 2, none⟩ = some v2 := blk_cell hX1 2; have f2 : w1.frozen? ⟨s.ob, 2, none⟩ = false := blk_frozen hX1 2))
      go_ret
      have hDn := hDone.out _ w1 hR1 hB1 hg1 hX1
      rw [show (s.tags ++ [tag]).length = s.tags.length + 1 by simp] at hDn
      obtain ⟨own', h5, h6⟩ := hDn
      exact ⟨_, own', rfl, by rw [HP.out]; exact h5, h6⟩
end Go.Proofs.YtgopddjmmoohdaaGreatDoor
