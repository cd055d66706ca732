/- A forest, its nodes and kin, read. -/
import Derived.Test.YtmjedjhgomlfiaaPAuditLeaksx0
import Derived.Test.YtmjedjhgomlfiaaBase
import Derived.Test.YtmjedjhgomlfiaaParts
import Derived.Test.YtmjedjhgomlfiaaShelf
import Derived.IntWalk
import Derived.Laws.CopyOwn
set_option linter.unusedSimpArgs false
namespace Go.Proofs.Ytmjedjhgomlfiaa
open Go.RowKit Go.Proofs.YtmjedjhgomlfiaaW.PrintWords Go.Proofs.YtmjedjhgomlfiaaW.PrintLast Go.Proofs.Ytmjedjhgomlfiaa.PAuditLeaks

theorem alloc_new' {w : World} {k : Nat} {o : Obj} (h : w.heap.size = k) : (w.alloc o).heap[k]? = some o := h ▸ heap_alloc_new w o
theorem alloc_at {W : World} {k : Nat} {o : Obj} (h : W.heap[k]? = some o) (x : Obj) : (W.alloc x).heap[k]? = some o := blk_alloc h x
theorem cell_alloc_at {w : World} {a : Addr} {v : Value} (h : w.cell? a = some v) (o : Obj) : (w.alloc o).cell? a = some v := (World.cell?_alloc_lt _ _ _ (World.block_lt_of_cell? w a h)).trans h

/-- A forest that is read. -/
def FoR (w : World) (F : Nat) (l : List S61) : Prop := ∃ v base ok, w.heap[F]? = some (.cells #[v] 87 (0, 0)) ∧ Kd.N k61 61 w base ok v l ∧ l.length ≤ 128
theorem FoR.below {w w' : World} {F : Nat} {l : List S61} (h : FoR w F l) (hb : Below w.heap.size w w') : FoR w' F l := by
  obtain ⟨v, base, ok, h1, h2, h3⟩ := h
  exact ⟨v, base, ok, blk_below h1 hb, Kd.N_below h2 hb, h3⟩
/-- A node. -/
def nodeF (l : List S61) (id : Int) : Option S61 := if 1 ≤ id then l[(id - 1).toNat]? else none
theorem nodeF_some {l : List S61} {id : Int} {x : S61} (h : nodeF l id = some x) : ∃ j : Nat, id = ((j + 1 : Nat) : Int) ∧ j < l.length ∧ l[j]? = some x := by
  unfold nodeF at h
  split at h
  · obtain ⟨h1, _⟩ := List.getElem?_eq_some_iff.1 h
    exact ⟨(id - 1).toNat, by omega, h1, h⟩
  · cases h
theorem nodeF_none {l : List S61} {id : Int} (h : nodeF l id = none) : id < 1 ∨ (l.length : Int) < id := by
  unfold nodeF at h
  split at h
  · rw [List.getElem?_eq_none_iff] at h; omega
  · omega
theorem nodeF_at {l : List S61} {j : Nat} {x : S61} (h : l[j]? = some x) : nodeF l ((j + 1 : Nat) : Int) = some x := by
  unfold nodeF
  rw [if_pos (by omega), show (((j + 1 : Nat) : Int) - 1).toNat = j by omega, h]
/-- A node's cells. -/
theorem node_at {w : World} {F : Nat} {l : List S61} (h : FoR w F l) {j : Nat} {x : S61} (hx : l[j]? = some x) :
    ∃ g cap A8 c8, w.heap[F]? = some (.cells #[.slice (some ⟨g, 0, none⟩) l.length cap] 87 (0, 0)) ∧ w.cell? ⟨g, j * 9, none⟩ = some (.int .i64 x.f0) ∧ w.cell? ⟨g, j * 9 + 1, none⟩ = some (.int .i64 x.f1) ∧ w.cell? ⟨g, j * 9 + 2, none⟩ = some (.int .i64 x.f2) ∧ w.cell? ⟨g, j * 9 + 3, none⟩ = some (.int .i64 x.f3) ∧ w.cell? ⟨g, j * 9 + 4, none⟩ = some (.int .i64 x.f4) ∧
      w.cell? ⟨g, j * 9 + 5, none⟩ = some (.bool x.f5) ∧ w.cell? ⟨g, j * 9 + 6, none⟩ = some (.string x.f6) ∧ w.cell? ⟨g, j * 9 + 7, none⟩ = some (.string x.f7) ∧ w.cell? ⟨g, j * 9 + 8, none⟩ = some (.slice A8 x.f8.length c8) ∧ x.f8.length ≤ c8 ∧ (Kd.int .i64).C w A8 x.f8.length x.f8 := by
  obtain ⟨v, base, ok, h1, h2, h3⟩ := h
  have hj := (List.getElem?_eq_some_iff.1 hx).1
  obtain ⟨g, cap, rfl, _, _, _⟩ := Kd.N_form h2 (by omega)
  have hC := (Kd.N_reads' h2).2.2
  obtain ⟨ad, c, hA, hl, hK, hc0⟩ := Kd.C_get hC z61 (j : Int) (by omega) (by omega)
  obtain rfl := Option.some.inj hA
  rw [Int.toNat_natCast, List.getD_eq_getElem?_getD, hx] at hK
  rw [Int.toNat_natCast] at hc0
  have hK' : k61.K w x c := hK
  obtain ⟨A8, c8, rfl, l8, g8⟩ := k61_open hK'
  have hc : ∀ i u, ([.int .i64 x.f0, .int .i64 x.f1, .int .i64 x.f2, .int .i64 x.f3, .int .i64 x.f4, .bool x.f5, .string x.f6, .string x.f7, .slice A8 x.f8.length c8] : List Value)[i]? = some u → w.cell? ⟨g, j * 9 + i, none⟩ = some u := fun i u hi => by
    have := hc0 i u hi
    rwa [Go.Proofs.YtmjedjhgomlfiaaW.PrintWords.add_plain] at this
  exact ⟨g, cap, A8, c8, h1, hc 0 _ rfl, hc 1 _ rfl, hc 2 _ rfl, hc 3 _ rfl, hc 4 _ rfl, hc 5 _ rfl, hc 6 _ rfl, hc 7 _ rfl, hc 8 _ rfl, l8, g8⟩

set_option maxRecDepth 100000 in
theorem at_none (F : Nat) (id : Int) (l : List S61) (w : World) (h : FoR w F l) (hn : nodeF l id = none) :
    Calls Try.prog 45 #[.pointer (some ⟨F, 0, none⟩), .int .i64 id] w fun e w' => e = .returned (.pointer none) ∧ w' = w := by
  obtain ⟨v, base, ok, h1, h2, h3⟩ := h
  obtain ⟨A, c, rfl⟩ := Kd.N_slice h2
  have z0 := blk_cell h1 0
  rcases nodeF_none hn with hi | hi
  · have q1 : id < 1 := hi
    clear hn h2
    go_enter Try.func45, Try.ntmps45
    go_wp2
    go_ret
    exact ⟨rfl, rfl⟩
  · have q1 : ¬ id < 1 := by omega
    have q2 : (l.length : Int) < id := hi
    clear hn h2
    go_enter Try.func45, Try.ntmps45
    go_wp2
    go_ret
    exact ⟨rfl, rfl⟩
set_option maxRecDepth 100000 in
theorem at_some (F j : Nat) (l : List S61) (w : World) (g cap : Nat) (h1 : w.heap[F]? = some (.cells #[.slice (some ⟨g, 0, none⟩) l.length cap] 87 (0, 0))) (hj : j < l.length) (h3 : l.length ≤ 128) :
    Calls Try.prog 45 #[.pointer (some ⟨F, 0, none⟩), .int .i64 ((j + 1 : Nat) : Int)] w fun e w' => e = .returned (.pointer (some ⟨g, j * 9, none⟩)) ∧ w' = w := by
  have z0 := blk_cell h1 0
  have q1 : ¬ ((j + 1 : Nat) : Int) < 1 := by omega
  have q2 : ¬ (l.length : Int) < ((j + 1 : Nat) : Int) := by omega
  go_enter Try.func45, Try.ntmps45
  go_wp2
  go_ret
  exact ⟨rfl, rfl⟩
theorem len_any (F : Nat) (l : List S61) (w : World) (h : FoR w F l) :
    Calls Try.prog 40 #[.pointer (some ⟨F, 0, none⟩)] w fun e w' => e = .returned (.int .i64 l.length) ∧ w' = w := by
  obtain ⟨v, base, ok, h1, h2, h3⟩ := h
  obtain ⟨A, c, rfl⟩ := Kd.N_slice h2
  have z0 := blk_cell h1 0
  clear h2
  go_enter Try.func40, Try.ntmps40
  go_wp2
  go_ret
  exact ⟨rfl, rfl⟩
end Go.Proofs.Ytmjedjhgomlfiaa

set_option linter.unusedSimpArgs false
namespace Go.Proofs.Ytmjedjhgomlfiaa
open Go.RowKit Go.Proofs.YtmjedjhgomlfiaaW.PrintWords Go.Proofs.YtmjedjhgomlfiaaW.PrintLast Go.Proofs.Ytmjedjhgomlfiaa.PAuditLeaks

section
variable {P : Program}
/-- A whole struct or array is stored into a block of its own. -/
theorem wpList_store_row {ops : Array Oper} {rest : List Oper} {o : Oper} {a : Act} {W : World} {Q : Exit → Act → World → Prop} (hgd : o.guard = none) (ty : TypeId) (x y : Operand) (ho : o.op = .store ty x y)
    (g : Nat) (t : TypeId) (cur E : Array Value) (hx : a.eval x = .pointer (some ⟨g, 0, none⟩)) (hy : a.eval y = .agg E) (hg : W.heap[g]? = some (.cells cur t (0, 0))) (hi : (P.info? ty).map (·.size) = some E.size) (hz : cur.size = E.size) (h1 : E.all (·.oneCell') = true)
    (h : ∀ w1, w1.heap[g]? = some (.cells E t (0, 0)) → (∀ k, k ≠ g → w1.heap[k]? = W.heap[k]?) → Below g W w1 → w1.heap.size = W.heap.size → wpList P ops Q rest (a.put o.dst undef) w1) :
    wpList P ops Q (o :: rest) a W :=
  wpList_plain hgd fun K hK => by
    have hst := run_storeVar_row (P := P) W g t ty cur E hg hi hz h1
    unfold Oper.wp execOp
    simp only [ho, hx, hy, Instr.storeAt, Instr.sureAddr, Sem.run_bind, Sem.run_pure, Result.andThen_ok, hst]
    exact hK _ _ (h _ (setRow_heap W g cur E t (0, 0) hg) (fun k hk => setRow_other W g k E hk) (below_setRow (Below.refl _ _) (Nat.le_refl _) E) (by simp))
end
theorem below_set_cell {w W : World} {base g : Nat} (h : Below base w W) (hg : base ≤ g) (j : Nat) (u : Value) : Below base w (W.setCell ⟨g, j, none⟩ u) := h.setCell hg u
theorem own_C {w : World} {base n : Nat} {v : Value} {xs : List Int} (h : w.ownsRow base 3 1 v n (xs.map (Value.int .i64))) (hl : xs.length = n) : ∃ A c, v = .slice A n c ∧ n ≤ c ∧ (Kd.int .i64).C w A n xs ∧ (Kd.int .i64).R 3 w base (fun _ => True) v xs := by
  have hR : (Kd.int .i64).R 3 w base (fun _ => True) v xs := by
    refine ⟨fun _ _ => trivial, xs.map (Value.int .i64), by rw [hl]; exact h, by simp [Kd.int, Kd.scalar], fun j p hj => ?_⟩
    show _ = _
    have hj' := (List.getElem?_eq_some_iff.1 hj)
    simp [Kd.int, Kd.scalar]
    rw [List.take_one]
    simp [hj]
  subst hl
  obtain ⟨A, c, rfl, hc, hC⟩ := Kd.R_reads hR
  exact ⟨A, c, rfl, hc, hC, hR⟩
theorem add_off (b o j : Nat) : (⟨b, o, none⟩ : Addr).add j = ⟨b, o + j, none⟩ := by unfold Addr.add; split <;> simp_all
theorem ints_cells {w : World} {ad : Addr} {xs : List Int} (h : (Kd.int .i64).C w (some ad) xs.length xs) (hp : 0 < xs.length) : ∃ b off, ad = ⟨b, off, none⟩ ∧ ∀ j, j < xs.length → w.cell? ⟨b, off + j, none⟩ = some (.int .i64 (xs.getD j 0)) := by
  have hx : ∀ j, j < xs.length → w.cell? (ad.add j) = some (.int .i64 (xs.getD j 0)) := fun j hj => by
    obtain ⟨ad', c, e, _, hK, hc⟩ := Kd.C_get h 0 (j : Int) (by omega) (by omega)
    obtain rfl := Option.some.inj e
    rw [Int.toNat_natCast] at hK hc
    have hK' : c = [.int .i64 (xs.getD j 0)] := hK
    have := hc 0 _ (by rw [hK']; rfl)
    rwa [show j * (Kd.int .i64).sz + 0 = j from Nat.mul_one j] at this
  have h0 := hx 0 hp
  rw [show ad.add 0 = ad from rfl] at h0
  obtain ⟨b, off, spot⟩ := ad
  obtain rfl : spot = none := World.cell?_spot h0
  refine ⟨b, off, rfl, fun j hj => ?_⟩
  have := hx j hj
  rwa [add_off] at this
theorem clone_any (xs : List Int) (A : Option Addr) (c : Nat) (w : World) (h : (Kd.int .i64).C w A xs.length xs) (hl : xs.length * 8 ≤ 140737488355328) :
    Calls Try.prog 59 #[.slice A xs.length c] w fun e w' => ∃ A' c', e = .returned (.slice A' xs.length c') ∧ xs.length ≤ c' ∧ (Kd.int .i64).C w' A' xs.length xs ∧ (Kd.int .i64).R 3 w' w.heap.size (fun _ => True) (.slice A' xs.length c') xs ∧ Below w.heap.size w w' := by
  rcases Nat.eq_zero_or_pos xs.length with h0 | h0
  · obtain rfl : xs = [] := List.eq_nil_of_length_eq_zero h0
    cases A with
    | none =>
      refine (Try.slices_Clone_int_nil 0 c w).mono ?_
      rintro e w' ⟨rfl, rfl⟩
      exact ⟨none, 0, rfl, Nat.le_refl _, Kd.C_nil _ _, Kd.R_nil _ _ _ _ _, Below.refl _ _⟩
    | some ad =>
      refine (Try.slices_Clone_int_zero ad c w).mono ?_
      rintro e w' ⟨v, rfl, ho, _, hb⟩
      obtain ⟨A', c', rfl, hc, hC, hR⟩ := own_C (xs := []) ho rfl
      exact ⟨A', c', rfl, hc, hC, hR, hb⟩
  · obtain ⟨ad, rfl, _⟩ := h.2.2 h0
    obtain ⟨b, off, rfl, hcells⟩ := ints_cells h h0
    refine (Try.slices_Clone_int b off xs.length c xs w (Nat.le_refl _) hl hcells).mono ?_
    rintro e w' ⟨v, rfl, ho, _, hb⟩
    rw [List.take_length] at ho
    obtain ⟨A', c', rfl, hc, hC, hR⟩ := own_C ho rfl
    exact ⟨A', c', rfl, hc, hC, hR, hb⟩
theorem contains_any (xs : List Int) (x : Int) (A : Option Addr) (c : Nat) (w : World) (h : (Kd.int .i64).C w A xs.length xs) (hl : xs.length ≤ 9223372036854775807) :
    Calls Try.prog 26 #[.slice A xs.length c, .int .i64 x] w fun e w' => e = .returned (.bool (xs.contains x)) ∧ w' = w := by
  rcases Nat.eq_zero_or_pos xs.length with h0 | h0
  · obtain rfl : xs = [] := List.eq_nil_of_length_eq_zero h0
    exact Try.slices_Contains_int_empty A c x w
  · obtain ⟨ad, rfl, _⟩ := h.2.2 h0
    obtain ⟨b, off, rfl, hcells⟩ := ints_cells h h0
    have := Try.slices_Contains_int b off xs.length c xs x w (Nat.le_refl _) hl hcells
    rwa [List.take_length] at this

theorem two_new {w w1 : World} {o o' : Obj} (h : Below ((w.alloc o).alloc o').heap.size ((w.alloc o).alloc o') w1) : w1.heap[w.heap.size]? = some o ∧ w1.heap[w.heap.size + 1]? = some o' ∧ Below w.heap.size w w1 :=
  ⟨blk_below (alloc_at (alloc_new' rfl) _) h, blk_below (alloc_new' (by simp)) h, below_then (below_alloc (below_alloc (Below.refl _ w) _) _) (below_alloc (below_alloc (Below.refl _ w) _) _).size h⟩
def zeroN : Value := .agg #[.int .i64 0, .int .i64 0, .int .i64 0, .int .i64 0, .int .i64 0, .bool false, .string ⟨#[]⟩, .string ⟨#[]⟩, .slice none 0 0]
def nodeV (x : S61) (A : Option Addr) (c : Nat) : Value := .agg #[.int .i64 x.f0, .int .i64 x.f1, .int .i64 x.f2, .int .i64 x.f3, .int .i64 x.f4, .bool x.f5, .string x.f6, .string x.f7, .slice A x.f8.length c]
theorem info61 : (Try.prog.info? 61).map (·.size) = some 9 := by kernel_rfl
theorem results_node {tmps : Array Value} {w : World} {g : Nat} {cs : Array Value} {b : Value} (hp : tmps.getD 4 undef = .pointer (some ⟨g, 0, none⟩)) (hg : w.heap[g]? = some (.cells cs 61 (0, 0))) (hs : cs.size = 9) (hb : tmps.getD 5 undef = b) :
    (results Try.f39 tmps).run Try.prog w = .ok (.tuple #[.agg cs, b]) w := by
  subst hb
  exact results_list (rs := [.cell 4 61, .tmp 5]) rfl (by simp) (.cell g 61 cs (0, 0) _ hp hg Try.underlying61 rfl (by rw [info61, hs]) (.tmp .nil))
set_option maxRecDepth 100000 in
theorem node_none (F : Nat) (id : Int) (l : List S61) (w : World) (h : FoR w F l) (hn : nodeF l id = none) :
    Calls Try.prog 39 #[.pointer (some ⟨F, 0, none⟩), .int .i64 id] w fun e w' => e = .returned (.tuple #[zeroN, .bool false]) ∧ Below w.heap.size w w' := by
  have hat := fun o => at_none F id l _ (h.below (below_alloc (Below.refl _ w) o)) hn
  go_enter Try.func39, Try.ntmps39
  go_wp2_with (go_at_call 45; refine (hat _).mono ?_; rintro e w1 ⟨rfl, rfl⟩)
  refine bodyPost_ret (results_node rfl (alloc_new' rfl) rfl rfl) rfl ?_
  exact ⟨rfl, below_alloc (Below.refl _ _) _⟩
set_option maxRecDepth 100000 in
set_option maxHeartbeats 1600000 in
theorem node_some (F j : Nat) (x : S61) (l : List S61) (w : World) (h : FoR w F l) (hx : l[j]? = some x) (hk : x.f8.length ≤ 100000) :
    Calls Try.prog 39 #[.pointer (some ⟨F, 0, none⟩), .int .i64 ((j + 1 : Nat) : Int)] w fun e w' => ∃ A c, e = .returned (.tuple #[nodeV x A c, .bool true]) ∧ x.f8.length ≤ c ∧ (Kd.int .i64).C w' A x.f8.length x.f8 ∧ Below w.heap.size w w' := by
  obtain ⟨g, cap, A8, c8, hF, k0, k1, k2, k3, k4, k5, k6, k7, k8, l8, g8⟩ := node_at h hx
  have hj := (List.getElem?_eq_some_iff.1 hx).1
  have h128 : l.length ≤ 128 := by obtain ⟨_, _, _, _, _, h3⟩ := h; exact h3
  have hat := fun o => at_some F j l (w.alloc o) g cap (alloc_at hF o) hj h128
  have HC : Hid (∀ i v, ([.int .i64 x.f0, .int .i64 x.f1, .int .i64 x.f2, .int .i64 x.f3, .int .i64 x.f4, .bool x.f5, .string x.f6, .string x.f7, .slice A8 x.f8.length c8] : List Value)[i]? = some v → w.cell? ((⟨g, j * 9, none⟩ : Addr).add i) = some v) := hide_ (by
    intro i v hi
    rw [add_off]
    have hlt : i < 9 := (List.getElem?_eq_some_iff.1 hi).1
    have : i = 0 ∨ i = 1 ∨ i = 2 ∨ i = 3 ∨ i = 4 ∨ i = 5 ∨ i = 6 ∨ i = 7 ∨ i = 8 := by omega
    rcases this with rfl | rfl | rfl | rfl | rfl | rfl | rfl | rfl | rfl
    all_goals (simp at hi; subst hi; assumption))
  have HB8 : Hid (w.cell? ⟨g, j * 9 + 8, none⟩ = some (.slice A8 x.f8.length c8)) := hide_ k8
  clear h hx k0 k1 k2 k3 k4 k5 k6 k7 k8
  go_enter Try.func39, Try.ntmps39
  go_wp2_with (first
    | (go_at_call 45; refine (hat _).mono ?_; rintro e w1 ⟨rfl, rfl⟩)
    | (refine gate_ (.load 61 (.tmp 15)) rfl ?_; refine wpList_load_list rfl 61 (.tmp 15) rfl _ rfl [.int .i64 x.f0, .int .i64 x.f1, .int .i64 x.f2, .int .i64 x.f3, .int .i64 x.f4, .bool x.f5, .string x.f6, .string x.f7, .slice A8 x.f8.length c8] _ (fun i v hi => cell_alloc_at (HC.out i v hi) _) Try.underlying61 rfl info61 ?_; have k8 := fun o o' => cell_alloc_at (cell_alloc_at HB8.out o) o')
    | (go_at_call 59; refine (clone_any x.f8 A8 c8 _ (Kd.C_below g8 (below_alloc (below_alloc (Below.refl _ w) _) _)) (by omega)).mono ?_; rintro e w4 ⟨A9, c9, rfl, l9, -, hR9, hB4⟩; obtain ⟨hX4, hX7, hBw⟩ := two_new hB4; have z8 := blk_cell hX7 8; have zf := blk_frozen hX7 8; have hX7' := blk_put hX7 8 (.slice A9 x.f8.length c9) (cs' := #[.int .i64 x.f0, .int .i64 x.f1, .int .i64 x.f2, .int .i64 x.f3, .int .i64 x.f4, .bool x.f5, .string x.f6, .string x.f7, .slice A9 x.f8.length c9]) rfl; have hX4' := (Below.heap_setCell w4 ⟨w.heap.size + 1, 8, none⟩ (.slice A9 x.f8.length c9) w.heap.size (by show w.heap.size ≠ w.heap.size + 1; omega)).trans hX4; clear k8)
    | (refine gate_ (.load 61 (.tmp 7)) rfl ?_; refine wpList_load_row rfl 61 (.tmp 7) rfl (w.heap.size + 1) rfl 61 _ (0, 0) _ hX7' Try.underlying61 rfl info61 ?_)
    | (refine gate_ (.store 61 (.tmp 4) (.tmp 23)) rfl ?_; refine wpList_store_row rfl 61 (.tmp 4) (.tmp 23) rfl w.heap.size 61 _ _ rfl rfl hX4' info61 rfl (by simp [Value.oneCell']) ?_; intro w5 hR5 hO5 hB5 _))
  refine bodyPost_ret (results_node rfl hR5 rfl rfl) rfl ?_
  have hR9' : (Kd.int .i64).R 3 w5 _ _ (.slice A9 x.f8.length c9) x.f8 := Kd.R_step (Kd.R_bound hR9) (fun k hk _ => by
    have h2 := hk.2.1
    simp at h2
    exact (hO5 k (by omega)).trans (Below.heap_setCell w4 ⟨w.heap.size + 1, 8, none⟩ _ k (by show k ≠ w.heap.size + 1; omega)))
  exact ⟨A9, c9, rfl, l9, (Kd.R_reads' hR9').2.2, (below_set_cell hBw (by omega) _ _).trans hB5⟩
end Go.Proofs.Ytmjedjhgomlfiaa

set_option linter.unusedSimpArgs false
namespace Go.Proofs.Ytmjedjhgomlfiaa
open Go.RowKit Go.Proofs.YtmjedjhgomlfiaaW.PrintWords Go.Proofs.YtmjedjhgomlfiaaW.PrintLast Go.Proofs.Ytmjedjhgomlfiaa.PAuditLeaks

/-- From here up there are k nodes at most. -/
def Ends (l : List S61) : Nat → Int → Prop
  | 0, id => nodeF l id = none
  | k + 1, id => ∀ x, nodeF l id = some x → Ends l k x.f1
/-- A node, its parent, and so on. -/
def upF (l : List S61) : Nat → Int → List Int
  | 0, _ => []
  | k + 1, id => match nodeF l id with
    | none => []
    | some x => id :: upF l k x.f1
theorem upF_none {l : List S61} {id : Int} (h : nodeF l id = none) : ∀ k, upF l k id = []
  | 0 => rfl
  | k + 1 => by rw [upF, h]
theorem Ends.none {l : List S61} {id : Int} (h : nodeF l id = none) : ∀ k, Ends l k id
  | 0 => h
  | k + 1 => fun x hx => by rw [h] at hx; cases hx
theorem upF_length {l : List S61} : ∀ (k : Nat) (id : Int), (upF l k id).length ≤ k
  | 0, _ => Nat.le_refl _
  | k + 1, id => by
    rw [upF]
    split
    · simp
    · rw [List.length_cons]; have := upF_length (l := l) k; exact Nat.succ_le_succ (this _)

theorem info3 : (Try.prog.info? 3).map (fun i => (i.zero, i.size, i.bytes)) = some (some (.int .i64 0), 1, 8) := by kernel_rfl
set_option maxRecDepth 100000 in
set_option maxHeartbeats 1600000 in
theorem up_any (F : Nat) (id : Int) (l : List S61) (w : World) (h : FoR w F l) (hk : ∀ x ∈ l, x.f8.length ≤ 100000) (he : Ends l l.length id) :
    Calls Try.prog 68 #[.pointer (some ⟨F, 0, none⟩), .int .i64 id] w fun e w' => ∃ v, e = .returned v ∧ (Kd.int .i64).R 3 w' w.heap.size (fun _ => True) v (upF l l.length id) ∧ Below w.heap.size w w' := by
  have h128 : l.length ≤ 128 := by obtain ⟨_, _, _, _, _, h3⟩ := h; exact h3
  obtain ⟨N, hN⟩ : ∃ N, N = l.length := ⟨_, rfl⟩
  rw [← hN] at he ⊢
  have hN128 : N ≤ 128 := by omega
  clear hN
  go_enter Try.func68, Try.ntmps68
  go_wp2
  go_loopg [1, 5] N (fun gk v1 v5 wr => ∃ (i : Int) (o : List Int), v1 = .int .i64 i ∧ Ends l gk i ∧ Hid (upF l N id = o ++ upF l gk i) ∧ (Kd.int .i64).R 3 wr w.heap.size (fun _ => True) v5 o ∧ Below w.heap.size w wr ∧ o.length + gk ≤ N)
  case atStart => exact ⟨id, [], rfl, he, rfl, Kd.R_nil _ _ _ _ _, Below.refl _ _, by simp⟩
  case round =>
    obtain ⟨i, o, rfl, hE, HU, hR, hB, hol⟩ := hrel
    have hF := h.below hB
    cases hn : nodeF l i with
    | none =>
      have HP : Hid (upF l N id = o) := by show _ = _; rw [HU, upF_none hn, List.append_nil]
      have hnd := node_none F i l wr hF hn
      simp only [zeroN] at hnd
      clear hn hE
      go_wp2_with (go_at_call 39; refine hnd.mono ?_; rintro e w2 ⟨rfl, hB2⟩)
      go_ret
      exact ⟨_, rfl, by rw [HP]; exact Kd.R_alloc (Kd.R_below hR hB2) _, below_alloc (below_then hB hB.size hB2) _⟩
    | some x =>
      cases gk with
      | zero => exact absurd (show nodeF l i = none from hE) (by rw [hn]; simp)
      | succ k1 =>
        obtain ⟨j, rfl, hj, hx⟩ := nodeF_some hn
        have HP : Hid (upF l N id = (o ++ [((j + 1 : Nat) : Int)]) ++ upF l k1 x.f1) := by
          show _ = _
          rw [HU, upF, hn]; simp
        have hE' := hE x hn
        have hnd := node_some F j x l wr hF hx (hk x (List.mem_of_getElem? hx))
        simp only [nodeV] at hnd
        clear hn hE hx HU hF
        go_wp2_with (first
          | (go_at_call 39; refine hnd.mono ?_; rintro e w2 ⟨A, c, rfl, -, -, hB2⟩; have hR2 := Kd.R_alloc (Kd.R_below hR hB2) (.cells #[.int .i64 x.f0, .int .i64 x.f1, .int .i64 x.f2, .int .i64 x.f3, .int .i64 x.f4, .bool x.f5, .string x.f6, .string x.f7, .slice A x.f8.length c] 61); have hC2 := below_alloc (below_then hB hB.size hB2) (.cells #[.int .i64 x.f0, .int .i64 x.f1, .int .i64 x.f2, .int .i64 x.f3, .int .i64 x.f4, .bool x.f5, .string x.f6, .string x.f7, .slice A x.f8.length c] 61); have hX2 := blk_new w2 (.cells #[.int .i64 x.f0, .int .i64 x.f1, .int .i64 x.f2, .int .i64 x.f3, .int .i64 x.f4, .bool x.f5, .string x.f6, .string x.f7, .slice A x.f8.length c] 61))
          | (at_builtin; generalize hW3 : w2.alloc (.cells #[.int .i64 x.f0, .int .i64 x.f1, .int .i64 x.f2, .int .i64 x.f3, .int .i64 x.f4, .bool x.f5, .string x.f6, .string x.f7, .slice A x.f8.length c] 61) = W3 at *; have hs3 : w2.heap.size + 1 = W3.heap.size := (by rw [← hW3]; simp); rw [hs3]; refine Kd.R_append (Kd.int .i64) (w0 := w) w.heap.size rfl (.tmp 17) (.tmp 19) 29 3 (.int .i64 0) 8 rfl Try.underlying29 info3 rfl (by decide) (by decide) _ o ((j + 1 : Nat) : Int) [.int .i64 ((j : Int) + 1)] (fun _ => True) (fun _ => False) rfl rfl rfl (fun _ hk => hk.elim) (fun _ _ => trivial) hR2 hC2 hC2.size (by omega) ?_; intro v1 w4 hR4 hB4 hg4 hat4; have hX4 := blk_grown hX2 hg4 (Kd.R_ne hR2 hX2 (by decide)); have z1 := blk_cell hX4 1))
        go_roundg k1
        case rel => exact ⟨x.f1, _, rfl, hE', HP, hR4, hB4, by simp; omega⟩
        case measure => omega
theorem root_any (F : Nat) (id : Int) (l : List S61) (w : World) (h : FoR w F l) (hk : ∀ x ∈ l, x.f8.length ≤ 100000) (he : Ends l l.length id) :
    Calls Try.prog 60 #[.pointer (some ⟨F, 0, none⟩), .int .i64 id] w fun e w' => e = .returned (.int .i64 ((upF l l.length id).getLastD 0)) ∧ Below w.heap.size w w' := by
  have hup := up_any F id l w h hk he
  have hul := upF_length (l := l) l.length id
  have h128 : l.length ≤ 128 := by obtain ⟨_, _, _, _, _, h3⟩ := h; exact h3
  generalize upF l l.length id = u at *
  clear h hk he
  rcases List.eq_nil_or_concat u with rfl | ⟨u', y, rfl⟩
  · go_enter Try.func60, Try.ntmps60
    go_wp2_with (go_at_call 68; refine hup.mono ?_; rintro e w1 ⟨v, rfl, hR, hB⟩; obtain ⟨A, c, rfl, -, -⟩ := Kd.R_reads hR)
    go_ret
    exact ⟨rfl, hB⟩
  · rw [List.concat_eq_append] at *
    have HG := hide_ (show (u' ++ [y]).getLastD 0 = y by simp)
    have hlen : (u' ++ [y]).length = u'.length + 1 := by simp
    rw [hlen] at hul
    obtain ⟨n, hn⟩ : ∃ n, n = u'.length := ⟨_, rfl⟩
    rw [← hn] at hul hlen
    have hsub : ((n : Int) + 1 - 1) = (n : Int) := by omega
    have hnb : (n : Int) < (n : Int) + 1 := by omega
    have hcell : ∀ A W, (Kd.int .i64).C W A (n + 1) (u' ++ [y]) → ∃ b off, A = some ⟨b, off, none⟩ ∧ W.cell? ⟨b, off + n, none⟩ = some (.int .i64 y) := fun A W hC => by
      obtain ⟨ad, rfl, _⟩ := hC.2.2 (by omega)
      rw [← hlen] at hC
      obtain ⟨b, off, rfl, hc⟩ := ints_cells hC (by simp)
      refine ⟨b, off, rfl, ?_⟩
      have := hc n (by omega)
      rw [this]
      simp [List.getD, hn]
    have HLN := hide_ hlen
    clear hsub hn hlen
    go_enter Try.func60, Try.ntmps60
    go_wp2_with (go_at_call 68; refine hup.mono ?_; rintro e w1 ⟨v, rfl, hR, hB⟩; obtain ⟨A, c, e1, hc, hC⟩ := Kd.R_reads hR; rw [HLN] at e1 hc hC; subst e1; obtain ⟨b, off, rfl, hcc⟩ := hcell _ _ hC)
    go_ret
    exact ⟨by rw [HG]; rfl, hB⟩
theorem above_any (F : Nat) (a id : Int) (l : List S61) (w : World) (h : FoR w F l) (hk : ∀ x ∈ l, x.f8.length ≤ 100000) (he : Ends l l.length id) :
    Calls Try.prog 61 #[.pointer (some ⟨F, 0, none⟩), .int .i64 a, .int .i64 id] w fun e w' => e = .returned (.bool (decide (a ∈ upF l l.length id))) ∧ Below w.heap.size w w' := by
  have hup := up_any F id l w h hk he
  have hul := upF_length (l := l) l.length id
  have h128 : l.length ≤ 128 := by obtain ⟨_, _, _, _, _, h3⟩ := h; exact h3
  generalize upF l l.length id = u at *
  clear h hk he
  go_enter Try.func61, Try.ntmps61
  go_wp2_with (first
    | (go_at_call 68; refine hup.mono ?_; rintro e w1 ⟨v, rfl, hR, hB⟩; obtain ⟨A, c, rfl, -, hC⟩ := Kd.R_reads hR)
    | (go_at_call 26; (refine (contains_any u a A c _ hC (by omega)).mono ?_; rintro e w2 ⟨rfl, rfl⟩)))
  go_ret
  exact ⟨rfl, hB⟩
end Go.Proofs.Ytmjedjhgomlfiaa
