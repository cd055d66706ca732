/- Putting a node: children. -/
import Derived.Test.YtmjedjhgomlfiaaForMk
set_option linter.unusedSimpArgs false
set_option linter.unusedVariables false
namespace Go.Proofs.Ytmjedjhgomlfiaa
open Go.RowKit Go.Proofs.YtmjedjhgomlfiaaW.PrintWords Go.Proofs.YtmjedjhgomlfiaaW.PrintLast Go.Proofs.Ytmjedjhgomlfiaa.PAuditLeaks

theorem FoO.congr {w0 W V : World} {F : Nat} {l : List S61} (h : FoO w0 W F l) (hk : ∀ k, k < W.heap.size → V.heap[k]? = W.heap[k]?) (hB : Below w0.heap.size w0 V) : FoO w0 V F l := by
  obtain ⟨h1, h2, h3, h4, v, h5, h6⟩ := h
  have hF := (hk F h2).trans h5
  exact ⟨h1, blk_lt hF, h3, hB, v, hF, Kd.N_step h6 (fun k _ hlt => hk k hlt)⟩
theorem set_back (cs : Array Value) (o : Nat) (v u : Value) (h : cs[o]? = some u) : (cs.setIfInBounds o v).setIfInBounds o u = cs := by
  obtain ⟨h1, h2⟩ := Array.getElem?_eq_some_iff.1 h
  refine Array.ext_getElem? (fun i => ?_)
  rw [Array.getElem?_setIfInBounds, Array.getElem?_setIfInBounds]
  by_cases e : o = i
  · subst e; simp [h1, h2]
  · simp [e]
theorem FoO.setKids {w0 W W3 : World} {F g j : Nat} {l : List S61} {x : S61} (h : FoO w0 W F l) (hx : l[j]? = some x) {cap : Nat} (hF : W.heap[F]? = some (.cells #[.slice (some ⟨g, 0, none⟩) l.length cap] 87 (0, 0))) (hg0 : w0.heap.size ≤ g) (hgs : g < W.heap.size) (hgF : g ≠ F)
    (hn : ∀ (V : World) (l' : List S61), FoO w0 V F l' → l'.length = l.length → V.heap[F]? = W.heap[F]? → ∀ j x, l'[j]? = some x → NodeAt w0 V F l' j x g)
    {A : Option Addr} {c : Nat} {ks : List Int} {ok : Nat → Prop} (hR : (Kd.int .i64).R 3 W3 W.heap.size ok (.slice A ks.length c) ks) (hk : ∀ k, k < W.heap.size → k ≠ g → W3.heap[k]? = W.heap[k]?)
    {cs : Array Value} (hgc : W.heap[g]? = some (.cells cs 61 (0, 0))) (hg3 : W3.heap[g]? = some (.cells (cs.setIfInBounds (j * 9 + 8) (.slice A ks.length c)) 61 (0, 0))) (hB : Below w0.heap.size w0 W3) :
    FoO w0 W3 F (l.set j { x with f8 := ks }) := by
  have hN := hn W l h rfl rfl j x hx
  obtain ⟨A8, c8, k8, -, -⟩ := hN.k8
  have hu : cs[j * 9 + 8]? = some (.slice A8 x.f8.length c8) := (blk_cell hgc _).symm.trans k8
  have hVg : (W3.setCell ⟨g, j * 9 + 8, none⟩ (.slice A8 x.f8.length c8)).heap[g]? = some (.cells cs 61 (0, 0)) := blk_put hg3 _ _ (set_back cs _ _ _ hu)
  have hVk : ∀ k, k ≠ g → (W3.setCell ⟨g, j * 9 + 8, none⟩ (.slice A8 x.f8.length c8)).heap[k]? = W3.heap[k]? := fun k hk => Below.heap_setCell W3 _ _ k hk
  have hBV := below_set_cell hB hg0 (j * 9 + 8) (.slice A8 x.f8.length c8)
  have hsz : ∀ u, (W3.setCell ⟨g, j * 9 + 8, none⟩ u).heap.size = W3.heap.size := fun u => by simp
  obtain ⟨V, hV⟩ : ∃ V, V = W3.setCell ⟨g, j * 9 + 8, none⟩ (.slice A8 x.f8.length c8) := ⟨_, rfl⟩
  have hfar : (Kd.int .i64).F V (fun k => (w0.heap.size ≤ k ∧ k ≠ F) ∧ k ≠ g) A ks.length ks := by
    rw [hV]
    have hR' := Kd.R_tight rfl hR
    have hb := Kd.R_base hR
    have hF2 := blk_lt hF
    refine Kd.F_far (Kd.F_mono (Kd.R_F hR') (fun k hk => ?_)) (fun k hk => hk.2) _
    have := hb k hk.symm
    exact ⟨⟨by omega, by omega⟩, by omega⟩
  rw [← hV] at hVg hVk hBV
  have hFV : FoO w0 V F l := h.congr (fun k hlt => by
    by_cases e : k = g
    · subst e; rw [hVg, hgc]
    · rw [hVk k e, hk k hlt e]) hBV
  have hNV := hn V l hFV rfl (by rw [hVk F (Ne.symm hgF), hk F (blk_lt hF) (Ne.symm hgF)]) j x hx
  have hs := hNV.s8 A c ks (Kd.R_reads' hR).2.1 hfar
  refine hs.congr (fun k _ => ?_) hB
  by_cases e : k = g
  · subst e
    rw [blk_put hVg (j * 9 + 8) (.slice A ks.length c) rfl, hg3]
  · rw [Below.heap_setCell V _ _ k e, hVk k e]
end Go.Proofs.Ytmjedjhgomlfiaa

set_option linter.unusedSimpArgs false
set_option linter.unusedVariables false
namespace Go.Proofs.Ytmjedjhgomlfiaa
open Go.RowKit Go.Proofs.YtmjedjhgomlfiaaW.PrintWords Go.Proofs.YtmjedjhgomlfiaaW.PrintLast Go.Proofs.Ytmjedjhgomlfiaa.PAuditLeaks

theorem nodeF_get {l : List S61} {id : Int} {x : S61} (h : nodeF l id = some x) : l[(id - 1).toNat]? = some x := by
  unfold nodeF at h
  split at h
  · exact h
  · cases h
theorem nodeF_len {l l' : List S61} (h : l'.length = l.length) {id : Int} {x : S61} (hx : nodeF l id = some x) : ∃ y, nodeF l' id = some y := by
  obtain ⟨j, rfl, hj, _⟩ := nodeF_some hx
  exact ⟨l'[j]'(by omega), nodeF_at (List.getElem?_eq_getElem (by omega))⟩
theorem at_id (F : Nat) (id : Int) (l : List S61) (w : World) (g cap : Nat) (x : S61) (h1 : w.heap[F]? = some (.cells #[.slice (some ⟨g, 0, none⟩) l.length cap] 87 (0, 0))) (hx : nodeF l id = some x) (h3 : l.length ≤ 128) :
    Calls Try.prog 45 #[.pointer (some ⟨F, 0, none⟩), .int .i64 id] w fun e w' => e = .returned (.pointer (some ⟨g, (id - 1).toNat * 9, none⟩)) ∧ w' = w := by
  obtain ⟨j, rfl, hj, _⟩ := nodeF_some hx
  rw [show (((j + 1 : Nat) : Int) - 1).toNat = j by omega]
  exact at_some F j l w g cap h1 hj h3
def rootedF (x : S61) : Bool := x.f0 == 1 || x.f0 == 3
theorem rooted_any (g o : Nat) (x : S61) (w : World) (k0 : w.cell? ⟨g, o, none⟩ = some (.int .i64 x.f0)) :
    Calls Try.prog 46 #[.pointer (some ⟨g, o, none⟩)] w fun e w' => e = .returned (.bool (rootedF x)) ∧ w' = w := by
  have H := hd_ (show rootedF x = (x.f0 == 1 || x.f0 == 3) from rfl)
  by_cases h1 : x.f0 = 1
  · rw [h1] at H k0
    go_enter Try.func46, Try.ntmps46
    go_wp2
    go_ret
    exact ⟨by rw [H.out]; rfl, rfl⟩
  · have q1 : (x.f0 == 1) = false := by simpa using h1
    clear h1
    go_enter Try.func46, Try.ntmps46
    go_wp2
    go_ret
    exact ⟨by rw [H.out, q1]; rfl, rfl⟩
/-- Are these nodes, each once? -/
def okIds (l : List S61) : List Int → List Int → Bool
  | _, [] => true
  | seen, k :: r => (nodeF l k).isSome && (!seen.contains k && okIds l (seen ++ [k]) r)
theorem okIds_mem {l : List S61} : ∀ {ks seen : List Int}, okIds l seen ks = true → ∀ k ∈ ks, ∃ x, nodeF l k = some x
  | [], _, _, k, hk => by cases hk
  | a :: r, seen, h, k, hk => by
    rw [okIds, Bool.and_eq_true, Bool.and_eq_true] at h
    rcases List.mem_cons.1 hk with rfl | hk
    · exact Option.isSome_iff_exists.1 h.1
    · exact okIds_mem h.2.2 k hk
/-- May they be children of p? -/
def okKids (l : List S61) (p : Int) : List Int → Bool
  | [] => true
  | k :: r => match nodeF l k with
    | none => false
    | some x => if rootedF x = true then false else if k ∈ overL l l.length p then false else if x.f1 = 0 then okKids l p r else if x.f1 = p then okKids l p r else false
theorem okKids_cons {l : List S61} {p k : Int} {r : List Int} {x : S61} (h : nodeF l k = some x) : okKids l p (k :: r) = if rootedF x = true then false else if k ∈ overL l l.length p then false else if x.f1 = 0 then okKids l p r else if x.f1 = p then okKids l p r else false := by
  rw [okKids, h]
def setPar1 (v : Int) (l : List S61) (k : Int) : List S61 := match nodeF l k with
  | none => l
  | some x => l.set (k - 1).toNat { x with f1 := v }
theorem setPar1_some {v : Int} {l : List S61} {k : Int} {x : S61} (h : nodeF l k = some x) : setPar1 v l k = l.set (k - 1).toNat { x with f1 := v } := by unfold setPar1; rw [h]
theorem setPar1_length (v : Int) (l : List S61) (k : Int) : (setPar1 v l k).length = l.length := by
  unfold setPar1
  split <;> simp
/-- The parent of nodes is set. -/
def setPar (v : Int) (l : List S61) (ks : List Int) : List S61 := ks.foldl (setPar1 v) l
theorem setPar_length (v : Int) : ∀ (ks : List Int) (l : List S61), (setPar v l ks).length = l.length
  | [], _ => rfl
  | k :: r, l => (setPar_length v r (setPar1 v l k)).trans (setPar1_length v l k)
theorem setPar_step {v : Int} {l : List S61} {ks : List Int} {j : Nat} {k : Int} (h : ks[j]? = some k) : setPar v l (ks.take (j + 1)) = setPar1 v (setPar v l (ks.take j)) k := by
  rw [List.take_add_one, h]
  unfold setPar
  rw [List.foldl_append]
  rfl
/-- Put. -/
def putF (l : List S61) (p : Int) (ks : List Int) : List S61 := match nodeF l p with
  | none => l
  | some x => if okIds l [] ks = true then if okKids l p ks = true then match nodeF (setPar p (setPar 0 l x.f8) ks) p with
      | none => l
      | some y => (setPar p (setPar 0 l x.f8) ks).set (p - 1).toNat { y with f8 := ks } else l else l
theorem putF_bad {l : List S61} {p : Int} {ks : List Int} {x : S61} (hn : nodeF l p = some x) (h : okIds l [] ks = false) : putF l p ks = l := by
  unfold putF; rw [hn]; simp [h]
theorem putF_bad2 {l : List S61} {p : Int} {ks : List Int} {x : S61} (hn : nodeF l p = some x) (h : okKids l p ks = false) : putF l p ks = l := by
  unfold putF; rw [hn]; simp [h]
theorem putF_ok {l : List S61} {p : Int} {ks : List Int} {x y : S61} (hn : nodeF l p = some x) (h1 : okIds l [] ks = true) (h2 : okKids l p ks = true) (hy : nodeF (setPar p (setPar 0 l x.f8) ks) p = some y) : putF l p ks = (setPar p (setPar 0 l x.f8) ks).set (p - 1).toNat { y with f8 := ks } := by
  unfold putF; rw [hn]; simp only; rw [if_pos h1, if_pos h2, hy]
/-- The first j of a row of numbers. -/
theorem ints_take {w : World} {A : Option Addr} {c : Nat} {xs : List Int} (h : (Kd.int .i64).C w A xs.length xs) (hc : xs.length ≤ c) (j : Nat) (hj : j ≤ xs.length) : (Kd.int .i64).C w A (xs.take j).length (xs.take j) := by
  obtain ⟨i0, hi0, _, hsz, _⟩ := info_parts info3
  obtain ⟨_, hA, _⟩ := print_take_of (P := Try.prog) (Value.int .i64) 0 29 3 .i64 Try.underlying29 hi0 hsz A c xs (j : Int) (by omega) (by omega) hc
  have := Kd.C_of_reads (h1 := fun _ => rfl) (hA _ (Kd.reads_of_C h))
  rw [Int.toNat_natCast] at this
  exact this
theorem ints_at {w : World} {A : Option Addr} {xs : List Int} {j : Nat} {k : Int} (h : (Kd.int .i64).C w A xs.length xs) (hk : xs[j]? = some k) : ∃ b o, A = some ⟨b, o, none⟩ ∧ w.cell? ⟨b, o + j, none⟩ = some (.int .i64 k) := by
  have hj := (List.getElem?_eq_some_iff.1 hk).1
  obtain ⟨ad, hA, -⟩ := Kd.at_int h (j : Int) (by omega) (by omega)
  subst hA
  obtain ⟨b, o, rfl, hc⟩ := ints_cells h (by omega)
  refine ⟨b, o, rfl, ?_⟩
  have := hc j hj
  rwa [List.getD_eq_getElem?_getD, hk] at this
end Go.Proofs.Ytmjedjhgomlfiaa
