/- WordJoins: the words of joined words. -/
import Derived.Test.YtmjedjhgomlfiaaDoorAwake
import Derived.Deep.RegionWith
import Derived.ChangeOld
import Derived.ChangeAgain
import Derived.ShapedOpen
namespace Go.Proofs.YtmjedjhgomlfiaaDoor
open Go.RowKit Go.Proofs.YtmjedjhgomlfiaaDoorW.PrintWords

theorem sp_pieces : ∀ (l p : List UInt8), p ∈ sp l → ∀ b ∈ p, b ≠ 32
  | [], p, h => by simp [sp] at h; subst h; simp
  | b :: l, p, h => by
    by_cases hb : b = 32
    · subst hb
      rw [sp_blank] at h
      rcases List.mem_cons.1 h with h | h
      · subst h; simp
      · exact sp_pieces l p h
    · obtain ⟨q, t, hq⟩ := sp_ne l
      rw [sp_cons hb hq] at h
      rcases List.mem_cons.1 h with h | h
      · subst h
        intro c hc
        rcases List.mem_cons.1 hc with h | h
        · exact h ▸ hb
        · exact sp_pieces l q (by rw [hq]; simp) c h
      · exact sp_pieces l p (by rw [hq]; simp [h])
/-- A text that is its own only word. -/
theorem good_free {x : ByteArray} (h : words x = [x]) : (∀ b ∈ x.data.toList, b ≠ 32) ∧ x.data.toList ≠ [] := by
  rw [words_W, W] at h
  have hm : x ∈ ((sp x.data.toList).filter (fun x => !x.isEmpty)).map ofL := by rw [h]; simp
  obtain ⟨p, hp, he⟩ := List.mem_map.1 hm
  have hp2 := List.mem_filter.1 hp
  have hpx : p = x.data.toList := by rw [← he]; rfl
  subst hpx
  refine ⟨sp_pieces _ _ hp2.1, fun hn => ?_⟩
  have := hp2.2
  rw [hn] at this
  simp at this
theorem words_tail : ∀ (r : List ByteArray) (x : ByteArray), (∀ y ∈ x :: r, words y = [y]) → W (x.data.toList ++ Lib.joinTail [32] (r.map (·.data.toList))) = x :: r
  | [], x, h => by
    have hx := good_free (h x (by simp))
    simp only [Lib.joinTail, List.map_nil, List.flatten_nil, List.append_nil]
    rw [W_free hx.1 hx.2]; rfl
  | y :: r, x, h => by
    have hx := good_free (h x (by simp))
    have hj : Lib.joinTail [32] ((y :: r).map (·.data.toList)) = 32 :: (y.data.toList ++ Lib.joinTail [32] (r.map (·.data.toList))) := by simp [Lib.joinTail]
    rw [hj, W_cut _ hx.1 hx.2, words_tail r y (fun z hz => h z (by simp [List.mem_cons.1 hz]))]
    rfl
theorem words_joined (l : List ByteArray) (h : ∀ y ∈ l, words y = [y]) : words (joined l) = l := by
  rw [words_W, joined, data_ofL]
  cases l with
  | nil => rfl
  | cons x r => rw [List.map_cons, Lib.join_cons]; exact words_tail r x h
theorem join_short (n : Nat) : ∀ (l : List ByteArray), (∀ y ∈ l, y.size ≤ n) → (Lib.join (l.map (·.data.toList)) [32]).length ≤ l.length * (n + 1)
  | [], _ => by simp [Lib.join_nil]
  | x :: r, h => by
    rw [List.map_cons, Lib.join_cons]
    have hx : x.data.toList.length ≤ n := by rw [← Lib.size_eq]; exact h x (by simp)
    have ht : ∀ (r : List ByteArray), (∀ y ∈ r, y.size ≤ n) → (Lib.joinTail [32] (r.map (·.data.toList))).length ≤ r.length * (n + 1) := by
      intro r
      induction r with
      | nil => intro _; simp [Lib.joinTail]
      | cons y r ih =>
        intro h
        have hy : y.data.toList.length ≤ n := by rw [← Lib.size_eq]; exact h y (by simp)
        have hj : Lib.joinTail [32] ((y :: r).map (·.data.toList)) = 32 :: (y.data.toList ++ Lib.joinTail [32] (r.map (·.data.toList))) := by simp [Lib.joinTail]
        have := ih (fun z hz => h z (by simp [hz]))
        rw [hj, List.length_cons, List.length_append, List.length_cons, Nat.succ_mul]
        omega
    have := ht r (fun z hz => h z (by simp [hz]))
    rw [List.length_append, List.length_cons, Nat.succ_mul]
    omega

/-- The reference's Split, opened. -/
theorem refSplit_len (s : ByteArray) (w : World) (hs : s.size < 4294967281) :
    Calls Tryd.prog 16 #[.string s] w fun e w' => ∃ A c, e = .returned (.slice A (words s).length c) ∧ (words s).length ≤ c ∧ Kd.string.C w' A (words s).length (words s) ∧ Below w.heap.size w w' := by
  refine (refSplit_any s w hs).mono ?_
  rintro e w' ⟨v, rfl, hR, hB⟩
  obtain ⟨A, c, rfl, hc, hC⟩ := Kd.R_reads hR
  exact ⟨A, c, rfl, hc, hC, hB⟩
theorem refSplit_one (s y : ByteArray) (w : World) (hs : s.size < 4294967281) (hy : words s = [y]) :
    Calls Tryd.prog 16 #[.string s] w fun e w' => ∃ ad c, e = .returned (.slice (some ad) 1 c) ∧ w'.cell? ad = some (.string y) ∧ Below w.heap.size w w' := by
  refine (refSplit_len s w hs).mono ?_
  rintro e w' ⟨A, c, rfl, hc, hC, hB⟩
  rw [hy] at hC ⊢
  obtain ⟨ad, rfl, h⟩ := hC.2.2 (by simp)
  obtain ⟨cs, h1, h2, h3⟩ := h 0 y rfl
  have h2' : cs = [.string y] := h2
  exact ⟨ad, c, rfl, h3 0 (.string y) (by rw [h2']; rfl), hB⟩
/-- An element of a row of texts. -/
theorem str_at {l : List ByteArray} {w : World} {A : Option Addr} {n : Nat} (h : Kd.string.C w A n l) {j : Nat} {x : ByteArray} (hj : l[j]? = some x) : ∃ ad, A = some ad ∧ w.cell? (ad.add j) = some (.string x) := by
  have hl := (List.getElem?_eq_some_iff.1 hj).1
  obtain ⟨ad, rfl, hc⟩ := h.2.2 (by have := h.1; omega)
  obtain ⟨cs, h1, h2, h3⟩ := hc j x hj
  have h2' : cs = [.string x] := h2
  have := h3 0 (.string x) (by rw [h2']; rfl)
  rw [show j * Kd.string.sz + 0 = j from Nat.mul_one j] at this
  exact ⟨ad, rfl, this⟩

theorem shaped_below {w w' : World} (h : w.ShapedOpen Tryd.prog) (hb : Below w.heap.size w w') : w'.ShapedOpen Tryd.prog :=
  h.keptBut (hb.frame (fun _ => False)) (fun _ h => h.elim)

theorem keepB {w W W2 : World} {a : Addr} {v : Value} (h : Below w.heap.size w W ∧ W.cell? a = some v) (hb : Below W.heap.size W W2) : Below w.heap.size w W2 ∧ W2.cell? a = some v :=
  ⟨below_then h.1 h.1.size hb, pw_cell_below hb h.2⟩
theorem beq_good (y x : ByteArray) : (y.toList == x.toList) = (true && decide ([y] = [x])) := by
  by_cases h : y = x
  · subst h; simp
  · have h2 : ¬ y.toList = x.toList := fun e => h (toList_inj e)
    simp [h, h2]
def allGood (l : List ByteArray) : Bool := l.all (fun x => decide (words x = [x]))
theorem allGood_next {l : List ByteArray} {j : Nat} {x : ByteArray} (h : l[j]? = some x) : allGood (l.take (j + 1)) = (allGood (l.take j) && decide (words x = [x])) := by
  rw [List.take_add_one, h, allGood, List.all_append]
  simp [allGood]

set_option linter.unusedSimpArgs false in
set_option maxRecDepth 100000 in
set_option maxHeartbeats 3200000 in
theorem wordJoins_any (l : List ByteArray) (A : Option Addr) (c : Nat) (w : World) (hL : w.ShapedOpen Tryd.prog) (hA : Kd.string.C w A l.length l) (hc : l.length ≤ c) :
    Calls Tryd.prog 3 #[.slice A l.length c] w fun e w' => e = .returned (.bool true) ∧ Below w.heap.size w w' := by
  go_enter Tryd.func3, Tryd.ntmps3
  have haw := awake_any w hL
  by_cases h50 : l.length ≤ 50
  · go_wp2_with (go_at_call 15; refine haw.mono ?_; rintro e w0 ⟨rfl, hB0⟩)
    go_loopw [4, 3] (fun i v wr => ∃ (j : Nat) (g : Bool), j ≤ l.length ∧ i = .int .i64 j ∧ v = .bool g ∧ Hid (g = allGood (l.take j)) ∧ Hid (∀ x ∈ l.take j, x.size ≤ 100) ∧ Below w.heap.size w wr) (fun i _ _ => l.length - (intOf i).toNat)
    case atStart => exact ⟨0, true, Nat.zero_le _, rfl, rfl, ⟨rfl⟩, ⟨by simp⟩, hB0⟩
    case round =>
      obtain ⟨j, g, hj, rfl, rfl, hG, hS, hB⟩ := hrel
      by_cases hlt : j < l.length
      · obtain ⟨x, hx⟩ : ∃ x, l[j]? = some x := ⟨_, List.getElem?_eq_getElem hlt⟩
        obtain ⟨ad, rfl, hcell⟩ := str_at (Kd.C_below hA hB) hx
        by_cases h100 : x.size ≤ 100
        · have HN := hide_ (allGood_next hx)
          have HS2 : Hid (∀ x ∈ l.take (j + 1), x.size ≤ 100) := ⟨by
            rw [List.take_add_one, hx]
            intro y hy
            rcases List.mem_append.1 hy with h | h
            · exact hS.out y h
            · simp at h; subst h; exact h100⟩
          have hsz : x.size < 4294967281 := by omega
          have hxl := hide_ hx
          clear hx
          cases g with
          | false =>
            go_wp2
            go_quiet (fail)
            go_wp2
            go_roundw
            case rel => exact ⟨j + 1, false, by omega, by go_num, rfl, ⟨by rw [HN.out, ← hG.out]; rfl⟩, HS2, pw_below_drewN hB _⟩
            case measure => simp [intOf]; omega
          | true =>
            by_cases hx0 : x.toList = []
            · go_wp2
              go_quiet (fail)
              go_wp2
              go_roundw
              case rel =>
                have : ¬ words x = [x] := fun h => (good_free h).2 (by rw [← ByteArray.toList_eq]; exact hx0)
                exact ⟨j + 1, false, by omega, by go_num, rfl, ⟨by rw [HN.out, decide_eq_false this, Bool.and_false]⟩, HS2, pw_below_drewN hB _⟩
              case measure => simp [intOf]; omega
            · have hxb : (!x.toList.isEmpty) = true := by simp [hx0]
              by_cases h1 : (words x).length = 1
              · obtain ⟨y, hy⟩ := List.length_eq_one_iff.1 h1
                have HF : Hid ((y.toList == x.toList) = allGood (l.take (j + 1))) := ⟨by rw [HN.out, ← hG.out, hy]; exact beq_good y x⟩
                have hcon := fun W => refSplit_one x y W hsz hy
                clear h1 hy
                go_wp2
                refine wp_region_held_drew (S := fun w' => Below w.heap.size w w' ∧ w'.cell? (ad.add j) = some (.string x)) (by kernel_rfl) ⟨pw_below_drewN hB 1, hcell⟩ (fun hHeld => ?_)
                refine wpAnyH_take (i := 0) (v := ?v0) rfl (by kernel_rfl) (by kernel_rfl) (by kernel_rfl) (fun _ _ _ h => h) (Or.inl ⟨by rfl, ?hy0⟩) (by assumption) ?rest0
                case hy0 =>
                  intro w' hSw
                  dsimp only [List.getElem_toArray, List.getElem_cons_zero, List.getElem_cons_succ] at hSw ⊢
                  go_simp
                  try (with_reducible rfl)
                try simp only [Act.put, List.getElem_toArray, List.getElem_cons_zero, List.getElem_cons_succ, List.setIfInBounds_toArray, List.set_cons_zero, List.set_cons_succ]
                refine wpAnyH_take (i := 1) (v := ?v1) rfl (by kernel_rfl) (by kernel_rfl) (by kernel_rfl) (fun _ _ _ h => h) (Or.inl ⟨by rfl, ?hy1⟩) (by assumption) ?rest1
                case hy1 =>
                  intro w' hSw
                  dsimp only [List.getElem_toArray, List.getElem_cons_zero, List.getElem_cons_succ] at hSw ⊢
                  go_simp
                  try (with_reducible rfl)
                try simp only [Act.put, List.getElem_toArray, List.getElem_cons_zero, List.getElem_cons_succ, List.setIfInBounds_toArray, List.set_cons_zero, List.set_cons_succ]
                refine wpAnyH_take (i := 2) (v := ?v2) rfl (by kernel_rfl) (by kernel_rfl) (by kernel_rfl) (fun _ _ _ h => h) (Or.inl ⟨by rfl, ?hy2⟩) (by assumption) ?rest2
                case hy2 =>
                  intro w' hSw
                  dsimp only [List.getElem_toArray, List.getElem_cons_zero, List.getElem_cons_succ] at hSw ⊢
                  go_simp
                  try (with_reducible rfl)
                try simp only [Act.put, List.getElem_toArray, List.getElem_cons_zero, List.getElem_cons_succ, List.setIfInBounds_toArray, List.set_cons_zero, List.set_cons_succ]
                refine wpAnyH_take (i := 3) (v := ?v3) rfl (by kernel_rfl) (by kernel_rfl) (by kernel_rfl) (fun _ _ _ h => h) (Or.inl ⟨by rfl, ?hy3⟩) (by assumption) ?rest3
                case hy3 =>
                  intro w' hSw
                  dsimp only [List.getElem_toArray, List.getElem_cons_zero, List.getElem_cons_succ] at hSw ⊢
                  go_simp
                  try (with_reducible rfl)
                try simp only [Act.put, List.getElem_toArray, List.getElem_cons_zero, List.getElem_cons_succ, List.setIfInBounds_toArray, List.set_cons_zero, List.set_cons_succ]
                refine wpAnyH_take (i := 4) (v := ?v4) rfl (by kernel_rfl) (by kernel_rfl) (by kernel_rfl) (fun _ _ _ h => h) (Or.inl ⟨by rfl, ?hy4⟩) (by assumption) ?rest4
                case hy4 =>
                  intro w' hSw
                  dsimp only [List.getElem_toArray, List.getElem_cons_zero, List.getElem_cons_succ] at hSw ⊢
                  go_simp
                  try (with_reducible rfl)
                try simp only [Act.put, List.getElem_toArray, List.getElem_cons_zero, List.getElem_cons_succ, List.setIfInBounds_toArray, List.set_cons_zero, List.set_cons_succ]
                refine wpAnyH_take (i := 5) (v := ?v5) rfl (by kernel_rfl) (by kernel_rfl) (by kernel_rfl) (fun _ _ _ h => h) (Or.inl ⟨by rfl, ?hy5⟩) (by assumption) ?rest5
                case hy5 =>
                  intro w' hSw
                  dsimp only [List.getElem_toArray, List.getElem_cons_zero, List.getElem_cons_succ] at hSw ⊢
                  go_simp
                  try (with_reducible rfl)
                try simp only [Act.put, List.getElem_toArray, List.getElem_cons_zero, List.getElem_cons_succ, List.setIfInBounds_toArray, List.set_cons_zero, List.set_cons_succ]
                refine wpAnyH_take (i := 6) (v := ?v6) rfl (by kernel_rfl) (by kernel_rfl) (by kernel_rfl) (fun _ _ _ h => h) (Or.inl ⟨by rfl, ?hy6⟩) (by assumption) ?rest6
                case hy6 =>
                  intro w' hSw
                  dsimp only [List.getElem_toArray, List.getElem_cons_zero, List.getElem_cons_succ] at hSw ⊢
                  go_simp
                  try (with_reducible rfl)
                try simp only [Act.put, List.getElem_toArray, List.getElem_cons_zero, List.getElem_cons_succ, List.setIfInBounds_toArray, List.set_cons_zero, List.set_cons_succ]
                refine wpAnyH_take (i := 7) (v := ?v7) rfl (by kernel_rfl) (by kernel_rfl) (by kernel_rfl) (fun _ _ _ h => h) (Or.inl ⟨by rfl, ?hy7⟩) (by assumption) ?rest7
                case hy7 =>
                  intro w' hSw
                  dsimp only [List.getElem_toArray, List.getElem_cons_zero, List.getElem_cons_succ] at hSw ⊢
                  go_simp
                  try (with_reducible rfl)
                try simp only [Act.put, List.getElem_toArray, List.getElem_cons_zero, List.getElem_cons_succ, List.setIfInBounds_toArray, List.set_cons_zero, List.set_cons_succ]
                refine wpAnyH_take (i := 8) (v := ?v8) rfl (by kernel_rfl) (by kernel_rfl) (by kernel_rfl) (fun _ _ _ h => h) (Or.inl ⟨by rfl, ?hy8⟩) (by assumption) ?rest8
                case hy8 =>
                  intro w' hSw
                  dsimp only [List.getElem_toArray, List.getElem_cons_zero, List.getElem_cons_succ] at hSw ⊢
                  go_simp
                  try (with_reducible rfl)
                try simp only [Act.put, List.getElem_toArray, List.getElem_cons_zero, List.getElem_cons_succ, List.setIfInBounds_toArray, List.set_cons_zero, List.set_cons_succ]
                refine wpAnyH_take (i := 9) (v := ?v9) rfl (by kernel_rfl) (by kernel_rfl) (by kernel_rfl) (fun _ _ _ h => h) (Or.inl ⟨by rfl, ?hy9⟩) (by assumption) ?rest9
                case hy9 =>
                  intro w' hSw
                  dsimp only [List.getElem_toArray, List.getElem_cons_zero, List.getElem_cons_succ] at hSw ⊢
                  go_simp
                  try (with_reducible rfl)
                try simp only [Act.put, List.getElem_toArray, List.getElem_cons_zero, List.getElem_cons_succ, List.setIfInBounds_toArray, List.set_cons_zero, List.set_cons_succ]
                refine wpAnyH_take (i := 10) (v := ?v10) rfl (by kernel_rfl) (by kernel_rfl) (by kernel_rfl) (fun _ _ _ h => h) (Or.inl ⟨by rfl, ?hy10⟩) (by assumption) ?rest10
                case hy10 =>
                  intro w' hSw
                  dsimp only [List.getElem_toArray, List.getElem_cons_zero, List.getElem_cons_succ] at hSw ⊢
                  go_simp
                  try (with_reducible rfl)
                try simp only [Act.put, List.getElem_toArray, List.getElem_cons_zero, List.getElem_cons_succ, List.setIfInBounds_toArray, List.set_cons_zero, List.set_cons_succ]
                refine wpAnyH_take (i := 11) (v := ?v11) rfl (by kernel_rfl) (by kernel_rfl) (by kernel_rfl) (fun _ _ _ h => h) (Or.inl ⟨by rfl, ?hy11⟩) (by assumption) ?rest11
                case hy11 =>
                  intro w' hSw
                  dsimp only [List.getElem_toArray, List.getElem_cons_zero, List.getElem_cons_succ] at hSw ⊢
                  go_simp
                  try (with_reducible rfl)
                try simp only [Act.put, List.getElem_toArray, List.getElem_cons_zero, List.getElem_cons_succ, List.setIfInBounds_toArray, List.set_cons_zero, List.set_cons_succ]
                refine wpAnyH_take (i := 12) (v := ?v12) rfl (by kernel_rfl) (by kernel_rfl) (by kernel_rfl) (fun _ _ _ h => h) (Or.inl ⟨by rfl, ?hy12⟩) (by assumption) ?rest12
                case hy12 =>
                  intro w' hSw
                  dsimp only [List.getElem_toArray, List.getElem_cons_zero, List.getElem_cons_succ] at hSw ⊢
                  go_simp
                  try (with_reducible rfl)
                try simp only [Act.put, List.getElem_toArray, List.getElem_cons_zero, List.getElem_cons_succ, List.setIfInBounds_toArray, List.set_cons_zero, List.set_cons_succ]
                refine wpAnyH_ready (rs := [13]) (by kernel_rfl) (by simp) ?_
                refine AllReadyH.cons rfl (fun K hK => ?_) AllReadyH.nil
                dsimp only [List.getElem_toArray, List.getElem_cons_zero, List.getElem_cons_succ]
                first | go_at_call 16 | (rw [if_pos (by rfl)]; go_at_call 16) | (rw [if_pos (by rfl)]; go_simp; go_at_call 16)
                refine (hcon _).mono ?_
                rintro e w2 ⟨ad2, c2, rfl, hc2, hB2⟩
                have hH2 := keepB hHeld hB2
                dsimp only
                refine hK.out _ _ hH2 (fun hHeld2 => ?_)
                clear hK hH2 hHeld
                try simp only [Act.put, List.getElem_toArray, List.getElem_cons_zero, List.getElem_cons_succ, List.setIfInBounds_toArray, List.set_cons_zero, List.set_cons_succ]
                refine wpAnyH_take (i := 14) (v := ?v14) rfl (by kernel_rfl) (by kernel_rfl) (by kernel_rfl) (fun _ _ _ h => h) (Or.inl ⟨by rfl, ?hy14⟩) (by assumption) ?rest14
                case hy14 =>
                  intro w' hSw
                  dsimp only [List.getElem_toArray, List.getElem_cons_zero, List.getElem_cons_succ] at hSw ⊢
                  go_simp
                  try (with_reducible rfl)
                try simp only [Act.put, List.getElem_toArray, List.getElem_cons_zero, List.getElem_cons_succ, List.setIfInBounds_toArray, List.set_cons_zero, List.set_cons_succ]
                refine wpAnyH_take (i := 15) (v := ?v15) rfl (by kernel_rfl) (by kernel_rfl) (by kernel_rfl) (fun _ _ _ h => h) (Or.inl ⟨by rfl, ?hy15⟩) (by assumption) ?rest15
                case hy15 =>
                  intro w' hSw
                  dsimp only [List.getElem_toArray, List.getElem_cons_zero, List.getElem_cons_succ] at hSw ⊢
                  go_simp
                  try (with_reducible rfl)
                try simp only [Act.put, List.getElem_toArray, List.getElem_cons_zero, List.getElem_cons_succ, List.setIfInBounds_toArray, List.set_cons_zero, List.set_cons_succ]
                refine wpAnyH_take (i := 16) (v := ?v16) rfl (by kernel_rfl) (by kernel_rfl) (by kernel_rfl) (fun _ _ _ h => h) (Or.inl ⟨by rfl, ?hy16⟩) (by assumption) ?rest16
                case hy16 =>
                  intro w' hSw
                  dsimp only [List.getElem_toArray, List.getElem_cons_zero, List.getElem_cons_succ] at hSw ⊢
                  go_simp
                  try (with_reducible rfl)
                try simp only [Act.put, List.getElem_toArray, List.getElem_cons_zero, List.getElem_cons_succ, List.setIfInBounds_toArray, List.set_cons_zero, List.set_cons_succ]
                refine wpAnyH_take (i := 17) (v := ?v17) rfl (by kernel_rfl) (by kernel_rfl) (by kernel_rfl) (fun _ _ _ h => h) (Or.inl ⟨by rfl, ?hy17⟩) (by assumption) ?rest17
                case hy17 =>
                  intro w' hSw
                  dsimp only [List.getElem_toArray, List.getElem_cons_zero, List.getElem_cons_succ] at hSw ⊢
                  go_simp
                  try (with_reducible rfl)
                try simp only [Act.put, List.getElem_toArray, List.getElem_cons_zero, List.getElem_cons_succ, List.setIfInBounds_toArray, List.set_cons_zero, List.set_cons_succ]
                refine wpAnyH_take (i := 18) (v := ?v18) rfl (by kernel_rfl) (by kernel_rfl) (by kernel_rfl) (fun _ _ _ h => h) (Or.inl ⟨by rfl, ?hy18⟩) (by assumption) ?rest18
                case hy18 =>
                  intro w' hSw
                  dsimp only [List.getElem_toArray, List.getElem_cons_zero, List.getElem_cons_succ] at hSw ⊢
                  go_simp
                  try (with_reducible rfl)
                try simp only [Act.put, List.getElem_toArray, List.getElem_cons_zero, List.getElem_cons_succ, List.setIfInBounds_toArray, List.set_cons_zero, List.set_cons_succ]
                refine wpAnyH_take (i := 19) (v := ?v19) rfl (by kernel_rfl) (by kernel_rfl) (by kernel_rfl) (fun _ _ _ h => h) (Or.inl ⟨by rfl, ?hy19⟩) (by assumption) ?rest19
                case hy19 =>
                  intro w' hSw
                  dsimp only [List.getElem_toArray, List.getElem_cons_zero, List.getElem_cons_succ] at hSw ⊢
                  go_simp
                  try (with_reducible rfl)
                try simp only [Act.put, List.getElem_toArray, List.getElem_cons_zero, List.getElem_cons_succ, List.setIfInBounds_toArray, List.set_cons_zero, List.set_cons_succ]
                refine wpAnyH_take (i := 20) (v := ?v20) rfl (by kernel_rfl) (by kernel_rfl) (by kernel_rfl) (fun _ _ _ h => h) (Or.inl ⟨by rfl, ?hy20⟩) (by assumption) ?rest20
                case hy20 =>
                  intro w' hSw
                  dsimp only [List.getElem_toArray, List.getElem_cons_zero, List.getElem_cons_succ] at hSw ⊢
                  go_simp
                  try (with_reducible rfl)
                try simp only [Act.put, List.getElem_toArray, List.getElem_cons_zero, List.getElem_cons_succ, List.setIfInBounds_toArray, List.set_cons_zero, List.set_cons_succ]
                refine wpAnyH_take (i := 21) (v := ?v21) rfl (by kernel_rfl) (by kernel_rfl) (by kernel_rfl) (fun _ _ _ h => h) (Or.inl ⟨by rfl, ?hy21⟩) (by assumption) ?rest21
                case hy21 =>
                  intro w' hSw
                  dsimp only [List.getElem_toArray, List.getElem_cons_zero, List.getElem_cons_succ] at hSw ⊢
                  go_simp
                  try (with_reducible rfl)
                try simp only [Act.put, List.getElem_toArray, List.getElem_cons_zero, List.getElem_cons_succ, List.setIfInBounds_toArray, List.set_cons_zero, List.set_cons_succ]
                refine wpAnyH_take (i := 25) (v := ?v25) rfl (by kernel_rfl) (by kernel_rfl) (by kernel_rfl) (fun _ _ _ h => h) (Or.inl ⟨by rfl, ?hy25⟩) (by assumption) ?rest25
                case hy25 =>
                  intro w' hSw
                  dsimp only [List.getElem_toArray, List.getElem_cons_zero, List.getElem_cons_succ] at hSw ⊢
                  go_simp
                  try (with_reducible rfl)
                try simp only [Act.put, List.getElem_toArray, List.getElem_cons_zero, List.getElem_cons_succ, List.setIfInBounds_toArray, List.set_cons_zero, List.set_cons_succ]
                refine wpAnyH_take (i := 26) (v := ?v26) rfl (by kernel_rfl) (by kernel_rfl) (by kernel_rfl) (fun _ _ _ h => h) (Or.inl ⟨by rfl, ?hy26⟩) (by assumption) ?rest26
                case hy26 =>
                  intro w' hSw
                  dsimp only [List.getElem_toArray, List.getElem_cons_zero, List.getElem_cons_succ] at hSw ⊢
                  go_simp
                  try (with_reducible rfl)
                try simp only [Act.put, List.getElem_toArray, List.getElem_cons_zero, List.getElem_cons_succ, List.setIfInBounds_toArray, List.set_cons_zero, List.set_cons_succ]
                refine wpAnyH_take (i := 27) (v := ?v27) rfl (by kernel_rfl) (by kernel_rfl) (by kernel_rfl) (fun _ _ _ h => h) (Or.inl ⟨by rfl, ?hy27⟩) (by assumption) ?rest27
                case hy27 =>
                  intro w' hSw
                  dsimp only [List.getElem_toArray, List.getElem_cons_zero, List.getElem_cons_succ] at hSw ⊢
                  go_simp
                  try (with_reducible rfl)
                try simp only [Act.put, List.getElem_toArray, List.getElem_cons_zero, List.getElem_cons_succ, List.setIfInBounds_toArray, List.set_cons_zero, List.set_cons_succ]
                refine wpAnyH_take (i := 28) (v := ?v28) rfl (by kernel_rfl) (by kernel_rfl) (by kernel_rfl) (fun _ _ _ h => h) (Or.inl ⟨by rfl, ?hy28⟩) (by assumption) ?rest28
                case hy28 =>
                  intro w' hSw
                  dsimp only [List.getElem_toArray, List.getElem_cons_zero, List.getElem_cons_succ] at hSw ⊢
                  go_simp
                  try (with_reducible rfl)
                try simp only [Act.put, List.getElem_toArray, List.getElem_cons_zero, List.getElem_cons_succ, List.setIfInBounds_toArray, List.set_cons_zero, List.set_cons_succ]
                refine wpAnyH_ready (rs := [22]) (by kernel_rfl) (by simp) ?_
                refine AllReadyH.cons rfl (fun K hK => ?_) AllReadyH.nil
                dsimp only [List.getElem_toArray, List.getElem_cons_zero, List.getElem_cons_succ]
                first | go_at_call 16 | (rw [if_pos (by rfl)]; go_at_call 16) | (rw [if_pos (by rfl)]; go_simp; go_at_call 16)
                refine (hcon _).mono ?_
                rintro e w3 ⟨ad3, c3, rfl, hc3, hB3⟩
                have hH3 := keepB hHeld2 hB3
                dsimp only
                refine hK.out _ _ hH3 (fun hHeld3 => ?_)
                clear hK hH3 hHeld2
                try simp only [Act.put, List.getElem_toArray, List.getElem_cons_zero, List.getElem_cons_succ, List.setIfInBounds_toArray, List.set_cons_zero, List.set_cons_succ]
                refine wpAnyH_take (i := 23) (v := ?v23) rfl (by kernel_rfl) (by kernel_rfl) (by kernel_rfl) (fun _ _ _ h => h) (Or.inl ⟨by rfl, ?hy23⟩) (by assumption) ?rest23
                case hy23 =>
                  intro w' hSw
                  dsimp only [List.getElem_toArray, List.getElem_cons_zero, List.getElem_cons_succ] at hSw ⊢
                  go_simp
                  try (with_reducible rfl)
                try simp only [Act.put, List.getElem_toArray, List.getElem_cons_zero, List.getElem_cons_succ, List.setIfInBounds_toArray, List.set_cons_zero, List.set_cons_succ]
                refine wpAnyH_ready (rs := [24]) (by kernel_rfl) (by simp) ?_
                refine AllReadyH.cons rfl (fun K hK => ?_) AllReadyH.nil
                dsimp only [List.getElem_toArray, List.getElem_cons_zero, List.getElem_cons_succ]
                rw [if_pos (by rfl)]
                go_simp
                refine hK.out _ _ hHeld3 (fun hHeld4 => ?_)
                clear hK hHeld3
                try simp only [Act.put, List.getElem_toArray, List.getElem_cons_zero, List.getElem_cons_succ, List.setIfInBounds_toArray, List.set_cons_zero, List.set_cons_succ]
                refine wpAnyH_take (i := 29) (v := ?v29) rfl (by kernel_rfl) (by kernel_rfl) (by kernel_rfl) (fun _ _ _ h => h) (Or.inl ⟨by rfl, ?hy29⟩) (by assumption) ?rest29
                case hy29 =>
                  intro w' hSw
                  dsimp only [List.getElem_toArray, List.getElem_cons_zero, List.getElem_cons_succ] at hSw ⊢
                  go_simp
                  try (with_reducible rfl)
                try simp only [Act.put, List.getElem_toArray, List.getElem_cons_zero, List.getElem_cons_succ, List.setIfInBounds_toArray, List.set_cons_zero, List.set_cons_succ]
                refine wpAnyH_take (i := 30) (v := ?v30) rfl (by kernel_rfl) (by kernel_rfl) (by kernel_rfl) (fun _ _ _ h => h) (Or.inl ⟨by rfl, ?hy30⟩) (by assumption) ?rest30
                case hy30 =>
                  intro w' hSw
                  dsimp only [List.getElem_toArray, List.getElem_cons_zero, List.getElem_cons_succ] at hSw ⊢
                  go_simp
                  try (with_reducible rfl)
                try simp only [Act.put, List.getElem_toArray, List.getElem_cons_zero, List.getElem_cons_succ, List.setIfInBounds_toArray, List.set_cons_zero, List.set_cons_succ]
                refine wpAnyH_take (i := 31) (v := ?v31) rfl (by kernel_rfl) (by kernel_rfl) (by kernel_rfl) (fun _ _ _ h => h) (Or.inl ⟨by rfl, ?hy31⟩) (by assumption) ?rest31
                case hy31 =>
                  intro w' hSw
                  dsimp only [List.getElem_toArray, List.getElem_cons_zero, List.getElem_cons_succ] at hSw ⊢
                  go_simp
                  try (with_reducible rfl)
                try simp only [Act.put, List.getElem_toArray, List.getElem_cons_zero, List.getElem_cons_succ, List.setIfInBounds_toArray, List.set_cons_zero, List.set_cons_succ]
                refine wpAnyH_done (by kernel_rfl) ?_ _
                go_wp2
                go_roundw
                case rel => exact ⟨j + 1, _, by omega, by go_num, rfl, HF, HS2, by apply And.left; assumption⟩
                case measure => simp [intOf]; omega
              · have HF : Hid (false = allGood (l.take (j + 1))) := ⟨by rw [HN.out, decide_eq_false (fun h => h1 (by rw [h]; rfl)), Bool.and_false]⟩
                have h1b : (((words x).length : Int) == 1) = false := by rw [beq_eq_false_iff_ne]; omega
                have hcon := fun W => refSplit_len x W hsz
                clear h1
                generalize (words x).length = n at *
                go_wp2
                refine wp_region_held_drew (S := fun w' => Below w.heap.size w w' ∧ w'.cell? (ad.add j) = some (.string x)) (by kernel_rfl) ⟨pw_below_drewN hB 1, hcell⟩ (fun hHeld => ?_)
                refine wpAnyH_take (i := 0) (v := ?w0) rfl (by kernel_rfl) (by kernel_rfl) (by kernel_rfl) (fun _ _ _ h => h) (Or.inl ⟨by rfl, ?hz0⟩) (by assumption) ?rst0
                case hz0 =>
                  intro w' hSw
                  dsimp only [List.getElem_toArray, List.getElem_cons_zero, List.getElem_cons_succ] at hSw ⊢
                  go_simp
                  try (with_reducible rfl)
                try simp only [Act.put, List.getElem_toArray, List.getElem_cons_zero, List.getElem_cons_succ, List.setIfInBounds_toArray, List.set_cons_zero, List.set_cons_succ]
                refine wpAnyH_take (i := 1) (v := ?w1) rfl (by kernel_rfl) (by kernel_rfl) (by kernel_rfl) (fun _ _ _ h => h) (Or.inl ⟨by rfl, ?hz1⟩) (by assumption) ?rst1
                case hz1 =>
                  intro w' hSw
                  dsimp only [List.getElem_toArray, List.getElem_cons_zero, List.getElem_cons_succ] at hSw ⊢
                  go_simp
                  try (with_reducible rfl)
                try simp only [Act.put, List.getElem_toArray, List.getElem_cons_zero, List.getElem_cons_succ, List.setIfInBounds_toArray, List.set_cons_zero, List.set_cons_succ]
                refine wpAnyH_take (i := 2) (v := ?w2) rfl (by kernel_rfl) (by kernel_rfl) (by kernel_rfl) (fun _ _ _ h => h) (Or.inl ⟨by rfl, ?hz2⟩) (by assumption) ?rst2
                case hz2 =>
                  intro w' hSw
                  dsimp only [List.getElem_toArray, List.getElem_cons_zero, List.getElem_cons_succ] at hSw ⊢
                  go_simp
                  try (with_reducible rfl)
                try simp only [Act.put, List.getElem_toArray, List.getElem_cons_zero, List.getElem_cons_succ, List.setIfInBounds_toArray, List.set_cons_zero, List.set_cons_succ]
                refine wpAnyH_take (i := 3) (v := ?w3) rfl (by kernel_rfl) (by kernel_rfl) (by kernel_rfl) (fun _ _ _ h => h) (Or.inl ⟨by rfl, ?hz3⟩) (by assumption) ?rst3
                case hz3 =>
                  intro w' hSw
                  dsimp only [List.getElem_toArray, List.getElem_cons_zero, List.getElem_cons_succ] at hSw ⊢
                  go_simp
                  try (with_reducible rfl)
                try simp only [Act.put, List.getElem_toArray, List.getElem_cons_zero, List.getElem_cons_succ, List.setIfInBounds_toArray, List.set_cons_zero, List.set_cons_succ]
                refine wpAnyH_take (i := 4) (v := ?w4) rfl (by kernel_rfl) (by kernel_rfl) (by kernel_rfl) (fun _ _ _ h => h) (Or.inl ⟨by rfl, ?hz4⟩) (by assumption) ?rst4
                case hz4 =>
                  intro w' hSw
                  dsimp only [List.getElem_toArray, List.getElem_cons_zero, List.getElem_cons_succ] at hSw ⊢
                  go_simp
                  try (with_reducible rfl)
                try simp only [Act.put, List.getElem_toArray, List.getElem_cons_zero, List.getElem_cons_succ, List.setIfInBounds_toArray, List.set_cons_zero, List.set_cons_succ]
                refine wpAnyH_take (i := 5) (v := ?w5) rfl (by kernel_rfl) (by kernel_rfl) (by kernel_rfl) (fun _ _ _ h => h) (Or.inl ⟨by rfl, ?hz5⟩) (by assumption) ?rst5
                case hz5 =>
                  intro w' hSw
                  dsimp only [List.getElem_toArray, List.getElem_cons_zero, List.getElem_cons_succ] at hSw ⊢
                  go_simp
                  try (with_reducible rfl)
                try simp only [Act.put, List.getElem_toArray, List.getElem_cons_zero, List.getElem_cons_succ, List.setIfInBounds_toArray, List.set_cons_zero, List.set_cons_succ]
                refine wpAnyH_take (i := 6) (v := ?w6) rfl (by kernel_rfl) (by kernel_rfl) (by kernel_rfl) (fun _ _ _ h => h) (Or.inl ⟨by rfl, ?hz6⟩) (by assumption) ?rst6
                case hz6 =>
                  intro w' hSw
                  dsimp only [List.getElem_toArray, List.getElem_cons_zero, List.getElem_cons_succ] at hSw ⊢
                  go_simp
                  try (with_reducible rfl)
                try simp only [Act.put, List.getElem_toArray, List.getElem_cons_zero, List.getElem_cons_succ, List.setIfInBounds_toArray, List.set_cons_zero, List.set_cons_succ]
                refine wpAnyH_take (i := 7) (v := ?w7) rfl (by kernel_rfl) (by kernel_rfl) (by kernel_rfl) (fun _ _ _ h => h) (Or.inl ⟨by rfl, ?hz7⟩) (by assumption) ?rst7
                case hz7 =>
                  intro w' hSw
                  dsimp only [List.getElem_toArray, List.getElem_cons_zero, List.getElem_cons_succ] at hSw ⊢
                  go_simp
                  try (with_reducible rfl)
                try simp only [Act.put, List.getElem_toArray, List.getElem_cons_zero, List.getElem_cons_succ, List.setIfInBounds_toArray, List.set_cons_zero, List.set_cons_succ]
                refine wpAnyH_take (i := 8) (v := ?w8) rfl (by kernel_rfl) (by kernel_rfl) (by kernel_rfl) (fun _ _ _ h => h) (Or.inl ⟨by rfl, ?hz8⟩) (by assumption) ?rst8
                case hz8 =>
                  intro w' hSw
                  dsimp only [List.getElem_toArray, List.getElem_cons_zero, List.getElem_cons_succ] at hSw ⊢
                  go_simp
                  try (with_reducible rfl)
                try simp only [Act.put, List.getElem_toArray, List.getElem_cons_zero, List.getElem_cons_succ, List.setIfInBounds_toArray, List.set_cons_zero, List.set_cons_succ]
                refine wpAnyH_take (i := 9) (v := ?w9) rfl (by kernel_rfl) (by kernel_rfl) (by kernel_rfl) (fun _ _ _ h => h) (Or.inl ⟨by rfl, ?hz9⟩) (by assumption) ?rst9
                case hz9 =>
                  intro w' hSw
                  dsimp only [List.getElem_toArray, List.getElem_cons_zero, List.getElem_cons_succ] at hSw ⊢
                  go_simp
                  try (with_reducible rfl)
                try simp only [Act.put, List.getElem_toArray, List.getElem_cons_zero, List.getElem_cons_succ, List.setIfInBounds_toArray, List.set_cons_zero, List.set_cons_succ]
                refine wpAnyH_take (i := 10) (v := ?w10) rfl (by kernel_rfl) (by kernel_rfl) (by kernel_rfl) (fun _ _ _ h => h) (Or.inl ⟨by rfl, ?hz10⟩) (by assumption) ?rst10
                case hz10 =>
                  intro w' hSw
                  dsimp only [List.getElem_toArray, List.getElem_cons_zero, List.getElem_cons_succ] at hSw ⊢
                  go_simp
                  try (with_reducible rfl)
                try simp only [Act.put, List.getElem_toArray, List.getElem_cons_zero, List.getElem_cons_succ, List.setIfInBounds_toArray, List.set_cons_zero, List.set_cons_succ]
                refine wpAnyH_take (i := 11) (v := ?w11) rfl (by kernel_rfl) (by kernel_rfl) (by kernel_rfl) (fun _ _ _ h => h) (Or.inl ⟨by rfl, ?hz11⟩) (by assumption) ?rst11
                case hz11 =>
                  intro w' hSw
                  dsimp only [List.getElem_toArray, List.getElem_cons_zero, List.getElem_cons_succ] at hSw ⊢
                  go_simp
                  try (with_reducible rfl)
                try simp only [Act.put, List.getElem_toArray, List.getElem_cons_zero, List.getElem_cons_succ, List.setIfInBounds_toArray, List.set_cons_zero, List.set_cons_succ]
                refine wpAnyH_take (i := 12) (v := ?w12) rfl (by kernel_rfl) (by kernel_rfl) (by kernel_rfl) (fun _ _ _ h => h) (Or.inl ⟨by rfl, ?hz12⟩) (by assumption) ?rst12
                case hz12 =>
                  intro w' hSw
                  dsimp only [List.getElem_toArray, List.getElem_cons_zero, List.getElem_cons_succ] at hSw ⊢
                  go_simp
                  try (with_reducible rfl)
                try simp only [Act.put, List.getElem_toArray, List.getElem_cons_zero, List.getElem_cons_succ, List.setIfInBounds_toArray, List.set_cons_zero, List.set_cons_succ]
                refine wpAnyH_ready (rs := [13]) (by kernel_rfl) (by simp) ?_
                refine AllReadyH.cons rfl (fun K hK => ?_) AllReadyH.nil
                dsimp only [List.getElem_toArray, List.getElem_cons_zero, List.getElem_cons_succ]
                first | go_at_call 16 | (rw [if_pos (by rfl)]; go_at_call 16) | (rw [if_pos (by rfl)]; go_simp; go_at_call 16)
                refine (hcon _).mono ?_
                rintro e w2 ⟨ad2, c2, rfl, hc2, hD2, hB2⟩
                have hH2 := keepB hHeld hB2
                dsimp only
                refine hK.out _ _ hH2 (fun hHeld2 => ?_)
                clear hK hHeld
                try simp only [Act.put, List.getElem_toArray, List.getElem_cons_zero, List.getElem_cons_succ, List.setIfInBounds_toArray, List.set_cons_zero, List.set_cons_succ]
                refine wpAnyH_take (i := 14) (v := ?w14) rfl (by kernel_rfl) (by kernel_rfl) (by kernel_rfl) (fun _ _ _ h => h) (Or.inl ⟨by rfl, ?hz14⟩) (by assumption) ?rst14
                case hz14 =>
                  intro w' hSw
                  dsimp only [List.getElem_toArray, List.getElem_cons_zero, List.getElem_cons_succ] at hSw ⊢
                  go_simp
                  try (with_reducible rfl)
                try simp only [Act.put, List.getElem_toArray, List.getElem_cons_zero, List.getElem_cons_succ, List.setIfInBounds_toArray, List.set_cons_zero, List.set_cons_succ]
                refine wpAnyH_take (i := 15) (v := ?w15) rfl (by kernel_rfl) (by kernel_rfl) (by kernel_rfl) (fun _ _ _ h => h) (Or.inl ⟨by rfl, ?hz15⟩) (by assumption) ?rst15
                case hz15 =>
                  intro w' hSw
                  dsimp only [List.getElem_toArray, List.getElem_cons_zero, List.getElem_cons_succ] at hSw ⊢
                  go_simp
                  try (with_reducible rfl)
                try simp only [Act.put, List.getElem_toArray, List.getElem_cons_zero, List.getElem_cons_succ, List.setIfInBounds_toArray, List.set_cons_zero, List.set_cons_succ]
                refine wpAnyH_take (i := 16) (v := ?w16) rfl (by kernel_rfl) (by kernel_rfl) (by kernel_rfl) (fun _ _ _ h => h) (Or.inl ⟨by rfl, ?hz16⟩) (by assumption) ?rst16
                case hz16 =>
                  intro w' hSw
                  dsimp only [List.getElem_toArray, List.getElem_cons_zero, List.getElem_cons_succ] at hSw ⊢
                  go_simp
                  try (with_reducible rfl)
                try simp only [Act.put, List.getElem_toArray, List.getElem_cons_zero, List.getElem_cons_succ, List.setIfInBounds_toArray, List.set_cons_zero, List.set_cons_succ]
                refine wpAnyH_take (i := 17) (v := ?w17) rfl (by kernel_rfl) (by kernel_rfl) (by kernel_rfl) (fun _ _ _ h => h) (Or.inl ⟨by rfl, ?hz17⟩) (by assumption) ?rst17
                case hz17 =>
                  intro w' hSw
                  dsimp only [List.getElem_toArray, List.getElem_cons_zero, List.getElem_cons_succ] at hSw ⊢
                  go_simp
                  try (with_reducible rfl)
                try simp only [Act.put, List.getElem_toArray, List.getElem_cons_zero, List.getElem_cons_succ, List.setIfInBounds_toArray, List.set_cons_zero, List.set_cons_succ]
                refine wpAnyH_take (i := 18) (v := undef) rfl (by kernel_rfl) (by kernel_rfl) (by kernel_rfl) (fun _ _ _ h => h) (Or.inr ⟨by rfl, rfl⟩) (by assumption) ?_
                try simp only [Act.put, List.getElem_toArray, List.getElem_cons_zero, List.getElem_cons_succ, List.setIfInBounds_toArray, List.set_cons_zero, List.set_cons_succ]
                refine wpAnyH_take (i := 19) (v := undef) rfl (by kernel_rfl) (by kernel_rfl) (by kernel_rfl) (fun _ _ _ h => h) (Or.inr ⟨by rfl, rfl⟩) (by assumption) ?_
                try simp only [Act.put, List.getElem_toArray, List.getElem_cons_zero, List.getElem_cons_succ, List.setIfInBounds_toArray, List.set_cons_zero, List.set_cons_succ]
                refine wpAnyH_take (i := 20) (v := undef) rfl (by kernel_rfl) (by kernel_rfl) (by kernel_rfl) (fun _ _ _ h => h) (Or.inr ⟨by rfl, rfl⟩) (by assumption) ?_
                try simp only [Act.put, List.getElem_toArray, List.getElem_cons_zero, List.getElem_cons_succ, List.setIfInBounds_toArray, List.set_cons_zero, List.set_cons_succ]
                refine wpAnyH_take (i := 21) (v := undef) rfl (by kernel_rfl) (by kernel_rfl) (by kernel_rfl) (fun _ _ _ h => h) (Or.inr ⟨by rfl, rfl⟩) (by assumption) ?_
                try simp only [Act.put, List.getElem_toArray, List.getElem_cons_zero, List.getElem_cons_succ, List.setIfInBounds_toArray, List.set_cons_zero, List.set_cons_succ]
                refine wpAnyH_take (i := 22) (v := undef) rfl (by kernel_rfl) (by kernel_rfl) (by kernel_rfl) (fun _ _ _ h => h) (Or.inr ⟨by rfl, rfl⟩) (by assumption) ?_
                try simp only [Act.put, List.getElem_toArray, List.getElem_cons_zero, List.getElem_cons_succ, List.setIfInBounds_toArray, List.set_cons_zero, List.set_cons_succ]
                refine wpAnyH_take (i := 23) (v := undef) rfl (by kernel_rfl) (by kernel_rfl) (by kernel_rfl) (fun _ _ _ h => h) (Or.inr ⟨by rfl, rfl⟩) (by assumption) ?_
                try simp only [Act.put, List.getElem_toArray, List.getElem_cons_zero, List.getElem_cons_succ, List.setIfInBounds_toArray, List.set_cons_zero, List.set_cons_succ]
                refine wpAnyH_take (i := 24) (v := undef) rfl (by kernel_rfl) (by kernel_rfl) (by kernel_rfl) (fun _ _ _ h => h) (Or.inr ⟨by rfl, rfl⟩) (by assumption) ?_
                try simp only [Act.put, List.getElem_toArray, List.getElem_cons_zero, List.getElem_cons_succ, List.setIfInBounds_toArray, List.set_cons_zero, List.set_cons_succ]
                refine wpAnyH_take (i := 25) (v := undef) rfl (by kernel_rfl) (by kernel_rfl) (by kernel_rfl) (fun _ _ _ h => h) (Or.inr ⟨by rfl, rfl⟩) (by assumption) ?_
                try simp only [Act.put, List.getElem_toArray, List.getElem_cons_zero, List.getElem_cons_succ, List.setIfInBounds_toArray, List.set_cons_zero, List.set_cons_succ]
                refine wpAnyH_take (i := 26) (v := undef) rfl (by kernel_rfl) (by kernel_rfl) (by kernel_rfl) (fun _ _ _ h => h) (Or.inr ⟨by rfl, rfl⟩) (by assumption) ?_
                try simp only [Act.put, List.getElem_toArray, List.getElem_cons_zero, List.getElem_cons_succ, List.setIfInBounds_toArray, List.set_cons_zero, List.set_cons_succ]
                refine wpAnyH_take (i := 27) (v := undef) rfl (by kernel_rfl) (by kernel_rfl) (by kernel_rfl) (fun _ _ _ h => h) (Or.inr ⟨by rfl, rfl⟩) (by assumption) ?_
                try simp only [Act.put, List.getElem_toArray, List.getElem_cons_zero, List.getElem_cons_succ, List.setIfInBounds_toArray, List.set_cons_zero, List.set_cons_succ]
                refine wpAnyH_take (i := 28) (v := undef) rfl (by kernel_rfl) (by kernel_rfl) (by kernel_rfl) (fun _ _ _ h => h) (Or.inr ⟨by rfl, rfl⟩) (by assumption) ?_
                try simp only [Act.put, List.getElem_toArray, List.getElem_cons_zero, List.getElem_cons_succ, List.setIfInBounds_toArray, List.set_cons_zero, List.set_cons_succ]
                refine wpAnyH_take (i := 29) (v := undef) rfl (by kernel_rfl) (by kernel_rfl) (by kernel_rfl) (fun _ _ _ h => h) (Or.inr ⟨by rfl, rfl⟩) (by assumption) ?_
                try simp only [Act.put, List.getElem_toArray, List.getElem_cons_zero, List.getElem_cons_succ, List.setIfInBounds_toArray, List.set_cons_zero, List.set_cons_succ]
                refine wpAnyH_take (i := 30) (v := ?w30) rfl (by kernel_rfl) (by kernel_rfl) (by kernel_rfl) (fun _ _ _ h => h) (Or.inl ⟨by rfl, ?hz30⟩) (by assumption) ?rst30
                case hz30 =>
                  intro w' hSw
                  dsimp only [List.getElem_toArray, List.getElem_cons_zero, List.getElem_cons_succ] at hSw ⊢
                  go_simp
                  try (with_reducible rfl)
                try simp only [Act.put, List.getElem_toArray, List.getElem_cons_zero, List.getElem_cons_succ, List.setIfInBounds_toArray, List.set_cons_zero, List.set_cons_succ]
                refine wpAnyH_take (i := 31) (v := ?w31) rfl (by kernel_rfl) (by kernel_rfl) (by kernel_rfl) (fun _ _ _ h => h) (Or.inl ⟨by rfl, ?hz31⟩) (by assumption) ?rst31
                case hz31 =>
                  intro w' hSw
                  dsimp only [List.getElem_toArray, List.getElem_cons_zero, List.getElem_cons_succ] at hSw ⊢
                  go_simp
                  try (with_reducible rfl)
                try simp only [Act.put, List.getElem_toArray, List.getElem_cons_zero, List.getElem_cons_succ, List.setIfInBounds_toArray, List.set_cons_zero, List.set_cons_succ]
                refine wpAnyH_done (by kernel_rfl) ?_ _
                go_wp2
                go_roundw
                case rel => exact ⟨j + 1, false, by omega, by go_num, rfl, HF, HS2, by apply And.left; assumption⟩
                case measure => simp [intOf]; omega
        · go_wp2
          go_ret
          exact ⟨rfl, hB⟩
      · obtain rfl : j = l.length := by omega
        have hG2 : g = allGood l := by have := hG.out; rwa [List.take_length] at this
        have hjl : (Lib.join (l.map (·.data.toList)) [32]).length ≤ 4294967296 := by
          have h1 := join_short 100 l (by have := hS.out; rwa [List.take_length] at this)
          have h2 : l.length * 101 ≤ 50 * 101 := Nat.mul_le_mul_right _ h50
          omega
        have hjs : (joined l).size < 4294967281 := by
          have h1 := join_short 100 l (by have := hS.out; rwa [List.take_length] at this)
          have h2 : l.length * 101 ≤ 50 * 101 := Nat.mul_le_mul_right _ h50
          rw [Lib.size_eq, joined, data_ofL]
          omega
        have hl4 : l.length ≤ 4294967296 := by omega
        have hC1 := Kd.C_below hA hB
        have hj1 := join_any l A c wr hC1 hc hl4 hjl
        have HW : Hid (g = true → words (joined l) = l) := ⟨fun h => words_joined l (by
          intro y hy
          rw [hG2] at h
          exact of_decide_eq_true (List.all_eq_true.1 h y hy))⟩
        clear hG hS hG2
        go_wp2_with (go_at_call 17; refine hj1.mono ?_; rintro e w1 ⟨rfl, hB1⟩)
        have hC2 := Kd.C_below hC1 hB1
        have hBw1 := below_then hB hB.size hB1
        have hj2 := rjoin_any l A c w1 hC2 hc hl4 hjl
        cases g with
        | false =>
          go_wp2_with (go_at_call 18; refine hj2.mono ?_; rintro e w2 ⟨rfl, hB2⟩)
          go_ret
          exact ⟨by simp, below_then hBw1 hBw1.size hB2⟩
        | true =>
          go_wp2_with (go_at_call 18; refine hj2.mono ?_; rintro e w2 ⟨rfl, hB2⟩)
          have hBw2 := below_then hBw1 hBw1.size hB2
          have hC3 := Kd.C_below hC2 hB2
          have hs1 := split_any (joined l) w2 (shaped_below hL hBw2) hjs
          rw [HW.out trivial] at hs1
          go_wp2_with (go_at_call 20; refine hs1.mono ?_; rintro e w3 ⟨A3, c3, rfl, hc3, hD3, hB3⟩)
          have hBw3 := below_then hBw2 hBw2.size hB3
          have ht1 := texts_any l l A3 A c3 c w3 hl4 hD3 hc3 (Kd.C_below hC3 hB3) hc
          go_wp2_with (go_at_call 19; refine ht1.mono ?_; rintro e w4 ⟨rfl, hB4⟩)
          go_ret
          exact ⟨by simp, below_then hBw3 hBw3.size hB4⟩
  · go_wp2_with (go_at_call 15; refine haw.mono ?_; rintro e w0 ⟨rfl, hB0⟩)
    go_ret
    exact ⟨rfl, hB0⟩
end Go.Proofs.YtmjedjhgomlfiaaDoor
