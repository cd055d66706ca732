/- WordJoins: the words of joined words. -/
import Derived.Test.YtmjedjhgomlfiaaGreatDoorAwake
import Derived.Deep.RegionWith
import Derived.ChangeOld
import Derived.ChangeAgain
import Derived.ShapedOpen
namespace Go.Proofs.YtmjedjhgomlfiaaGreatDoor
open Go.RowKit Go.Proofs.YtmjedjhgomlfiaaGreatDoorW.PrintWords

theorem sp_pieces : ∀ (l p : List UInt8), p ∈ sp l → ∀ b ∈ p, b ≠ 32
  | [], p, h => by simp [sp] at h; subst h; simp
  | b :: l, p, h => by
    by_cases hb : b = 32
    · subst hb
      rw [sp_blank] at h
      rcases List.mem_cons.1 h with h | h
      · subst h; simp
      · exact sp_pieces l p h
    · obtain ⟨q, t, hq⟩ := sp_ne l
      rw [sp_cons hb hq] at h
      rcases List.mem_cons.1 h with h | h
      · subst h
        intro c hc
        rcases List.mem_cons.1 hc with h | h
        · exact h ▸ hb
        · exact sp_pieces l q (by rw [hq]; simp) c h
      · exact sp_pieces l p (by rw [hq]; simp [h])
/-- A text that is its own only word. -/
theorem good_free {x : ByteArray} (h : words x = [x]) : (∀ b ∈ x.data.toList, b ≠ 32) ∧ x.data.toList ≠ [] := by
  rw [words_W, W] at h
  have hm : x ∈ ((sp x.data.toList).filter (fun x => !x.isEmpty)).map ofL := by rw [h]; simp
  obtain ⟨p, hp, he⟩ := List.mem_map.1 hm
  have hp2 := List.mem_filter.1 hp
  have hpx : p = x.data.toList := by rw [← he]; rfl
  subst hpx
  refine ⟨sp_pieces _ _ hp2.1, fun hn => ?_⟩
  have := hp2.2
  rw [hn] at this
  simp at this
theorem words_tail : ∀ (r : List ByteArray) (x : ByteArray), (∀ y ∈ x :: r, words y = [y]) → W (x.data.toList ++ Lib.joinTail [32] (r.map (·.data.toList))) = x :: r
  | [], x, h => by
    have hx := good_free (h x (by simp))
    simp only [Lib.joinTail, List.map_nil, List.flatten_nil, List.append_nil]
    rw [W_free hx.1 hx.2]; rfl
  | y :: r, x, h => by
    have hx := good_free (h x (by simp))
    have hj : Lib.joinTail [32] ((y :: r).map (·.data.toList)) = 32 :: (y.data.toList ++ Lib.joinTail [32] (r.map (·.data.toList))) := by simp [Lib.joinTail]
    rw [hj, W_cut _ hx.1 hx.2, words_tail r y (fun z hz => h z (by simp [List.mem_cons.1 hz]))]
    rfl
theorem words_joined (l : List ByteArray) (h : ∀ y ∈ l, words y = [y]) : words (joined l) = l := by
  rw [words_W, joined, data_ofL]
  cases l with
  | nil => rfl
  | cons x r => rw [List.map_cons, Lib.join_cons]; exact words_tail r x h
theorem join_short (n : Nat) : ∀ (l : List ByteArray), (∀ y ∈ l, y.size ≤ n) → (Lib.join (l.map (·.data.toList)) [32]).length ≤ l.length * (n + 1)
  | [], _ => by simp [Lib.join_nil]
  | x :: r, h => by
    rw [List.map_cons, Lib.join_cons]
    have hx : x.data.toList.length ≤ n := by rw [← Lib.size_eq]; exact h x (by simp)
    have ht : ∀ (r : List ByteArray), (∀ y ∈ r, y.size ≤ n) → (Lib.joinTail [32] (r.map (·.data.toList))).length ≤ r.length * (n + 1) := by
      intro r
      induction r with
      | nil => intro _; simp [Lib.joinTail]
      | cons y r ih =>
        intro h
        have hy : y.data.toList.length ≤ n := by rw [← Lib.size_eq]; exact h y (by simp)
        have hj : Lib.joinTail [32] ((y :: r).map (·.data.toList)) = 32 :: (y.data.toList ++ Lib.joinTail [32] (r.map (·.data.toList))) := by simp [Lib.joinTail]
        have := ih (fun z hz => h z (by simp [hz]))
        rw [hj, List.length_cons, List.length_append, List.length_cons, Nat.succ_mul]
        omega
    have := ht r (fun z hz => h z (by simp [hz]))
    rw [List.length_append, List.length_cons, Nat.succ_mul]
    omega

theorem shaped_below {w w' : World} (h : w.ShapedOpen Tryz.prog) (hb : Below w.heap.size w w') : w'.ShapedOpen Tryz.prog :=
  h.keptBut (hb.frame (fun _ => False)) (fun _ h => h.elim)

end Go.Proofs.YtmjedjhgomlfiaaGreatDoor
