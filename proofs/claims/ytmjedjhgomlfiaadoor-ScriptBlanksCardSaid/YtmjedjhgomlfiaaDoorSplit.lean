/- word.Split: the pieces between the blanks, without the empty ones. It writes nothing that was there. -/
import Derived.Test.YtmjedjhgomlfiaaDoorShelf
import Derived.Test.YtmjedjhgomlfiaaDoorWWords
import Derived.Lib.SplitLaws
import Derived.Lib.SliceRun
namespace Go.Proofs.YtmjedjhgomlfiaaDoor
open Go.RowKit Go.Shelf Go.Sort Go.Proofs.YtmjedjhgomlfiaaDoorW.PrintWords

def bl : ByteArray := ⟨#[32]⟩
/-- The pieces between the blanks. -/
def pieces (s : ByteArray) : List ByteArray := Lib.splitB bl 0 (Lib.countB s bl) s
/-- The words: the pieces that are not empty. -/
def words (s : ByteArray) : List ByteArray := (pieces s).filter (fun x => !(decide (x.size = 0)))
theorem pieces_length (s : ByteArray) : (pieces s).length = Lib.countB s bl + 1 := Lib.splitB_all bl (by decide) 0 _ s rfl

theorem empty_eq (x : ByteArray) : x.toList.isEmpty = decide (x.size = 0) := by
  rw [ByteArray.toList_eq, Lib.size_eq]
  cases x.data.toList <;> simp
theorem gives57 (x : ByteArray) (W : World) : FnGives Tryd.prog 57 #[] #[.string x] (.bool (decide (x.size = 0))) W := by
  show Calls Tryd.prog 57 #[.string x] W _
  go_enter Tryd.func57, Tryd.ntmps57
  go_wp2
  all_goals (go_ret; refine ⟨?_, 0, rfl⟩; simp [empty_eq])
theorem enters57 : ∀ args w, (callFunc 57 args).run Tryd.prog w = .ok (.enter 57 args) w := enters_of Tryd.func57 (by kernel_rfl) rfl

theorem C_of_cells {xs : List ByteArray} {w : World} {B : Nat} (hl : xs.length ≤ 9223372036854775807) (h : ∀ j x, xs[j]? = some x → w.cell? ⟨B, j, none⟩ = some (.string x)) : Kd.string.C w (some ⟨B, 0, none⟩) xs.length xs :=
  ⟨rfl, hl, fun _ => ⟨_, rfl, fun j p hj => ⟨[.string p], rfl, rfl, fun i u hu => by
    rcases i with _ | i
    · simp only [List.getElem?_cons_zero, Option.some.injEq] at hu
      subst hu
      show w.cell? ((⟨B, 0, none⟩ : Addr).add (j * 1 + 0)) = _
      rw [add_plain]
      simpa using h j p hj
    · simp at hu⟩⟩⟩

set_option maxRecDepth 100000 in
set_option maxHeartbeats 1600000 in
theorem split_any (s : ByteArray) (w : World) (hL : w.ShapedOpen Tryd.prog) (hs : s.size < 4294967281) :
    Calls Tryd.prog 20 #[.string s] w fun e w' => ∃ A c, e = .returned (.slice A (words s).length c) ∧ (words s).length ≤ c ∧ Kd.string.C w' A (words s).length (words s) ∧ Below w.heap.size w w' := by
  have hcs : Lib.countB s bl ≤ s.size := Lib.countB_le bl (by decide) _ s (Nat.le_refl _)
  have hlen := pieces_length s
  have hwl : (words s).length ≤ (pieces s).length := List.length_filter_le _ _
  have hd : ((pieces s).toArray).size = Lib.countB s bl + 1 := by simp [hlen]
  have hsplit := Tryd.strings_Split_shaped s bl w hL hs (by decide)
  generalize hW : w.alloc (.cells ((Lib.splitB bl 0 (Lib.countB s bl) s).map Value.string).toArray 9) = W at hsplit
  have hWs : W.heap.size = w.heap.size + 1 := by subst hW; simp
  have hbW : Below w.heap.size w W := by subst hW; exact below_alloc (Below.refl _ _) _
  have hH : Holds Value.string W w.heap.size 0 (pieces s).toArray := by
    intro j hj
    subst hW
    have hj' : j < (pieces s).length := by simpa using hj
    show (w.alloc (.cells ((pieces s).map Value.string).toArray 9)).cell? _ = _ ∧ (w.alloc (.cells ((pieces s).map Value.string).toArray 9)).frozen? _ = _
    generalize pieces s = ps at hj hj'
    have hb : (w.alloc (.cells (ps.map Value.string).toArray 9)).heap[w.heap.size]? = some (.cells (ps.map Value.string).toArray 9 (0, 0)) := Array.getElem?_push_size
    refine ⟨?_, ?_⟩
    · rw [blk_cell hb]
      simp [hj', getElem!_pos]
    · rw [blk_frozen hb]
  have hdel := Tryd.slices_DeleteFunc Value.string (fun _ => rfl) (fun x => decide (x.size = 0)) 57 #[] enters57 ByteArray.empty (fun w => Tryd.zeroValue9 w) w.heap.size 0 (Lib.countB s bl + 1) (pieces s).toArray W
    (fun W' x _ => gives57 x W') (fun n os dk x _ => gives57 x _) hH (by rw [hd]; omega) (by rw [hd]; exact Nat.le_refl _)
  rw [hd] at hdel
  have hwd : ((pieces s).toArray.toList.filter fun x => !(decide (x.size = 0))) = words s := rfl
  rw [hwd] at hdel
  go_enter Tryd.func20, Tryd.ntmps20
  go_wp2_with (first
    | (go_at_call 56; refine hsplit.mono ?_; rintro e w1 ⟨rfl, hw1⟩; subst w1)
    | (go_at_call 55; refine hdel.mono ?_; rintro e w' ⟨rfl, q, rfl⟩))
  go_ret
  generalize hds : (words s ++ List.replicate (Lib.countB s bl + 1 - (words s).length) ByteArray.empty).toArray = ds
  have hdsz : ds.size = (pieces s).toArray.size := by rw [← hds, hd]; simp; omega
  have hHq : Holds Value.string (Sort.ahead W q) w.heap.size 0 (pieces s).toArray := hH
  have hbP : RowKit.Below w.heap.size w (putRow Value.string (Sort.ahead W q) w.heap.size 0 ds) :=
    ⟨hbW.os, hbW.tape, hbW.output, by rw [size_putRow]; exact hbW.size, fun i hi => by
      have h1 : (putRow Value.string (Sort.ahead W q) w.heap.size 0 ds).heap[i]? = W.heap[i]? := by
        show (W.heap.modify w.heap.size _)[i]? = _
        rw [Array.getElem?_modify, if_neg (by omega)]
      rw [h1]; exact hbW.block i hi⟩
  refine ⟨_, _, rfl, by omega, ?_, hbP⟩
  refine C_of_cells (by omega) (fun j x hj => ?_)
  have hjl := (List.getElem?_eq_some_iff.1 hj).1
  have hjs : j < ds.size := by rw [hdsz, hd]; omega
  have := cell?_putRow Value.string (Sort.ahead W q) w.heap.size 0 _ ds hHq hdsz j hjs
  rw [Nat.zero_add] at this
  rw [this, ← hds]
  rw [← hds] at hjs
  rw [getElem!_pos _ j hjs]
  simp only [List.getElem_toArray]
  rw [List.getElem_append_left hjl, (List.getElem?_eq_some_iff.1 hj).2]
end Go.Proofs.YtmjedjhgomlfiaaDoor
