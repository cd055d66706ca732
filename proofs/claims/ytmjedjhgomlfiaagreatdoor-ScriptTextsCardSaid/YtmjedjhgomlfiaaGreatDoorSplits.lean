/- Words, told apart. -/
import Derived.Test.YtmjedjhgomlfiaaGreatDoorShelf
import Derived.Test.YtmjedjhgomlfiaaGreatDoorWWords
import Derived.Lib.SplitLaws
import Derived.Lib.SliceRun
namespace Go.Proofs.YtmjedjhgomlfiaaGreatDoor
open Go.RowKit Go.Shelf Go.Sort Go.Proofs.YtmjedjhgomlfiaaGreatDoorW.PrintWords

def bl : ByteArray := ⟨#[32]⟩
/-- The pieces between the blanks. -/
def pieces (s : ByteArray) : List ByteArray := Lib.splitB bl 0 (Lib.countB s bl) s
/-- The words: the pieces that are not empty. -/
def words (s : ByteArray) : List ByteArray := (pieces s).filter (fun x => !(decide (x.size = 0)))
theorem pieces_length (s : ByteArray) : (pieces s).length = Lib.countB s bl + 1 := Lib.splitB_all bl (by decide) 0 _ s rfl

theorem empty_eq (x : ByteArray) : x.toList.isEmpty = decide (x.size = 0) := by
  rw [ByteArray.toList_eq, Lib.size_eq]
  cases x.data.toList <;> simp
theorem gives57 (x : ByteArray) (W : World) : FnGives Tryz.prog 42 #[] #[.string x] (.bool (decide (x.size = 0))) W := by
  show Calls Tryz.prog 42 #[.string x] W _
  go_enter Tryz.func42, Tryz.ntmps42
  go_wp2
  all_goals (go_ret; refine ⟨?_, 0, rfl⟩; simp [empty_eq])
theorem enters57 : ∀ args w, (callFunc 42 args).run Tryz.prog w = .ok (.enter 42 args) w := enters_of Tryz.func42 (by kernel_rfl) rfl

theorem C_of_cells {xs : List ByteArray} {w : World} {B : Nat} (hl : xs.length ≤ 9223372036854775807) (h : ∀ j x, xs[j]? = some x → w.cell? ⟨B, j, none⟩ = some (.string x)) : Kd.string.C w (some ⟨B, 0, none⟩) xs.length xs :=
  ⟨rfl, hl, fun _ => ⟨_, rfl, fun j p hj => ⟨[.string p], rfl, rfl, fun i u hu => by
    rcases i with _ | i
    · simp only [List.getElem?_cons_zero, Option.some.injEq] at hu
      subst hu
      show w.cell? ((⟨B, 0, none⟩ : Addr).add (j * 1 + 0)) = _
      rw [add_plain]
      simpa using h j p hj
    · simp at hu⟩⟩⟩

set_option maxRecDepth 100000 in
set_option maxHeartbeats 1600000 in
theorem split_any (s : ByteArray) (w : World) (hL : w.ShapedOpen Tryz.prog) (hs : s.size < 4294967281) :
    Calls Tryz.prog 19 #[.string s] w fun e w' => ∃ A c, e = .returned (.slice A (words s).length c) ∧ (words s).length ≤ c ∧ Kd.string.C w' A (words s).length (words s) ∧ Below w.heap.size w w' := by
  have hcs : Lib.countB s bl ≤ s.size := Lib.countB_le bl (by decide) _ s (Nat.le_refl _)
  have hlen := pieces_length s
  have hwl : (words s).length ≤ (pieces s).length := List.length_filter_le _ _
  have hd : ((pieces s).toArray).size = Lib.countB s bl + 1 := by simp [hlen]
  have hsplit := Tryz.strings_Split_shaped s bl w hL hs (by decide)
  generalize hW : w.alloc (.cells ((Lib.splitB bl 0 (Lib.countB s bl) s).map Value.string).toArray 9) = W at hsplit
  have hWs : W.heap.size = w.heap.size + 1 := by subst hW; simp
  have hbW : Below w.heap.size w W := by subst hW; exact below_alloc (Below.refl _ _) _
  have hH : Holds Value.string W w.heap.size 0 (pieces s).toArray := by
    intro j hj
    subst hW
    have hj' : j < (pieces s).length := by simpa using hj
    show (w.alloc (.cells ((pieces s).map Value.string).toArray 9)).cell? _ = _ ∧ (w.alloc (.cells ((pieces s).map Value.string).toArray 9)).frozen? _ = _
    generalize pieces s = ps at hj hj'
    have hb : (w.alloc (.cells (ps.map Value.string).toArray 9)).heap[w.heap.size]? = some (.cells (ps.map Value.string).toArray 9 (0, 0)) := Array.getElem?_push_size
    refine ⟨?_, ?_⟩
    · rw [blk_cell hb]
      simp [hj', getElem!_pos]
    · rw [blk_frozen hb]
  have hdel := Tryz.slices_DeleteFunc Value.string (fun _ => rfl) (fun x => decide (x.size = 0)) 42 #[] enters57 ByteArray.empty (fun w => Tryz.zeroValue9 w) w.heap.size 0 (Lib.countB s bl + 1) (pieces s).toArray W
    (fun W' x _ => gives57 x W') (fun n os dk x _ => gives57 x _) hH (by rw [hd]; omega) (by rw [hd]; exact Nat.le_refl _)
  rw [hd] at hdel
  have hwd : ((pieces s).toArray.toList.filter fun x => !(decide (x.size = 0))) = words s := rfl
  rw [hwd] at hdel
  go_enter Tryz.func19, Tryz.ntmps19
  go_wp2_with (first
    | (go_at_call 41; refine hsplit.mono ?_; rintro e w1 ⟨rfl, hw1⟩; subst w1)
    | (go_at_call 40; refine hdel.mono ?_; rintro e w' ⟨rfl, q, rfl⟩))
  go_ret
  generalize hds : (words s ++ List.replicate (Lib.countB s bl + 1 - (words s).length) ByteArray.empty).toArray = ds
  have hdsz : ds.size = (pieces s).toArray.size := by rw [← hds, hd]; simp; omega
  have hHq : Holds Value.string (Sort.ahead W q) w.heap.size 0 (pieces s).toArray := hH
  have hbP : RowKit.Below w.heap.size w (putRow Value.string (Sort.ahead W q) w.heap.size 0 ds) :=
    ⟨hbW.os, hbW.tape, hbW.output, by rw [size_putRow]; exact hbW.size, fun i hi => by
      have h1 : (putRow Value.string (Sort.ahead W q) w.heap.size 0 ds).heap[i]? = W.heap[i]? := by
        show (W.heap.modify w.heap.size _)[i]? = _
        rw [Array.getElem?_modify, if_neg (by omega)]
      rw [h1]; exact hbW.block i hi⟩
  refine ⟨_, _, rfl, by omega, ?_, hbP⟩
  refine C_of_cells (by omega) (fun j x hj => ?_)
  have hjl := (List.getElem?_eq_some_iff.1 hj).1
  have hjs : j < ds.size := by rw [hdsz, hd]; omega
  have := cell?_putRow Value.string (Sort.ahead W q) w.heap.size 0 _ ds hHq hdsz j hjs
  rw [Nat.zero_add] at this
  rw [this, ← hds]
  rw [← hds] at hjs
  rw [getElem!_pos _ j hjs]
  simp only [List.getElem_toArray]
  rw [List.getElem_append_left hjl, (List.getElem?_eq_some_iff.1 hj).2]
end Go.Proofs.YtmjedjhgomlfiaaGreatDoor

namespace Go.Proofs.YtmjedjhgomlfiaaGreatDoor
open Go.RowKit Go.Lib

def sp : List UInt8 → List (List UInt8)
  | [] => [[]]
  | b :: l => if b = 32 then [] :: sp l else match sp l with | [] => [[b]] | h :: t => (b :: h) :: t

theorem sp_blank (l : List UInt8) : sp (32 :: l) = [] :: sp l := by rw [sp, if_pos rfl]
theorem sp_cons {b : UInt8} (hb : b ≠ 32) {l h : List UInt8} {t : List (List UInt8)} (hl : sp l = h :: t) : sp (b :: l) = (b :: h) :: t := by rw [sp, if_neg hb, hl]
theorem sp_ne (l : List UInt8) : ∃ h t, sp l = h :: t := by
  cases l with
  | nil => exact ⟨_, _, rfl⟩
  | cons b l =>
    rw [sp]
    split
    · exact ⟨_, _, rfl⟩
    · split <;> exact ⟨_, _, rfl⟩

theorem splitK_sp : ∀ l : List UInt8, splitK [32] 0 (count l [32]) l = sp l
  | [] => by rw [count_miss (by simp [index])]; rfl
  | b :: l => by
    have ih := splitK_sp l
    by_cases hb : b = 32
    · subst hb
      rw [count_cons_eq, sp_blank, ← ih, Nat.add_comm]
      have hix : index ((32 : UInt8) :: l) [32] = ((0 : Nat) : Int) := by rw [index]; simp [List.isPrefixOf]
      rw [splitK, if_neg (by rw [hix]; decide), hix]
      simp
    · rw [count_cons_ne b 32 l hb]
      have hp : ([32] : List UInt8).isPrefixOf (b :: l) = false := by simp [List.isPrefixOf, Ne.symm hb]
      have hix : index (b :: l) [32] = if index l [32] == -1 then -1 else index l [32] + 1 := by rw [index, hp]; simp
      by_cases hm : index l [32] = -1
      · rw [count_miss hm] at ih ⊢
        rw [sp_cons hb (by rw [← ih]; rfl)]
        rfl
      · have hge := index_ge l [32]
        obtain ⟨j, hj⟩ : ∃ j : Nat, index l [32] = j := ⟨(index l [32]).toNat, by omega⟩
        have hix' : index (b :: l) [32] = ((j + 1 : Nat) : Int) := by rw [hix, if_neg (fun e => hm (beq_iff_eq.1 e)), hj]; omega
        rw [count_hit (by simp) hj, Nat.add_comm] at ih ⊢
        rw [splitK, if_neg (by rw [hj, beq_iff_eq]; omega), hj] at ih
        rw [splitK, if_neg (by rw [hix', beq_iff_eq]; omega), hix', sp_cons hb ih.symm]
        simp

def ofL (l : List UInt8) : ByteArray := ⟨l.toArray⟩
theorem ofL_data (s : ByteArray) : ofL s.data.toList = s := rfl
theorem data_ofL (l : List UInt8) : (ofL l).data.toList = l := rfl
/-- The words of a text. -/
def W (l : List UInt8) : List ByteArray := ((sp l).filter (fun x => !x.isEmpty)).map ofL

theorem words_W (s : ByteArray) : words s = W s.data.toList := by
  have h : (pieces s).map (·.data.toList) = sp s.data.toList := by
    rw [pieces, splitB_data]; exact splitK_sp _
  have h2 : (pieces s) = (sp s.data.toList).map ofL := by
    rw [← h, List.map_map]
    exact (List.map_id _).symm
  rw [words, h2, W, List.filter_map]
  congr 1
  apply List.filter_congr
  intro x _
  show (!decide ((ofL x).size = 0)) = _
  rw [Lib.size_eq, data_ofL]
  cases x <;> simp

theorem sp_free : ∀ (l : List UInt8), (∀ b ∈ l, b ≠ 32) → sp l = [l]
  | [], _ => rfl
  | b :: l, h => sp_cons (h b (by simp)) (sp_free l (fun c hc => h c (by simp [hc])))
theorem sp_cut : ∀ (l r : List UInt8), (∀ b ∈ l, b ≠ 32) → sp (l ++ 32 :: r) = l :: sp r
  | [], r, _ => sp_blank r
  | b :: l, r, h => sp_cons (h b (by simp)) (sp_cut l r (fun c hc => h c (by simp [hc])))
theorem W_free {l : List UInt8} (h : ∀ b ∈ l, b ≠ 32) (hn : l ≠ []) : W l = [ofL l] := by
  rw [W, sp_free l h]
  cases l with
  | nil => exact absurd rfl hn
  | cons b l => rfl
theorem W_cut {l : List UInt8} (r : List UInt8) (h : ∀ b ∈ l, b ≠ 32) (hn : l ≠ []) : W (l ++ 32 :: r) = ofL l :: W r := by
  rw [W, sp_cut l r h]
  cases l with
  | nil => exact absurd rfl hn
  | cons b l => rfl
end Go.Proofs.YtmjedjhgomlfiaaGreatDoor
