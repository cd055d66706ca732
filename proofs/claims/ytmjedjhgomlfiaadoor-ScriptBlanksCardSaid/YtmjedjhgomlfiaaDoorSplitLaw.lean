/- What stands between the blanks, in plain lists: what strings.Split and the filter give, and what the reference gathers byte by byte. -/
import Derived.Test.YtmjedjhgomlfiaaDoorSplit
namespace Go.Proofs.YtmjedjhgomlfiaaDoor
open Go.RowKit Go.Lib

def sp : List UInt8 → List (List UInt8)
  | [] => [[]]
  | b :: l => if b = 32 then [] :: sp l else match sp l with | [] => [[b]] | h :: t => (b :: h) :: t

theorem sp_blank (l : List UInt8) : sp (32 :: l) = [] :: sp l := by rw [sp, if_pos rfl]
theorem sp_cons {b : UInt8} (hb : b ≠ 32) {l h : List UInt8} {t : List (List UInt8)} (hl : sp l = h :: t) : sp (b :: l) = (b :: h) :: t := by rw [sp, if_neg hb, hl]
theorem sp_ne (l : List UInt8) : ∃ h t, sp l = h :: t := by
  cases l with
  | nil => exact ⟨_, _, rfl⟩
  | cons b l =>
    rw [sp]
    split
    · exact ⟨_, _, rfl⟩
    · split <;> exact ⟨_, _, rfl⟩

theorem splitK_sp : ∀ l : List UInt8, splitK [32] 0 (count l [32]) l = sp l
  | [] => by rw [count_miss (by simp [index])]; rfl
  | b :: l => by
    have ih := splitK_sp l
    by_cases hb : b = 32
    · subst hb
      rw [count_cons_eq, sp_blank, ← ih, Nat.add_comm]
      have hix : index ((32 : UInt8) :: l) [32] = ((0 : Nat) : Int) := by rw [index]; simp [List.isPrefixOf]
      rw [splitK, if_neg (by rw [hix]; decide), hix]
      simp
    · rw [count_cons_ne b 32 l hb]
      have hp : ([32] : List UInt8).isPrefixOf (b :: l) = false := by simp [List.isPrefixOf, Ne.symm hb]
      have hix : index (b :: l) [32] = if index l [32] == -1 then -1 else index l [32] + 1 := by rw [index, hp]; simp
      by_cases hm : index l [32] = -1
      · rw [count_miss hm] at ih ⊢
        rw [sp_cons hb (by rw [← ih]; rfl)]
        rfl
      · have hge := index_ge l [32]
        obtain ⟨j, hj⟩ : ∃ j : Nat, index l [32] = j := ⟨(index l [32]).toNat, by omega⟩
        have hix' : index (b :: l) [32] = ((j + 1 : Nat) : Int) := by rw [hix, if_neg (fun e => hm (beq_iff_eq.1 e)), hj]; omega
        rw [count_hit (by simp) hj, Nat.add_comm] at ih ⊢
        rw [splitK, if_neg (by rw [hj, beq_iff_eq]; omega), hj] at ih
        rw [splitK, if_neg (by rw [hix', beq_iff_eq]; omega), hix', sp_cons hb ih.symm]
        simp

def ofL (l : List UInt8) : ByteArray := ⟨l.toArray⟩
theorem ofL_data (s : ByteArray) : ofL s.data.toList = s := rfl
theorem data_ofL (l : List UInt8) : (ofL l).data.toList = l := rfl
/-- The words of a text. -/
def W (l : List UInt8) : List ByteArray := ((sp l).filter (fun x => !x.isEmpty)).map ofL

theorem words_W (s : ByteArray) : words s = W s.data.toList := by
  have h : (pieces s).map (·.data.toList) = sp s.data.toList := by
    rw [pieces, splitB_data]; exact splitK_sp _
  have h2 : (pieces s) = (sp s.data.toList).map ofL := by
    rw [← h, List.map_map]
    exact (List.map_id _).symm
  rw [words, h2, W, List.filter_map]
  congr 1
  apply List.filter_congr
  intro x _
  show (!decide ((ofL x).size = 0)) = _
  rw [Lib.size_eq, data_ofL]
  cases x <;> simp

theorem W_nil : W [] = [] := rfl
theorem sp_free : ∀ (l : List UInt8), (∀ b ∈ l, b ≠ 32) → sp l = [l]
  | [], _ => rfl
  | b :: l, h => sp_cons (h b (by simp)) (sp_free l (fun c hc => h c (by simp [hc])))
theorem sp_cut : ∀ (l r : List UInt8), (∀ b ∈ l, b ≠ 32) → sp (l ++ 32 :: r) = l :: sp r
  | [], r, _ => sp_blank r
  | b :: l, r, h => sp_cons (h b (by simp)) (sp_cut l r (fun c hc => h c (by simp [hc])))
theorem W_free {l : List UInt8} (h : ∀ b ∈ l, b ≠ 32) (hn : l ≠ []) : W l = [ofL l] := by
  rw [W, sp_free l h]
  cases l with
  | nil => exact absurd rfl hn
  | cons b l => rfl
theorem W_cut {l : List UInt8} (r : List UInt8) (h : ∀ b ∈ l, b ≠ 32) (hn : l ≠ []) : W (l ++ 32 :: r) = ofL l :: W r := by
  rw [W, sp_cut l r h]
  cases l with
  | nil => exact absurd rfl hn
  | cons b l => rfl
theorem W_blank (r : List UInt8) : W (32 :: r) = W r := by
  rw [W, sp_blank]; rfl
end Go.Proofs.YtmjedjhgomlfiaaDoor
