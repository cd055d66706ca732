/- Join and Texts on both sides, and the law's example. -/
import Derived.Test.YtmjedjhgomlfiaaDoorRSplit
import Derived.Lib.Join
import Derived.IntWalk
namespace Go.Proofs.YtmjedjhgomlfiaaDoor
open Go.RowKit Go.Proofs.YtmjedjhgomlfiaaDoorW.PrintWords Ref01

theorem toList_inj {a b : ByteArray} (h : a.toList = b.toList) : a = b := by
  rw [ByteArray.toList_eq, ByteArray.toList_eq] at h
  exact ByteArray.ext (Array.toList_inj.1 h)

theorem texts_l0 (a b : List ByteArray) (hab : a.length = b.length) (ha : a.length ≤ 4294967296) : ∀ (m j : Nat), j + m = a.length → towncrierref01_Texts.l0 (m + 1) a b j = some (decide (a.drop j = b.drop j))
  | 0, j, h => by
    rw [towncrierref01_Texts.l0, if_neg (by omega), List.drop_eq_nil_of_le (by omega), List.drop_eq_nil_of_le (by omega)]
    rfl
  | m + 1, j, h => by
    have hja : j < a.length := by omega
    have hjb : j < b.length := by omega
    rw [towncrierref01_Texts.l0, if_pos (by omega), if_pos (by omega), if_pos (by omega)]
    rw [List.drop_eq_getElem_cons hja, List.drop_eq_getElem_cons hjb]
    have ea : rdOf ByteArray.empty a (j : Int) = a[j] := by simp [rdOf, hja]
    have eb : rdOf ByteArray.empty b (j : Int) = b[j] := by simp [rdOf, hjb]
    rw [ea, eb]
    by_cases he : a[j] = b[j]
    · rw [if_pos (by rw [he]), IntWalk.wrap64_in _ (by omega), show ((j : Int) + 1) = ((j + 1 : Nat) : Int) by omega, texts_l0 a b hab ha m (j + 1) (by omega), he]
      congr 1
      exact decide_eq_decide.2 ⟨fun h => by rw [h], fun h => (List.cons.inj h).2⟩
    · rw [if_neg (fun h => he (toList_inj h)), decide_eq_false (fun h => he (List.cons.inj h).1)]
theorem texts_f (a b : List ByteArray) (ha : a.length ≤ 4294967296) : ∃ k, towncrierref01_Texts.f k a b = some (decide (a = b)) := by
  by_cases hab : a.length = b.length
  · refine ⟨a.length + 1, ?_⟩
    rw [towncrierref01_Texts.f, if_pos (by omega)]
    have := texts_l0 a b hab ha a.length 0 (by omega)
    simpa using this
  · refine ⟨0, ?_⟩
    rw [towncrierref01_Texts.f, if_neg (by omega)]
    have : a ≠ b := fun h => hab (by rw [h])
    simp [this]
theorem texts_any (a b : List ByteArray) (A B : Option Addr) (c d : Nat) (w : World) (ha : a.length ≤ 4294967296) (hA : Kd.string.C w A a.length a) (hc : a.length ≤ c) (hB : Kd.string.C w B b.length b) (hd : b.length ≤ d) :
    Calls Tryd.prog 19 #[.slice A a.length c, .slice B b.length d] w fun e w' => e = .returned (.bool (decide (a = b))) ∧ Below w.heap.size w w' := by
  obtain ⟨k, hk⟩ := texts_f a b ha
  exact (towncrierref01_Texts.calls k A c a B d b _ w hA hc hB hd hk).mono fun e w' h => ⟨h.1, h.2.below⟩

/-- The texts, one blank between each two. -/
def joined (l : List ByteArray) : ByteArray := ofL (Lib.join (l.map (·.data.toList)) [32])

theorem join_take (l : List (List UInt8)) (k : Nat) (y : List UInt8) (h : l[k]? = some y) (hk : 0 < k) : Lib.join (l.take (k + 1)) [32] = Lib.join (l.take k) [32] ++ 32 :: y := by
  cases l with
  | nil => simp at h
  | cons x r =>
    obtain ⟨k, rfl⟩ : ∃ i, k = i + 1 := ⟨k - 1, by omega⟩
    rw [List.take_succ_cons, List.take_succ_cons, Lib.join_cons, Lib.join_cons, Lib.joinTail_take_succ [32] r k y (by simpa using h)]
    simp
theorem join_take_one (l : List (List UInt8)) (y : List UInt8) (h : l[0]? = some y) : Lib.join (l.take 1) [32] = y := by
  cases l with
  | nil => simp at h
  | cons x r => simp at h; subst h; simp [Lib.join_one]
theorem join_take_le (l : List (List UInt8)) (k : Nat) : (Lib.join (l.take k) [32]).length ≤ (Lib.join l [32]).length := by
  cases l with
  | nil => simp
  | cons x r =>
    cases k with
    | zero => simp [Lib.join_nil]
    | succ k =>
      rw [List.take_succ_cons, Lib.join_cons, Lib.join_cons]
      have := Lib.joinTail_take_le [32] r k
      simp only [List.length_append]
      omega

theorem rjoin_l0 (l : List ByteArray) (hl : l.length ≤ 4294967296) (hj : (Lib.join (l.map (·.data.toList)) [32]).length ≤ 4294967296) : ∀ (m j : Nat), j + m = l.length → towncrierref01_Join.l0 (m + 1) l (ofL (Lib.join ((l.map (·.data.toList)).take j) [32])) j = some (joined l)
  | 0, j, h => by
    rw [towncrierref01_Join.l0, if_neg (by omega), List.take_of_length_le (by simp; omega)]
    rfl
  | m + 1, j, h => by
    have hjl : j < l.length := by omega
    have el : rdOf ByteArray.empty l (j : Int) = l[j] := by simp [rdOf, hjl]
    have hy : (l.map (·.data.toList))[j]? = some l[j].data.toList := by simp [hjl]
    have hle := join_take_le (l.map (·.data.toList)) (j + 1)
    rw [towncrierref01_Join.l0, if_pos (by omega), el]
    have hs0 : (ofL (Lib.join ((l.map (·.data.toList)).take j) [32])).size = (Lib.join ((l.map (·.data.toList)).take j) [32]).length := by rw [Lib.size_eq]; rfl
    have ih := rjoin_l0 l hl hj m (j + 1) (by omega)
    by_cases h0 : 0 < j
    · have hn := join_take _ _ _ hy h0
      have hlen := congrArg List.length hn
      simp only [List.length_append, List.length_cons] at hlen
      have hyl : l[j].size = l[j].data.toList.length := Lib.size_eq _
      have hcat : (ofL (Lib.join ((l.map (·.data.toList)).take j) [32]) ++ (⟨#[32]⟩ : ByteArray)) ++ l[j] = ofL (Lib.join ((l.map (·.data.toList)).take (j + 1)) [32]) := by
        apply toList_inj
        rw [ByteArray.toList_eq, ByteArray.toList_eq, ByteArray.data_append, ByteArray.data_append, Array.toList_append, Array.toList_append, data_ofL, data_ofL, hn]
        simp
      rw [if_pos (by omega), if_pos (by rw [hs0]; omega), if_pos (by omega), if_pos (by rw [ByteArray.size_append, hs0]; show _ + 1 + _ ≤ _; omega), hcat, IntWalk.wrap64_in _ (by omega), show ((j : Int) + 1) = ((j + 1 : Nat) : Int) by omega, ih]
    · obtain rfl : j = 0 := by omega
      have hn := join_take_one _ _ hy
      have hcat : ofL (Lib.join ((l.map (·.data.toList)).take 0) [32]) ++ l[0] = ofL (Lib.join ((l.map (·.data.toList)).take 1) [32]) := by
        apply toList_inj
        rw [ByteArray.toList_eq, ByteArray.toList_eq, ByteArray.data_append, Array.toList_append, data_ofL, data_ofL, hn]
        simp [Lib.join_nil]
      have hyl : l[0].size = l[0].data.toList.length := Lib.size_eq _
      rw [hn] at hle
      rw [if_neg (by omega), if_pos (by omega), if_pos (by rw [hs0]; simp [Lib.join_nil]; omega), hcat, IntWalk.wrap64_in _ (by omega)]
      exact ih
theorem rjoin_any (l : List ByteArray) (A : Option Addr) (c : Nat) (w : World) (hA : Kd.string.C w A l.length l) (hc : l.length ≤ c) (hl : l.length ≤ 4294967296) (hj : (Lib.join (l.map (·.data.toList)) [32]).length ≤ 4294967296) :
    Calls Tryd.prog 18 #[.slice A l.length c] w fun e w' => e = .returned (.string (joined l)) ∧ Below w.heap.size w w' := by
  have h := rjoin_l0 l hl hj l.length 0 (by omega)
  have h2 : towncrierref01_Join.f (l.length + 1) l = some (joined l) := h
  exact (towncrierref01_Join.calls _ A c l _ w hA hc h2).mono fun e w' h => ⟨h.1, h.2.below⟩

set_option maxRecDepth 100000 in
theorem join_any (l : List ByteArray) (A : Option Addr) (c : Nat) (w : World) (hA : Kd.string.C w A l.length l) (hc : l.length ≤ c) (hl : l.length ≤ 4294967296) (hj : (Lib.join (l.map (·.data.toList)) [32]).length ≤ 4294967296) :
    Calls Tryd.prog 17 #[.slice A l.length c] w fun e w' => e = .returned (.string (joined l)) ∧ Below w.heap.size w w' := by
  have hcon : Calls Tryd.prog 54 #[.slice A l.length c, .string bl] w fun e w' => e = .returned (.string (joined l)) ∧ Below w.heap.size w w' := by
    rcases l with _ | ⟨x, r⟩
    · exact (Tryd.strings_Join_none A c bl w).mono fun e w' h => ⟨h.1, h.2 ▸ Below.refl _ _⟩
    · obtain ⟨ad, e, hcell⟩ := hA.2.2 (by simp)
      subst e
      have hx : ∀ j p, (x :: r)[j]? = some p → w.cell? (ad.add j) = some (.string p) := by
        intro j p hj
        obtain ⟨cs, h1, h2, h3⟩ := hcell j p hj
        have h2' : cs = [.string p] := h2
        have := h3 0 (.string p) (by rw [h2']; rfl)
        rwa [show j * Kd.string.sz + 0 = j from Nat.mul_one j] at this
      have h0 := hx 0 x rfl
      rw [show ad.add 0 = ad from rfl] at h0
      obtain ⟨B, o, spot⟩ := ad
      obtain rfl : spot = none := World.cell?_spot h0
      refine Tryd.strings_Join B o c (x :: r) bl w (fun j p hj => ?_) (World.block_lt_of_cell? w _ h0) (by omega) hc (by show (Lib.join _ [32]).length ≤ _; omega)
      have := hx j p hj
      unfold Addr.add at this
      split at this
      · rename_i h; subst h; simpa using this
      · exact this
  go_enter Tryd.func17, Tryd.ntmps17
  go_wp2_with (go_at_call 54; refine hcon.mono ?_; rintro e w' ⟨rfl, hb⟩)
  go_ret
  exact ⟨rfl, hb⟩
end Go.Proofs.YtmjedjhgomlfiaaDoor
