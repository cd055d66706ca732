/- Right on both sides: a word has one to eight signs, each one of a..z or 0..9. -/
import Derived.Test.YtmjedjhgomlfiaaGreatDoorRNum
import Derived.Test.YtmjedjhgomlfiaaGreatDoorRSplit
import Derived.Laws.RangeAny
namespace Go.Proofs.YtmjedjhgomlfiaaGreatDoor
open Go.RowKit Go.Proofs.YtmjedjhgomlfiaaGreatDoorW.PrintWords Ref01 Go.Lib

/-- A sign of a word. -/
def okB (b : UInt8) : Bool := (decide (97 ≤ b.toNat) && decide (b.toNat ≤ 122)) || (decide (48 ≤ b.toNat) && decide (b.toNat ≤ 57))
/-- A word. -/
def rightW (s : List UInt8) : Bool := decide (1 ≤ s.length) && (decide (s.length ≤ 8) && s.all okB)

theorem right_l0 (s : ByteArray) (hs : s.size ≤ 8) : ∀ (m j : Nat), j + m = s.size → ∀ k, m + 1 ≤ k → towncrierref01_Right.l0 k s j = some ((s.data.toList.drop j).all okB)
  | 0, j, h, k, hk => by
    obtain ⟨k, rfl⟩ : ∃ k2, k = k2 + 1 := ⟨k - 1, by omega⟩
    rw [towncrierref01_Right.l0, if_neg (by omega), List.drop_eq_nil_of_le (by rw [← Lib.size_eq]; omega)]
    rfl
  | m + 1, j, h, k, hk => by
    obtain ⟨k, rfl⟩ : ∃ k2, k = k2 + 1 := ⟨k - 1, by omega⟩
    have hjl : j < s.data.toList.length := by rw [← Lib.size_eq]; omega
    obtain ⟨b, hb⟩ : ∃ b, s.data.toList[j]? = some b := ⟨_, List.getElem?_eq_getElem hjl⟩
    have hd : s.data.toList.drop j = b :: s.data.toList.drop (j + 1) := by
      rw [List.drop_eq_getElem_cons hjl, (List.getElem?_eq_some_iff.1 hb).2]
    have ih := right_l0 s hs m (j + 1) (by omega) k (by omega)
    have hw : wrap64 ((j : Int) + 1) = ((j + 1 : Nat) : Int) := by rw [IntWalk.wrap64_in _ (by omega)]; omega
    rw [towncrierref01_Right.l0, if_pos (by omega), if_pos (by omega), bt_data s j b hb, hd, hw, ih, List.all_cons]
    unfold okB
    by_cases h1 : 97 ≤ b.toNat
    · rw [if_pos (by omega)]
      by_cases h2 : b.toNat ≤ 122
      · rw [if_pos (by omega)]
        simp [h1, h2]
      · rw [if_neg (by omega), if_pos (by omega), if_neg (by omega)]
        have h3 : ¬ b.toNat ≤ 57 := by omega
        simp [h2, h3]
    · rw [if_neg (by omega)]
      by_cases h2 : 48 ≤ b.toNat
      · rw [if_pos (by omega)]
        by_cases h3 : b.toNat ≤ 57
        · rw [if_pos (by omega)]
          simp [h1, h2, h3]
        · rw [if_neg (by omega)]
          simp [h1, h3]
      · rw [if_neg (by omega)]
        simp [h1, h2]
theorem okB_high (b : UInt8) (h : 128 ≤ b.toNat) : okB b = false := by
  unfold okB
  have h1 : ¬ b.toNat ≤ 122 := by omega
  have h2 : ¬ b.toNat ≤ 57 := by omega
  simp [h1, h2]
theorem all_take (s : List UInt8) (j : Nat) (b : UInt8) (h : s[j]? = some b) : (s.take (j + 1)).all okB = ((s.take j).all okB && okB b) := by
  rw [List.take_add_one, h]; simp
theorem all_bad (s : List UInt8) (j : Nat) (b : UInt8) (h : s[j]? = some b) (hb : okB b = false) : s.all okB = false := by
  rw [List.all_eq_false]
  exact ⟨b, List.mem_of_getElem? h, by simp [hb]⟩

set_option maxRecDepth 100000 in
set_option maxHeartbeats 1600000 in
theorem right_any (s : ByteArray) (w : World) :
    Calls Tryz.prog 48 #[.string s] w fun e w' => e = .returned (.bool (rightW s.data.toList)) ∧ Below w.heap.size w w' := by
  have hsz : s.size = s.data.toList.length := Lib.size_eq s
  have hR : rightW s.data.toList = (decide (1 ≤ s.size) && (decide (s.size ≤ 8) && s.data.toList.all okB)) := by unfold rightW; rw [hsz]
  by_cases h0 : s.toList = []
  · have H : Hid (rightW s.data.toList = false) := ⟨by
      rw [ByteArray.toList_eq] at h0; rw [h0]; rfl⟩
    clear hR hsz
    go_enter Tryz.func48, Tryz.ntmps48
    go_wp2
    go_ret
    exact ⟨by rw [H.out]; rfl, Below.refl _ _⟩
  · have h1 : 1 ≤ s.size := by
      rw [ByteArray.toList_eq] at h0
      rw [hsz]; exact List.length_pos_iff.2 h0
    by_cases h8 : s.size ≤ 8
    · have H : Hid (rightW s.data.toList = s.data.toList.all okB) := ⟨by rw [hR]; simp [h1, h8]⟩
      have q8 : ¬ (8 : Int) < s.size := by omega
      have e0 : s.toList.isEmpty = false := by simpa using h0
      clear h0
      have hsz' := hide_ hsz
      clear hR hsz
      go_enter Tryz.func48, Tryz.ntmps48
      go_wp2
      go_loopw [] (fun wr => ∃ pos, pos ≤ s.size ∧ wr = w.iter s pos ∧ Hid ((s.data.toList.take pos).all okB = true)) (fun wr => s.size - wr.iterPos w.heap.size)
      case atStart => exact ⟨0, Nat.zero_le _, rfl, ⟨by simp⟩⟩
      case round =>
        obtain ⟨pos, hpl, rfl, HT⟩ := hrel
        by_cases hp : pos < s.size
        · obtain ⟨b, hb⟩ : ∃ b, s.data.toList[pos]? = some b := ⟨_, List.getElem?_eq_getElem (by rw [← Lib.size_eq]; exact hp)⟩
          have hbj : (s[pos]'hp) = b := (List.getElem?_eq_some_iff.1 hb).2
          have HB := hide_ hb
          by_cases ha : b.toNat < 128
          · have hnx : ∀ ty, (Instr.next (.pointer (some ⟨w.heap.size, 0, none⟩)) true ty).run Tryz.prog (w.iter s pos) = .ok (.tuple #[.bool true, .int .i64 pos, .int .i32 b.toNat]) (w.iter s (pos + 1)) := fun ty => by
              rw [run_next_ascii w s pos ty hp (by rw [hbj]; exact ha), hbj]
            clear hb hbj
            by_cases hok : okB b = true
            · have HK := hide_ hok
              have hc : (97 ≤ b.toNat ∧ b.toNat ≤ 122) ∨ (48 ≤ b.toNat ∧ b.toNat ≤ 57) := by simpa [okB] using hok
              clear hok
              rcases hc with ⟨c1, c2⟩ | ⟨c1, c2⟩
              all_goals
                go_wp2
                go_roundw
                case rel => exact ⟨pos + 1, hp, rfl, ⟨by rw [all_take _ _ _ HB.out, HT.out, HK.out]; rfl⟩⟩
                case measure => simp; omega
            · have HK : Hid (okB b = false) := ⟨by simpa using hok⟩
              have hc : b.toNat < 48 ∨ (57 < b.toNat ∧ b.toNat < 97) ∨ 122 < b.toNat := by
                have := hok
                simp [okB] at this
                omega
              clear hok
              rcases hc with c1 | ⟨c1, c2⟩ | c1
              all_goals
                go_wp2
                go_ret
                exact ⟨by rw [H.out, all_bad _ _ _ HB.out HK.out]; rfl, below_alloc (Below.refl _ _) _⟩
          · have HK : Hid (okB b = false) := ⟨okB_high b (by omega)⟩
            have hd := (decode_high s pos hp (by rw [hbj]; omega)).1
            have hnx : ∀ ty, (Instr.next (.pointer (some ⟨w.heap.size, 0, none⟩)) true ty).run Tryz.prog (w.iter s pos) = _ := fun ty => run_next_any w s pos ty hp
            generalize (Utf8.decode s pos).2 = q at hnx
            generalize (Utf8.decode s pos).1 = r at hnx hd
            clear hb hbj ha
            go_wp2
            all_goals (go_ret)
            all_goals (exact ⟨by rw [H.out, all_bad _ _ _ HB.out HK.out]; rfl, below_alloc (Below.refl _ _) _⟩)
        · have hnx : ∀ ty, (Instr.next (.pointer (some ⟨w.heap.size, 0, none⟩)) true ty).run Tryz.prog (w.iter s pos) = _ := fun ty => run_next_end w s pos ty hp
          have HA : Hid (s.data.toList.all okB = true) := ⟨by
            have h := HT.out
            rwa [List.take_of_length_le (by rw [← hsz'.out]; omega)] at h⟩
          go_wp2
          go_ret
          exact ⟨by rw [H.out, HA.out]; rfl, below_alloc (Below.refl _ _) _⟩
    · have H : Hid (rightW s.data.toList = false) := ⟨by rw [hR]; simp [h8]⟩
      have q8 : (8 : Int) < s.size := by omega
      have e0 : s.toList.isEmpty = false := by simpa using h0
      clear hR hsz h0
      go_enter Tryz.func48, Tryz.ntmps48
      go_wp2
      go_ret
      exact ⟨by rw [H.out]; rfl, Below.refl _ _⟩
end Go.Proofs.YtmjedjhgomlfiaaGreatDoor
