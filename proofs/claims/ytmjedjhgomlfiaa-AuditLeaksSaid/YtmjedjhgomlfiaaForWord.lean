/- word.Right and ref.Right: a word has one to eight signs, each one of a..z or 0..9; named on both sides. -/
import Derived.Test.YtmjedjhgomlfiaaRefFor1
import Derived.Test.YtmjedjhgomlfiaaForests
import Derived.Laws.RangeAny
set_option linter.unusedSimpArgs false
namespace Go.Proofs.Ytmjedjhgomlfiaa
open Go.RowKit Go.Proofs.YtmjedjhgomlfiaaW.PrintWords Go.Proofs.YtmjedjhgomlfiaaW.PrintLast Go.Proofs.Ytmjedjhgomlfiaa.PAuditLeaks Go.Lib

theorem bt_data (s : ByteArray) (j : Nat) (b : UInt8) (h : s.data.toList[j]? = some b) : bt s (j : Int) = (b.toNat : Int) := by
  have hj := List.getElem?_eq_some_iff.1 h
  have hs : (j : Int).toNat < s.size := by rw [Lib.size_eq]; simpa using hj.1
  rw [← bt_at s j hs, ← hj.2]
  rfl
/-- A fact set aside. -/
structure Hd (p : Prop) : Prop where
  mk :: (out : p)
theorem hd_ {p : Prop} (h : p) : Hd p := ⟨h⟩
/-- A sign of a word. -/
def okB (b : UInt8) : Bool := (decide (97 ≤ b.toNat) && decide (b.toNat ≤ 122)) || (decide (48 ≤ b.toNat) && decide (b.toNat ≤ 57))
/-- A word. -/
def rightW (s : List UInt8) : Bool := decide (1 ≤ s.length) && (decide (s.length ≤ 8) && s.all okB)

theorem right_l0 (s : ByteArray) (hs : s.size ≤ 8) : ∀ (m j : Nat), j + m = s.size → ∀ k, m + 1 ≤ k → towncrierref01_Right.l0 k s j = some ((s.data.toList.drop j).all okB)
  | 0, j, h, k, hk => by
    obtain ⟨k, rfl⟩ : ∃ k2, k = k2 + 1 := ⟨k - 1, by omega⟩
    rw [towncrierref01_Right.l0, if_neg (by omega), List.drop_eq_nil_of_le (by rw [← Lib.size_eq]; omega)]
    rfl
  | m + 1, j, h, k, hk => by
    obtain ⟨k, rfl⟩ : ∃ k2, k = k2 + 1 := ⟨k - 1, by omega⟩
    have hjl : j < s.data.toList.length := by rw [← Lib.size_eq]; omega
    obtain ⟨b, hb⟩ : ∃ b, s.data.toList[j]? = some b := ⟨_, List.getElem?_eq_getElem hjl⟩
    have hd : s.data.toList.drop j = b :: s.data.toList.drop (j + 1) := by
      rw [List.drop_eq_getElem_cons hjl, (List.getElem?_eq_some_iff.1 hb).2]
    have ih := right_l0 s hs m (j + 1) (by omega) k (by omega)
    have hw : wrap64 ((j : Int) + 1) = ((j + 1 : Nat) : Int) := by rw [IntWalk.wrap64_in _ (by omega)]; omega
    rw [towncrierref01_Right.l0, if_pos (by omega), if_pos (by omega), bt_data s j b hb, hd, hw, ih, List.all_cons]
    unfold okB
    by_cases h1 : 97 ≤ b.toNat
    · rw [if_pos (by omega)]
      by_cases h2 : b.toNat ≤ 122
      · rw [if_pos (by omega)]
        simp [h1, h2]
      · rw [if_neg (by omega), if_pos (by omega), if_neg (by omega)]
        have h3 : ¬ b.toNat ≤ 57 := by omega
        simp [h2, h3]
    · rw [if_neg (by omega)]
      by_cases h2 : 48 ≤ b.toNat
      · rw [if_pos (by omega)]
        by_cases h3 : b.toNat ≤ 57
        · rw [if_pos (by omega)]
          simp [h1, h2, h3]
        · rw [if_neg (by omega)]
          simp [h1, h3]
      · rw [if_neg (by omega)]
        simp [h1, h2]
theorem right_f (s : ByteArray) : ∃ k, towncrierref01_Right.f k s = some (rightW s.data.toList) := by
  refine ⟨s.size + 2, ?_⟩
  have hsz : s.size = s.data.toList.length := Lib.size_eq s
  unfold rightW
  rw [towncrierref01_Right.f, ← hsz]
  by_cases h1 : 1 ≤ s.size
  · rw [if_neg (by omega), towncrierref01_Right.j0]
    by_cases h8 : s.size ≤ 8
    · rw [if_neg (by simp; omega)]
      have h0 := right_l0 s h8 s.size 0 (by omega) (s.size + 1) (by omega)
      rw [show ((0 : Nat) : Int) = 0 from rfl, List.drop_zero] at h0
      rw [h0]
      simp [h1, h8]
    · rw [if_pos (by simp; omega)]
      simp [h8]
  · rw [if_pos (by omega), towncrierref01_Right.j0, if_pos rfl]
    simp [h1]
theorem okB_high (b : UInt8) (h : 128 ≤ b.toNat) : okB b = false := by
  unfold okB
  have h1 : ¬ b.toNat ≤ 122 := by omega
  have h2 : ¬ b.toNat ≤ 57 := by omega
  simp [h1, h2]
theorem all_take (s : List UInt8) (j : Nat) (b : UInt8) (h : s[j]? = some b) : (s.take (j + 1)).all okB = ((s.take j).all okB && okB b) := by
  rw [List.take_add_one, h]; simp
theorem all_bad (s : List UInt8) (j : Nat) (b : UInt8) (h : s[j]? = some b) (hb : okB b = false) : s.all okB = false := by
  rw [List.all_eq_false]
  exact ⟨b, List.mem_of_getElem? h, by simp [hb]⟩

set_option maxRecDepth 100000 in
set_option maxHeartbeats 1600000 in
theorem right_any (s : ByteArray) (w : World) :
    Calls Try.prog 62 #[.string s] w fun e w' => e = .returned (.bool (rightW s.data.toList)) ∧ Below w.heap.size w w' := by
  have hsz : s.size = s.data.toList.length := Lib.size_eq s
  have hR : rightW s.data.toList = (decide (1 ≤ s.size) && (decide (s.size ≤ 8) && s.data.toList.all okB)) := by unfold rightW; rw [hsz]
  by_cases h0 : s.toList = []
  · have H : Hd (rightW s.data.toList = false) := ⟨by
      rw [ByteArray.toList_eq] at h0; rw [h0]; rfl⟩
    clear hR hsz
    go_enter Try.func62, Try.ntmps62
    go_wp2
    go_ret
    exact ⟨by rw [H.out]; rfl, Below.refl _ _⟩
  · have h1 : 1 ≤ s.size := by
      rw [ByteArray.toList_eq] at h0
      rw [hsz]; exact List.length_pos_iff.2 h0
    by_cases h8 : s.size ≤ 8
    · have H : Hd (rightW s.data.toList = s.data.toList.all okB) := ⟨by rw [hR]; simp [h1, h8]⟩
      have q8 : ¬ (8 : Int) < s.size := by omega
      have e0 : s.toList.isEmpty = false := by simpa using h0
      clear h0
      have hsz' := hd_ hsz
      clear hR hsz
      go_enter Try.func62, Try.ntmps62
      go_wp2
      go_loopw [] (fun wr => ∃ pos, pos ≤ s.size ∧ wr = w.iter s pos ∧ Hd ((s.data.toList.take pos).all okB = true)) (fun wr => s.size - wr.iterPos w.heap.size)
      case atStart => exact ⟨0, Nat.zero_le _, rfl, ⟨by simp⟩⟩
      case round =>
        obtain ⟨pos, hpl, rfl, HT⟩ := hrel
        by_cases hp : pos < s.size
        · obtain ⟨b, hb⟩ : ∃ b, s.data.toList[pos]? = some b := ⟨_, List.getElem?_eq_getElem (by rw [← Lib.size_eq]; exact hp)⟩
          have hbj : (s[pos]'hp) = b := (List.getElem?_eq_some_iff.1 hb).2
          have HB := hd_ hb
          by_cases ha : b.toNat < 128
          · have hnx : ∀ ty, (Instr.next (.pointer (some ⟨w.heap.size, 0, none⟩)) true ty).run Try.prog (w.iter s pos) = .ok (.tuple #[.bool true, .int .i64 pos, .int .i32 b.toNat]) (w.iter s (pos + 1)) := fun ty => by
              rw [run_next_ascii w s pos ty hp (by rw [hbj]; exact ha), hbj]
            clear hb hbj
            by_cases hok : okB b = true
            · have HK := hd_ hok
              have hc : (97 ≤ b.toNat ∧ b.toNat ≤ 122) ∨ (48 ≤ b.toNat ∧ b.toNat ≤ 57) := by simpa [okB] using hok
              clear hok
              rcases hc with ⟨c1, c2⟩ | ⟨c1, c2⟩
              all_goals
                go_wp2
                go_roundw
                case rel => exact ⟨pos + 1, hp, rfl, ⟨by rw [all_take _ _ _ HB.out, HT.out, HK.out]; rfl⟩⟩
                case measure => simp; omega
            · have HK : Hd (okB b = false) := ⟨by simpa using hok⟩
              have hc : b.toNat < 48 ∨ (57 < b.toNat ∧ b.toNat < 97) ∨ 122 < b.toNat := by
                have := hok
                simp [okB] at this
                omega
              clear hok
              rcases hc with c1 | ⟨c1, c2⟩ | c1
              all_goals
                go_wp2
                go_ret
                exact ⟨by rw [H.out, all_bad _ _ _ HB.out HK.out]; rfl, below_alloc (Below.refl _ _) _⟩
          · have HK : Hd (okB b = false) := ⟨okB_high b (by omega)⟩
            have hd := (decode_high s pos hp (by rw [hbj]; omega)).1
            have hnx : ∀ ty, (Instr.next (.pointer (some ⟨w.heap.size, 0, none⟩)) true ty).run Try.prog (w.iter s pos) = _ := fun ty => run_next_any w s pos ty hp
            generalize (Utf8.decode s pos).2 = q at hnx
            generalize (Utf8.decode s pos).1 = r at hnx hd
            clear hb hbj ha
            go_wp2
            all_goals (go_ret)
            all_goals (exact ⟨by rw [H.out, all_bad _ _ _ HB.out HK.out]; rfl, below_alloc (Below.refl _ _) _⟩)
        · have hnx : ∀ ty, (Instr.next (.pointer (some ⟨w.heap.size, 0, none⟩)) true ty).run Try.prog (w.iter s pos) = _ := fun ty => run_next_end w s pos ty hp
          have HA : Hd (s.data.toList.all okB = true) := ⟨by
            have h := HT.out
            rwa [List.take_of_length_le (by rw [← hsz'.out]; omega)] at h⟩
          go_wp2
          go_ret
          exact ⟨by rw [H.out, HA.out]; rfl, below_alloc (Below.refl _ _) _⟩
    · have H : Hd (rightW s.data.toList = false) := ⟨by rw [hR]; simp [h8]⟩
      have q8 : (8 : Int) < s.size := by omega
      have e0 : s.toList.isEmpty = false := by simpa using h0
      clear hR hsz h0
      go_enter Try.func62, Try.ntmps62
      go_wp2
      go_ret
      exact ⟨by rw [H.out]; rfl, Below.refl _ _⟩
/-- Empty, or a word. -/
def namedW (s : ByteArray) : Bool := s.toList.isEmpty || rightW s.data.toList
set_option maxRecDepth 100000 in
set_option maxHeartbeats 1600000 in
theorem named_any (s : ByteArray) (w : World) :
    Calls Try.prog 48 #[.string s] w fun e w' => e = .returned (.bool (namedW s)) ∧ Below w.heap.size w w' := by
  have hr := right_any s w
  by_cases h0 : s.toList = []
  · have H : Hd (namedW s = true) := ⟨by unfold namedW; rw [h0]; rfl⟩
    go_enter Try.func48, Try.ntmps48
    go_wp2
    go_ret
    exact ⟨by rw [H.out]; rfl, Below.refl _ _⟩
  · have H : Hd (namedW s = rightW s.data.toList) := ⟨by unfold namedW; simp [h0]⟩
    go_enter Try.func48, Try.ntmps48
    go_wp2_with (go_at_call 62; refine hr.mono ?_; rintro e w1 ⟨rfl, hb1⟩)
    go_ret
    exact ⟨rfl, hb1⟩
end Go.Proofs.Ytmjedjhgomlfiaa
