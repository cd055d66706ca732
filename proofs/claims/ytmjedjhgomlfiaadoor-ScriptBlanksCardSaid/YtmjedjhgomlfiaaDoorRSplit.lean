/- The reference's Split: the words. -/
import Derived.Test.YtmjedjhgomlfiaaDoorSplitLaw
import Derived.Test.YtmjedjhgomlfiaaDoorWMore
import Derived.Test.YtmjedjhgomlfiaaDoorRef01
import Derived.WalkSpells
namespace Go.Proofs.YtmjedjhgomlfiaaDoor
open Go.RowKit Go.Proofs.YtmjedjhgomlfiaaDoorW.PrintWords

/-- A fact put aside from the walk's simp. -/
structure Hid (p : Prop) : Prop where
  out : p
theorem info9 : (Tryd.prog.info? 9).map (fun i => (i.zero, i.size, i.bytes)) = some (some (.string ⟨#[]⟩), 1, 16) := by kernel_rfl
theorem hide_ {p : Prop} (h : p) : Hid p := ⟨h⟩

set_option maxRecDepth 100000 in
set_option maxHeartbeats 1600000 in
theorem refSplit_any (s : ByteArray) (w : World) (hs : s.size < 4294967281) :
    Calls Tryd.prog 16 #[.string s] w fun e w' => ∃ v, e = .returned v ∧ Kd.string.R 9 w' w.heap.size (fun _ => True) v (words s) ∧ Below w.heap.size w w' := by
  rw [words_W]
  go_enter Tryd.func16, Tryd.ntmps16
  go_wp2
  go_loopw [5, 3, 4] (fun i v c wr => ∃ (j : Nat) (v0 : Value) (out : List ByteArray) (cur : ByteArray), j ≤ s.size ∧ i = .int .i64 j ∧ v0 = v ∧ c = .string cur ∧ Kd.string.R 9 wr w.heap.size (fun _ => True) v0 out
    ∧ Hid (out ++ W (cur.data.toList ++ s.data.toList.drop j) = W s.data.toList) ∧ Hid (∀ b ∈ cur.data.toList, b ≠ 32) ∧ Hid (j = s.size → cur.size = 0) ∧ out.length ≤ j ∧ cur.size ≤ j ∧ Below w.heap.size w wr) (fun i _ _ _ => s.size - (intOf i).toNat)
  case atStart => exact ⟨0, _, [], ⟨#[]⟩, Nat.zero_le _, rfl, rfl, rfl, Kd.R_nil _ _ _ _ _, ⟨by simp⟩, ⟨by simp⟩, ⟨fun _ => rfl⟩, Nat.le_refl _, Nat.le_refl _, Below.refl _ _⟩
  case round =>
    obtain ⟨j, v, out, cur, hj, rfl, rfl, rfl, hR, HO, HF, HE, hol, hcl, hB⟩ := hrel
    by_cases hlt : j < s.size
    · obtain ⟨b, hb⟩ : ∃ b, s.data.toList[j]? = some b := ⟨_, List.getElem?_eq_getElem (by rw [← Lib.size_eq]; exact hlt)⟩
      have hbj : ∀ h : j < s.size, ((s[j]'h).toNat : Int) = (b.toNat : Int) := by
        intro h
        have := (List.getElem?_eq_some_iff.1 hb).2
        rw [← this]; rfl
      have HD : Hid (s.data.toList.drop j = b :: s.data.toList.drop (j + 1)) := ⟨by
        have h := List.getElem?_eq_some_iff.1 hb
        rw [List.drop_eq_getElem_cons h.1, h.2]⟩
      by_cases h32 : b = 32
      · have hbb : ((b.toNat : Int) != 32) = false := by subst h32; rfl
        have hbe : ((b.toNat : Int) == 32) = true := by subst h32; rfl
        have H32 := hide_ h32
        clear h32
        by_cases hce : cur.toList = []
        · go_wp2
          go_roundw
          case rel =>
            have hcd : cur.data.toList = [] := by rw [← ByteArray.toList_eq]; exact hce
            refine ⟨j + 1, v, out, cur, by omega, by go_num, rfl, rfl, hR, ⟨?_⟩, HF, ⟨fun _ => ?_⟩, by omega, by omega, hB⟩
            · have h := HO.out
              rw [HD.out, H32.out, hcd, List.nil_append, W_blank] at h
              rw [hcd]; exact h
            · rw [Lib.size_eq, hcd]; rfl
          case measure => simp [intOf]; omega
        · have hce2 : (!cur.toList.isEmpty) = true := by simp [hce]
          go_wp2_with (at_builtin; refine Kd.R_append Kd.string (w0 := w) w.heap.size rfl (.tmp 38) (.tmp 40) 22 9 (.string ⟨#[]⟩) 16 rfl Tryd.underlying22 info9 rfl (by decide) (by omega) v out (cur) [.string (cur)] (fun _ => True) (fun _ => False) rfl rfl rfl (fun _ hk => hk.elim) (fun _ _ => trivial) hR hB hB.size (by omega) ?_; intro v1 w2 hR1 hB2 hg2 hat2; clear hg2 hat2)
          go_roundw
          case rel =>
            have hcd : cur.data.toList ≠ [] := by rw [← ByteArray.toList_eq]; exact hce
            refine ⟨j + 1, v1, out ++ [cur], ⟨#[]⟩, by omega, by go_num, rfl, rfl, hR1, ⟨?_⟩, ⟨by simp⟩, ⟨fun _ => rfl⟩, by simp; omega, Nat.zero_le _, hB2⟩
            have h := HO.out
            rw [HD.out, H32.out, W_cut _ HF.out hcd, ofL_data] at h
            rw [← h]; simp
          case measure => simp [intOf]; omega
      · have hbb : ((b.toNat : Int) != 32) = true := by
          rw [bne_iff_ne]; intro h; apply h32; apply UInt8.toNat_inj.1; simpa using (by omega : b.toNat = 32)
        have hbe : ((b.toNat : Int) == 32) = false := by simpa using hbb
        have HB := hide_ h32
        clear h32
        have hxd : (cur ++ s.extract j (j + 1)).data.toList = cur.data.toList ++ [b] := by
          have h := List.getElem?_eq_some_iff.1 hb
          rw [ByteArray.data_append, Array.toList_append, Lib.extract_data]
          have := HD.out
          simp [this]
        have HX := hide_ hxd
        have HXF : Hid (∀ c ∈ (cur ++ s.extract j (j + 1)).data.toList, c ≠ 32) := ⟨by
          rw [hxd]; intro c hc
          rcases List.mem_append.1 hc with h | h
          · exact HF.out c h
          · simp at h; subst h; exact HB.out⟩
        have hxs : (cur ++ s.extract j (j + 1)).size = cur.size + 1 := by
          rw [Lib.size_eq, hxd, Lib.size_eq]; simp
        have hxn : ¬ (cur ++ s.extract j (j + 1)).toList = [] := by rw [ByteArray.toList_eq, hxd]; simp
        have hxn2 : (!(cur ++ s.extract j (j + 1)).toList.isEmpty) = true := by simp [hxn]
        clear hxd
        by_cases hl : j + 1 = s.size
        · have hl2 : ((j : Int) == (s.size : Int) - 1) = true := by rw [beq_iff_eq]; omega
          have HL := hide_ hl
          clear hl
          go_wp2_with (at_builtin; refine Kd.R_append Kd.string (w0 := w) w.heap.size rfl (.tmp 38) (.tmp 40) 22 9 (.string ⟨#[]⟩) 16 rfl Tryd.underlying22 info9 rfl (by decide) (by omega) v out (cur ++ s.extract j (j + 1)) [.string (cur ++ s.extract j (j + 1))] (fun _ => True) (fun _ => False) rfl rfl rfl (fun _ hk => hk.elim) (fun _ _ => trivial) hR hB hB.size (by omega) ?_; intro v1 w2 hR1 hB2 hg2 hat2; clear hg2 hat2)
          go_roundw
          case rel =>
            refine ⟨j + 1, v1, out ++ [cur ++ s.extract j (j + 1)], ⟨#[]⟩, by omega, by go_num, rfl, rfl, hR1, ⟨?_⟩, ⟨by simp⟩, ⟨fun _ => rfl⟩, by simp; omega, Nat.zero_le _, hB2⟩
            have h := HO.out
            have hd : s.data.toList.drop (j + 1) = [] := List.drop_eq_nil_of_le (by rw [← Lib.size_eq, HL.out]; exact Nat.le_refl _)
            have hW := W_free HXF.out (by rw [HX.out]; simp)
            rw [HD.out, hd] at h
            rw [ofL_data, HX.out] at hW
            rw [hW] at h
            rw [hd]
            simpa [W_nil] using h
          case measure => simp [intOf]; omega
        · have hl2 : ((j : Int) == (s.size : Int) - 1) = false := by rw [beq_eq_false_iff_ne]; omega
          go_wp2
          go_roundw
          case rel =>
            refine ⟨j + 1, v, out, cur ++ s.extract j (j + 1), by omega, by go_num, rfl, rfl, hR, ⟨?_⟩, HXF, ⟨fun h => absurd h hl⟩, by omega, by omega, hB⟩
            have h := HO.out
            rw [HD.out] at h
            rw [HX.out, List.append_assoc]
            exact h
          case measure => simp [intOf]; omega
    · obtain rfl : j = s.size := by omega
      have hc0 := HE.out rfl
      have hcd : cur.data.toList = [] := by
        rw [Lib.size_eq] at hc0
        exact List.length_eq_zero_iff.1 hc0
      have hout : out = W s.data.toList := by
        have h := HO.out
        rw [hcd, List.drop_eq_nil_of_le (by rw [← Lib.size_eq]; exact Nat.le_refl _)] at h
        simpa [W_nil] using h
      have HH := hide_ hout
      clear HO HF HE hcd hout
      go_wp2
      go_ret
      exact ⟨v, rfl, by rw [← HH.out]; exact hR, hB⟩
end Go.Proofs.YtmjedjhgomlfiaaDoor
