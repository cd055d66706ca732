/- word.Num: the program's answer. It writes nothing that was there. -/
import Derived.Test.YtmjedjhgomlfiaaGreatDoorText
import Derived.Test.YtmjedjhgomlfiaaGreatDoorNumsAll
import Derived.Test.YtmjedjhgomlfiaaGreatDoorRSplit
namespace Go.Proofs.YtmjedjhgomlfiaaGreatDoor
open Go.RowKit Go.Proofs.YtmjedjhgomlfiaaGreatDoorW.PrintWords

/-- What the world must hold for the numerals' functions. -/
structure Lay (w : World) : Prop where
  pow : Lib.TabIs Tryz.prog w "internal/strconv.uint64pow10" .u64 Lib.pow10Tab
  syn : ∃ tp p, w.var? Tryz.prog "strconv.ErrSyntax" = some #[.iface tp p]
  rng : ∃ tp p, w.var? Tryz.prog "strconv.ErrRange" = some #[.iface tp p]
theorem Lay.below {w w' : World} (h : Lay w) (hb : Below w.heap.size w w') : Lay w' :=
  ⟨tab_below hb h.pow, h.syn.imp fun _ h => h.imp fun _ h => var_below hb h, h.rng.imp fun _ h => h.imp fun _ h => var_below hb h⟩

theorem atoi_bad (s : ByteArray) (hs : s.size ≤ 281474976710656) (w : World) (hL : Lay w) (h : ∀ v, Lib.atoiAll s.data.toList ≠ .ok v) :
    Calls Tryz.prog 68 #[.string s] w fun e w' => ∃ m N, e = .returned (.tuple #[.int .i64 m, .iface 123 (.pointer (some ⟨N, 0, none⟩))]) ∧ Below w.heap.size w w' := by
  obtain ⟨t1, p1, h1⟩ := hL.syn
  obtain ⟨t2, p2, h2⟩ := hL.rng
  by_cases hr : Lib.atoiAll s.data.toList = .range
  · exact (Tryz.strconv_Atoi_range_var s hs hr t2 p2 w h2).mono fun e w' ⟨N, he, _, _, hb⟩ => ⟨_, N, he, hb⟩
  · exact (Tryz.strconv_Atoi_bad s hs ⟨h, hr⟩ t1 p1 w h1).mono fun e w' ⟨N, he, _, _, hb⟩ => ⟨_, N, he, hb⟩
theorem atoi_good (s : ByteArray) (hs : s.size ≤ 281474976710656) (w : World) (v : Int) (h : Lib.atoiAll s.data.toList = .ok v) :
    Calls Tryz.prog 68 #[.string s] w fun e w' => e = .returned (.tuple #[.int .i64 v, .nilIface]) ∧ Below w.heap.size w w' := by
  refine (Tryz.strconv_Atoi_ok s (by omega) v h w).mono ?_
  rintro e w' ⟨he, h⟩
  refine ⟨he, ?_⟩
  rcases h with rfl | ⟨t, rfl⟩
  · exact Below.refl _ _
  · exact bytes_below (Below.refl _ _) (Nat.le_refl _) 5 t

set_option maxRecDepth 100000 in
set_option maxHeartbeats 1600000 in
theorem num_any (s : ByteArray) (hs : s.size ≤ 281474976710656) (w : World) (hL : Lay w) :
    Calls Tryz.prog 61 #[.string s] w fun e w' => e = .returned (.tuple #[.int .i64 (wordNum s.data.toList).1, .bool (wordNum s.data.toList).2]) ∧ Below w.heap.size w w' := by
  by_cases hv : ∃ v, Lib.atoiAll s.data.toList = .ok v
  · obtain ⟨v, hv⟩ := hv
    have hgood := atoi_good s hs w v hv
    by_cases hr : -1000000 ≤ v ∧ v ≤ 1000000
    · have hW : Hid (wordNum s.data.toList = if Lib.itoa v = s.data.toList then (v, true) else (0, false)) := ⟨by
        unfold wordNum; rw [hv]; simp only [hr.1, hr.2, true_and]⟩
      have q1 : ¬ 1000000 < v := by omega
      have q2 : ¬ v < -1000000 := by omega
      have r1 : -9223372036854775808 ≤ v := by omega
      have r2 : v ≤ 9223372036854775807 := by omega
      clear hv hr
      go_enter Tryz.func61, Tryz.ntmps61
      go_wp2_with (go_at_call 68; refine hgood.mono ?_; rintro e w1 ⟨rfl, hb⟩)
      have htx := text_any v r1 r2 w1 (hL.below hb).pow
      by_cases hi : Lib.itoa v = s.data.toList
      · have hi2 : ((ofL (Lib.itoa v)).toList == s.toList) = true := by rw [hi]; exact beq_self_eq_true _
        have HI := hide_ hi
        clear hi
        go_wp2_with (go_at_call 29; refine htx.mono ?_; rintro e w2 ⟨rfl, hb2⟩)
        go_ret2
        exact ⟨by rw [hW.out, if_pos HI.out]; simp [*], below_then hb hb.size hb2⟩
      · have hi2 : ((ofL (Lib.itoa v)).toList == s.toList) = false := by
          rw [beq_eq_false_iff_ne]; intro h; rw [ByteArray.toList_eq, ByteArray.toList_eq] at h; exact hi h
        have HI := hide_ hi
        clear hi
        go_wp2_with (go_at_call 29; refine htx.mono ?_; rintro e w2 ⟨rfl, hb2⟩)
        go_ret2
        exact ⟨by rw [hW.out, if_neg HI.out]; simp [*], below_then hb hb.size hb2⟩
    · have hW : Hid (wordNum s.data.toList = (0, false)) := ⟨by
        unfold wordNum; rw [hv]; exact if_neg (fun x => hr ⟨x.1, x.2.1⟩)⟩
      clear hv
      have hr2 : 1000000 < v ∨ v < -1000000 := by omega
      clear hr
      rcases hr2 with hr | hr
      · go_enter Tryz.func61, Tryz.ntmps61
        go_wp2_with (go_at_call 68; refine hgood.mono ?_; rintro e w1 ⟨rfl, hb⟩)
        go_ret2
        exact ⟨by rw [hW.out]; simp [*], hb⟩
      · have hr3 : ¬ 1000000 < v := by omega
        go_enter Tryz.func61, Tryz.ntmps61
        go_wp2_with (go_at_call 68; refine hgood.mono ?_; rintro e w1 ⟨rfl, hb⟩)
        go_ret2
        exact ⟨by rw [hW.out]; simp [*], hb⟩
  · have hbad := atoi_bad s hs w hL (fun v h => hv ⟨v, h⟩)
    have hW : Hid (wordNum s.data.toList = (0, false)) := ⟨by
      unfold wordNum
      split
      · rename_i v h; exact absurd ⟨v, h⟩ hv
      · rfl⟩
    clear hv
    go_enter Tryz.func61, Tryz.ntmps61
    go_wp2_with (go_at_call 68; refine hbad.mono ?_; rintro e w1 ⟨m, N, rfl, hb⟩)
    go_ret2
    exact ⟨by rw [hW.out]; simp [*], hb⟩
end Go.Proofs.YtmjedjhgomlfiaaGreatDoor
