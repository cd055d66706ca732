/- The texts of this seat, joined: part 16 of 25. -/
import Derived.Test.YtgopddjmmoohdaaGreatDoorSl15
/- edit over forests: into. -/
set_option linter.unusedSimpArgs false
set_option linter.unusedVariables false
namespace Go.Proofs.YtgopddjmmoohdaaGreatDoor
open Go.RowKit Go.Proofs.YtgopddjmmoohdaaGreatDoorW.PrintWords Go.Proofs.YtgopddjmmoohdaaGreatDoorW.PrintLast Go.Proofs.YtgopddjmmoohdaaGreatDoor.PPlaySilent

set_option maxRecDepth 100000 in
set_option maxHeartbeats 3200000 in
theorem into_any (xs ys : List Int) (A A2 : Option Addr) (c c2 at_ : Nat) (w : World) (h : (Kd.int .i64).C w A xs.length xs) (hc : xs.length ≤ c) (h2 : (Kd.int .i64).C w A2 ys.length ys) (ha : at_ ≤ xs.length) (hx : xs.length ≤ 100000) (hy : ys.length ≤ 100000) :
    Calls Tryz.prog 71 #[.slice A xs.length c, .int .i64 at_, .slice A2 ys.length c2] w fun e w' => ∃ A' c', e = .returned (.slice A' (xs.take at_ ++ ys ++ xs.drop at_).length c') ∧ (Kd.int .i64).R 3 w' w.heap.size (fun _ => True) (.slice A' (xs.take at_ ++ ys ++ xs.drop at_).length c') (xs.take at_ ++ ys ++ xs.drop at_) ∧ Below w.heap.size w w' := by
  have hT := Kd.C_take h ha
  have hD := Kd.C_drop h ha hc
  have hcl := fun W (hB : Below w.heap.size w W) => clone_any (xs.take at_) A c W (Kd.C_below hT hB) (by rw [List.length_take]; omega)
  have hlt : (xs.take at_).length = at_ := by rw [List.length_take]; omega
  have hld : (xs.drop at_).length = xs.length - at_ := by rw [List.length_drop]
  rw [hlt] at hcl
  have hac : (at_ : Int) ≤ c := by omega
  have hld2 : ((xs.length - at_ : Nat) : Int) = (xs.length : Int) - at_ := by omega
  have hl3 : (xs.take at_ ++ ys).length = at_ + ys.length := by rw [List.length_append, hlt]
  cases A with
  | none =>
    obtain rfl : xs = [] := by
      cases xs with
      | nil => rfl
      | cons a r => obtain ⟨ad, h1, _⟩ := h.2.2 (by simp); cases h1
    obtain rfl : at_ = 0 := by simpa using ha
    simp only [List.take_nil, List.drop_nil, List.nil_append, List.append_nil, List.length_nil] at hcl hl3 ⊢
    have hD0 := Kd.C_nil (Kd.int .i64) w
    clear hT hD hlt hld hld2 hac hl3 ha hx h
    have hac : (0 : Int) ≤ c := by omega
    go_enter Tryz.func71, Tryz.ntmps71
    go_wp2_with (first
      | (go_at_call 74; (with_reducible refine (hcl _ (Below.refl _ _)).mono ?_); rintro e w1 ⟨A3, c3, rfl, hc3, -, hR3, hB3⟩)
      | (at_builtin; refine Kd.R_append_row (Value.int .i64) (0 : Int) (w0 := w) w.heap.size rfl (.tmp 12) (.tmp 13) 32 3 (.int .i64 0) 8 rfl Tryz.underlying32 info3 rfl (by decide) (.slice A3 0 c3) ([] : List Int) ys A2 ys.length c2 (fun _ => True) rfl rfl (fun _ _ => trivial) hR3 (Kd.C_below h2 hB3) hB3 hB3.size (by simp only [List.length_nil]; omega) ?_; intro v4 w4 hR4 hB4 hg4 hat4)
      | (at_builtin; refine Kd.R_append_row (Value.int .i64) (0 : Int) (w0 := w) w.heap.size rfl (.tmp 15) (.tmp 18) 32 3 (.int .i64 0) 8 rfl Tryz.underlying32 info3 rfl (by decide) v4 ys ([] : List Int) none 0 _ (fun _ => True) rfl rfl (fun _ _ => trivial) hR4 (Kd.C_below hD0 hB4) hB4 hB4.size (by omega) ?_; intro v5 w5 hR5 hB5 hg5 hat5))
    go_ret
    try rw [List.append_nil] at hR5
    obtain ⟨A5, c5, rfl, hl5, -⟩ := Kd.R_reads hR5
    exact ⟨A5, c5, rfl, hR5, hB5⟩
  | some ad =>
  by_cases hcat : c = at_
  · rw [if_pos hcat] at hD
    obtain rfl := hcat.symm
    rw [hld, show xs.length - at_ = 0 by omega] at hD
    clear hac
    go_enter Tryz.func71, Tryz.ntmps71
    go_wp2_with (first
      | (go_at_call 74; (with_reducible refine (hcl _ (Below.refl _ _)).mono ?_); rintro e w1 ⟨A3, c3, rfl, hc3, -, hR3, hB3⟩)
      | (at_builtin; refine Kd.R_append_row (Value.int .i64) (0 : Int) (w0 := w) w.heap.size rfl (.tmp 12) (.tmp 13) 32 3 (.int .i64 0) 8 rfl Tryz.underlying32 info3 rfl (by decide) (.slice A3 at_ c3) (xs.take at_) ys A2 ys.length c2 (fun _ => True) rfl rfl (fun _ _ => trivial) hR3 (Kd.C_below h2 hB3) hB3 hB3.size (by omega) ?_; intro v4 w4 hR4 hB4 hg4 hat4)
      | (at_builtin; refine Kd.R_append_row (Value.int .i64) (0 : Int) (w0 := w) w.heap.size rfl (.tmp 15) (.tmp 18) 32 3 (.int .i64 0) 8 rfl Tryz.underlying32 info3 rfl (by decide) v4 (xs.take at_ ++ ys) (xs.drop at_) _ 0 _ (fun _ => True) rfl rfl (fun _ _ => trivial) hR4 (Kd.C_below hD hB4) hB4 hB4.size (by omega) ?_; intro v5 w5 hR5 hB5 hg5 hat5))
    go_ret
    obtain ⟨A5, c5, rfl, hl5, -⟩ := Kd.R_reads hR5
    exact ⟨A5, c5, rfl, hR5, hB5⟩
  · rw [if_neg hcat, show at_ * (Kd.int .i64).sz = at_ from Nat.mul_one _] at hD
    simp only [Option.map_some] at hD
    rw [hld] at hD
    have hcat2 : ¬ (c : Int) = at_ := by omega
    have hcat3 : ¬ (at_ : Int) = c := by omega
    go_enter Tryz.func71, Tryz.ntmps71
    go_wp2_with (first
      | (go_at_call 74; (with_reducible refine (hcl _ (Below.refl _ _)).mono ?_); rintro e w1 ⟨A3, c3, rfl, hc3, -, hR3, hB3⟩)
      | (at_builtin; refine Kd.R_append_row (Value.int .i64) (0 : Int) (w0 := w) w.heap.size rfl (.tmp 12) (.tmp 13) 32 3 (.int .i64 0) 8 rfl Tryz.underlying32 info3 rfl (by decide) (.slice A3 at_ c3) (xs.take at_) ys A2 ys.length c2 (fun _ => True) rfl rfl (fun _ _ => trivial) hR3 (Kd.C_below h2 hB3) hB3 hB3.size (by omega) ?_; intro v4 w4 hR4 hB4 hg4 hat4)
      | (at_builtin; refine Kd.R_append_row (Value.int .i64) (0 : Int) (w0 := w) w.heap.size rfl (.tmp 15) (.tmp 18) 32 3 (.int .i64 0) 8 rfl Tryz.underlying32 info3 rfl (by decide) v4 (xs.take at_ ++ ys) (xs.drop at_) (some (ad.add at_)) (xs.length - at_) (c - at_) (fun _ => True) rfl rfl (fun _ _ => trivial) hR4 (Kd.C_below hD hB4) hB4 hB4.size (by omega) ?_; intro v5 w5 hR5 hB5 hg5 hat5))
    go_ret
    obtain ⟨A5, c5, rfl, hl5, -⟩ := Kd.R_reads hR5
    exact ⟨A5, c5, rfl, hR5, hB5⟩
end Go.Proofs.YtgopddjmmoohdaaGreatDoor

/- Children once each; what Before makes of a forest. Plain law. -/
set_option linter.unusedSimpArgs false
set_option linter.unusedVariables false
namespace Go.Proofs.YtgopddjmmoohdaaGreatDoor
open Go.RowKit Go.Proofs.YtgopddjmmoohdaaGreatDoorW.PrintWords Go.Proofs.YtgopddjmmoohdaaGreatDoorW.PrintLast Go.Proofs.YtgopddjmmoohdaaGreatDoor.PPlaySilent

theorem okIds_nodup {l : List S115} : ∀ {ks seen : List Int}, okIds l seen ks = true → ks.Nodup ∧ ∀ k ∈ ks, k ∉ seen
  | [], _, _ => ⟨List.nodup_nil, by simp⟩
  | k :: r, seen, h => by
    rw [okIds, Bool.and_eq_true, Bool.and_eq_true] at h
    obtain ⟨-, h2, h3⟩ := h
    obtain ⟨h4, h5⟩ := okIds_nodup h3
    have hk : k ∉ seen := by simpa using h2
    refine ⟨List.nodup_cons.2 ⟨fun hm => h5 k hm (by simp), h4⟩, fun x hx => ?_⟩
    rcases List.mem_cons.1 hx with rfl | hx
    · exact hk
    · exact fun hs => h5 x hx (List.mem_append_left _ hs)
def ND (l : List S115) : Prop := ∀ k x, nodeF l k = some x → x.f8.Nodup
structure WF8 (l : List S115) : Prop where
  wf : WF l
  nd : ND l
theorem WF8.nil : WF8 [] := ⟨WF.nil, fun k x h => by simp [nodeF] at h⟩
theorem WF8.kidsLen {l : List S115} (h : WF8 l) {k : Int} {x : S115} (hx : nodeF l k = some x) : x.f8.length ≤ l.length :=
  nodup_le l.length x.f8 (h.nd k x hx) (fun y hy => by
    obtain ⟨z, hz⟩ := h.wf.kid x (nodeF_mem hx) y hy
    exact nodeF_range hz)
theorem WF8.kidsD {l : List S115} (h : WF8 l) (k : Int) : (nodeD l k).f8.length ≤ l.length := by
  cases hn : nodeF l k with
  | none => rw [nodeD_none hn]; exact Nat.zero_le _
  | some x => rw [nodeD_some hn]; exact h.kidsLen hn
/-- The same children. -/
theorem ND.same {l l' : List S115} (h : ND l) (hs : ∀ k y, nodeF l' k = some y → y.f8 = [] ∨ ∃ x j, nodeF l j = some x ∧ x.f8 = y.f8) : ND l' := fun k y hy => by
  rcases hs k y hy with h1 | ⟨x, j, h1, h2⟩
  · rw [h1]; exact List.nodup_nil
  · rw [← h2]; exact h j x h1
theorem ND.set {l : List S115} (h : ND l) {id : Int} {x x' : S115} (hx : nodeF l id = some x) (he : x'.f8 = x.f8) : ND (l.set (id - 1).toNat x') := h.same (fun k y hy => by
  rw [nodeF_set hx] at hy
  split at hy
  · simp only [Option.some.injEq] at hy
    exact .inr ⟨x, id, hx, by rw [← hy, he]⟩
  · exact .inr ⟨y, k, hy, rfl⟩)
theorem WF8.name {l : List S115} (h : WF8 l) (id : Int) (s : ByteArray) : WF8 (nameF l id s) := ⟨h.wf.name id s, by
  unfold nameF
  split
  · exact h.nd
  · rename_i x hx
    split
    · split
      · exact h.nd.set hx rfl
      · exact h.nd
    · exact h.nd⟩
theorem WF8.want {l : List S115} (h : WF8 l) (id : Int) (s : ByteArray) : WF8 (wantF l id s) := ⟨h.wf.want id s, by
  unfold wantF
  split
  · exact h.nd
  · rename_i x hx
    split
    · split
      · exact h.nd.set hx rfl
      · exact h.nd
    · exact h.nd⟩
theorem WF8.make {l : List S115} (h : WF8 l) (k m : Int) (sl : Bool) (nm wt : ByteArray) : WF8 (makeF l k m sl nm wt) := ⟨h.wf.make k m sl nm wt, by
  unfold makeF
  split
  · split
    · refine h.nd.same (fun j y hy => ?_)
      rw [nodeF_append] at hy
      split at hy
      · simp only [Option.some.injEq] at hy
        exact .inl (by rw [← hy])
      · exact .inr ⟨y, j, hy, rfl⟩
    · exact h.nd
  · exact h.nd⟩
theorem WF8.tie {l : List S115} (h : WF8 l) (a b : Int) : WF8 (tieF l a b) := ⟨h.wf.tie a b, by
  cases ha : nodeF l a with
  | none => rw [tieF_none b ha]; exact h.nd
  | some x =>
    cases hb : nodeF l b with
    | none => rw [tieF_none2 ha hb]; exact h.nd
    | some y =>
      rw [tieF_some ha hb]
      repeat' split
      all_goals first
        | exact h.nd
        | skip
      have h1 := h.nd.set (x' := { x with f3 := b }) ha rfl
      have hb' : ∃ y', nodeF (l.set (a - 1).toNat { x with f3 := b }) b = some y' ∧ y'.f8 = y.f8 := by
        rw [nodeF_set ha]
        split
        · rename_i e
          subst e
          rw [ha] at hb
          exact ⟨_, rfl, by cases hb; rfl⟩
        · exact ⟨y, hb, rfl⟩
      obtain ⟨y', hy', he⟩ := hb'
      exact h1.set hy' he.symm⟩
/-- Put does nothing, or all. -/
theorem putF_or {l : List S115} {p : Int} {ks : List Int} {x : S115} (hx : nodeF l p = some x) : putF l p ks = l ∨ (okIds l [] ks = true ∧ (putF l p ks).length = l.length ∧ ∀ k, nodeF (putF l p ks) k = (nodeF l k).map (putN p ks x.f8 k)) := by
  cases h1 : okIds l [] ks with
  | false => exact .inl (putF_bad hx h1)
  | true =>
    cases h2 : okKids l p ks with
    | false => exact .inl (putF_bad2 hx h2)
    | true => exact .inr ⟨rfl, putF_nodes hx h1 h2⟩
theorem putF_no {l : List S115} {p : Int} {ks : List Int} (hx : nodeF l p = none) : putF l p ks = l := by unfold putF; rw [hx]
theorem isN_put (l : List S115) (p : Int) (ks : List Int) (k : Int) : isN (putF l p ks) k = isN l k := by
  cases hx : nodeF l p with
  | none => rw [putF_no hx]
  | some x =>
    rcases putF_or (ks := ks) hx with h | ⟨-, -, h⟩
    · rw [h]
    · unfold isN; rw [h k, Option.isSome_map]
theorem len_put (l : List S115) (p : Int) (ks : List Int) : (putF l p ks).length = l.length := by
  cases hx : nodeF l p with
  | none => rw [putF_no hx]
  | some x =>
    rcases putF_or (ks := ks) hx with h | ⟨-, h, -⟩
    · rw [h]
    · exact h
theorem WF8.put {l : List S115} (h : WF8 l) (p : Int) (ks : List Int) (hkl : ks.length ≤ 100000) : WF8 (putF l p ks) := ⟨h.wf.put p ks hkl, by
  cases hx : nodeF l p with
  | none => rw [putF_no hx]; exact h.nd
  | some x =>
    rcases putF_or (ks := ks) hx with h1 | ⟨h1, -, h2⟩
    · rw [h1]; exact h.nd
    · intro k y hy
      rw [h2 k] at hy
      obtain ⟨z, hz, rfl⟩ := Option.map_eq_some_iff.1 hy
      show (if k = p then ks else z.f8).Nodup
      split
      · exact (okIds_nodup h1).1
      · exact h.nd k z hz⟩
theorem WF8.leave {l : List S115} (h : WF8 l) (node : Int) : WF8 (leaveF l node) := by
  unfold leaveF
  split
  · refine h.put _ _ (Nat.le_trans ?_ (nodeD_kids h.wf.kl (nodeD l node).f1))
    rw [List.length_eraseIdx]
    split <;> omega
  · exact h
theorem isN_leave (l : List S115) (node k : Int) : isN (leaveF l node) k = isN l k := by
  unfold leaveF
  split
  · exact isN_put _ _ _ _
  · rfl
theorem len_leave (l : List S115) (node : Int) : (leaveF l node).length = l.length := by
  unfold leaveF
  split
  · exact len_put _ _ _
  · rfl
def childF (l : List S115) (node child : Int) : Int := if child = node then nextF l node else child
def outF (l : List S115) (node : Int) : List S115 := if (nodeD l node).f0 = 4 then putF l node [] else leaveF l node
def listF (l : List S115) (node : Int) : List Int := if (nodeD l node).f0 = 4 then (nodeD l node).f8 else [node]
def atF (l1 : List S115) (parent child : Int) : Nat := if child = 0 then (nodeD l1 parent).f8.length else (Lib.idxOf (nodeD l1 parent).f8 child).toNat
/-- What Before makes. -/
def beforeF (l : List S115) (node parent child : Int) : List S115 :=
  putF (outF l node) parent ((nodeD (outF l node) parent).f8.take (atF (outF l node) parent (childF l node child)) ++ listF l node ++ (nodeD (outF l node) parent).f8.drop (atF (outF l node) parent (childF l node child)))
theorem WF8.out {l : List S115} (h : WF8 l) (node : Int) : WF8 (outF l node) := by
  unfold outF
  split
  · exact h.put _ _ (by simp)
  · exact h.leave _
theorem isN_out (l : List S115) (node k : Int) : isN (outF l node) k = isN l k := by
  unfold outF
  split
  · exact isN_put _ _ _ _
  · exact isN_leave _ _ _
theorem len_out (l : List S115) (node : Int) : (outF l node).length = l.length := by
  unfold outF
  split
  · exact len_put _ _ _
  · exact len_leave _ _
theorem listF_len {l : List S115} (h : WF8 l) (h1 : l.length ≤ 128) (node : Int) : (listF l node).length ≤ 128 := by
  unfold listF
  split
  · exact Nat.le_trans (h.kidsD node) h1
  · simp
theorem isN_iff {l : List S115} {k : Int} : isN l k = true ↔ ∃ x, nodeF l k = some x := by unfold isN; exact Option.isSome_iff_exists
theorem isN_pos {l : List S115} {k : Int} (h : isN l k = true) : 1 ≤ k := by
  obtain ⟨x, hx⟩ := isN_iff.1 h
  exact (nodeF_range hx).1
theorem kid_iff {l : List S115} (h : WF l) {p k : Int} (hp : isN l p = true) : k ∈ (nodeD l p).f8 ↔ (isN l k = true ∧ (nodeD l k).f1 = p) := by
  obtain ⟨x, hx⟩ := isN_iff.1 hp
  rw [nodeD_some hx, h.kids p x hx k]
  constructor
  · rintro ⟨y, hy, h1⟩
    exact ⟨isN_iff.2 ⟨y, hy⟩, by rw [nodeD_some hy]; exact h1⟩
  · rintro ⟨h1, h2⟩
    obtain ⟨y, hy⟩ := isN_iff.1 h1
    rw [nodeD_some hy] at h2
    exact ⟨y, hy, h2⟩
theorem mem_eraseIdx_of {xs : List Int} {i : Nat} {a c : Int} (hi : xs[i]? = some a) (hc : c ∈ xs) (hne : c ≠ a) : c ∈ xs.eraseIdx i := by
  obtain ⟨j, hj⟩ := List.mem_iff_getElem?.1 hc
  rw [List.mem_eraseIdx_iff_getElem?]
  exact ⟨j, fun e => by subst e; rw [hi] at hj; exact hne (Option.some.inj hj).symm, hj⟩
theorem child_first {l : List S115} (h : WF8 l) {node parent child : Int} (hn : isN l node = true) (hp : isN l parent = true) (hc : child = 0 ∨ isN l child = true ∧ (nodeD l child).f1 = parent) :
    childF l node child = 0 ∨ (isN l (childF l node child) = true ∧ (nodeD l (childF l node child)).f1 = parent ∧ (childF l node child ≠ node ∨ childF l node child ∈ (nodeD l parent).f8.eraseIdx (Lib.idxOf (nodeD l parent).f8 node).toNat)) := by
  unfold childF
  by_cases e : child = node
  · rw [if_pos e]
    subst e
    rcases hc with rfl | ⟨-, hf⟩
    · exact absurd (isN_pos hn) (by omega)
    · have hpos := isN_pos hp
      have hk : kidsF l child = ((nodeD l parent).f8, Lib.idxOf (nodeD l parent).f8 child) := by
        unfold kidsF
        rw [if_neg (by simp [hn]), if_neg (by omega), hf]
      unfold nextF
      rw [hk]
      simp only
      split
      · split
        · rename_i h1 h2
          right
          obtain ⟨i, hi⟩ : ∃ i : Nat, Lib.idxOf (nodeD l parent).f8 child = i := ⟨(Lib.idxOf (nodeD l parent).f8 child).toNat, by omega⟩
          rw [hi] at h2 ⊢
          have hlt : i + 1 < (nodeD l parent).f8.length := by omega
          have hg : (nodeD l parent).f8.getD ((i : Int) + 1).toNat 0 = (nodeD l parent).f8[i + 1] := by
            rw [show ((i : Int) + 1).toNat = i + 1 by omega, List.getD_eq_getElem?_getD, List.getElem?_eq_getElem hlt]; rfl
          rw [hg]
          have hm := (kid_iff h.wf hp).1 (List.getElem_mem hlt)
          refine ⟨hm.1, hm.2, .inr ?_⟩
          rw [Int.toNat_natCast, List.mem_eraseIdx_iff_getElem?]
          exact ⟨i + 1, by omega, List.getElem?_eq_getElem hlt⟩
        · exact .inl rfl
      · exact .inl rfl
  · rw [if_neg e]
    rcases hc with h0 | ⟨h1, h2⟩
    · exact .inl h0
    · exact .inr ⟨h1, h2, .inl e⟩
/-- The child ahead of which a node goes is still one of the parent's. -/
theorem child_out {l : List S115} (h : WF8 l) {node parent child : Int} (hn : isN l node = true) (hp : isN l parent = true) (hc : child = 0 ∨ isN l child = true ∧ (nodeD l child).f1 = parent) (ha : aboveF l node parent = false) :
    childF l node child = 0 ∨ childF l node child ∈ (nodeD (outF l node) parent).f8 := by
  rcases child_first h hn hp hc with h0 | ⟨h1, h2, h3⟩
  · exact .inl h0
  right
  generalize childF l node child = c at *
  rw [kid_iff (h.out node).wf (by rw [isN_out]; exact hp), isN_out]
  refine ⟨h1, ?_⟩
  obtain ⟨y, hy⟩ := isN_iff.1 h1
  rw [nodeD_some hy] at h2
  have hnp : node ≠ parent := fun e => by
    subst e
    obtain ⟨x, hx⟩ := isN_iff.1 hn
    rw [above_self hx] at ha
    cases ha
  unfold outF
  split
  · obtain ⟨x, hx⟩ := isN_iff.1 hn
    rcases putF_or (ks := []) hx with h4 | ⟨-, -, h4⟩
    · rw [h4, nodeD_some hy, h2]
    · rw [nodeD, h4 c, hy]
      show (if c ∈ ([] : List Int) then node else if c ∈ x.f8 then 0 else y.f1) = parent
      rw [if_neg (by simp), if_neg, h2]
      intro hm
      obtain ⟨y', hy', h5⟩ := (h.wf.kids node x hx c).1 hm
      rw [hy] at hy'
      cases hy'
      exact hnp (h5.symm.trans h2)
  · unfold leaveF
    split
    · rename_i hpp
      have hmem := nodeD_mem h.wf hpp
      obtain ⟨i, hi1, hi2⟩ := idxOf_mem hmem
      have hi3 : (nodeD l (nodeD l node).f1).f8[i]? = some node := by
        rcases idxOf_cases (nodeD l (nodeD l node).f1).f8 node with ⟨_, h5⟩ | ⟨k, h5, h6⟩
        · exact absurd hmem h5
        · rw [hi2] at h6
          have : i = k := by omega
          rw [this]; exact h5
      rw [hi2, Int.toNat_natCast]
      generalize hq : (nodeD l node).f1 = p at *
      obtain ⟨x, hx⟩ := isN_iff.1 hpp
      rw [nodeD_some hx] at hmem hi1 hi2 hi3 ⊢
      rcases putF_or (ks := x.f8.eraseIdx i) hx with h4 | ⟨-, -, h4⟩
      · rw [h4, nodeD_some hy, h2]
      · rw [nodeD, h4 c, hy]
        show (if c ∈ x.f8.eraseIdx i then p else if c ∈ x.f8 then 0 else y.f1) = parent
        have hck : c ∈ x.f8 → y.f1 = p := fun hm => by
          obtain ⟨y', hy', h5⟩ := (h.wf.kids p x hx c).1 hm
          rw [hy] at hy'
          cases hy'
          exact h5
        split
        · rename_i hm
          rw [← hck (List.mem_of_mem_eraseIdx hm), h2]
        · rename_i hm
          split
          · rename_i hm2
            have he := hck hm2
            rw [h2] at he
            subst he
            rcases h3 with h3 | h3
            · exact absurd (mem_eraseIdx_of hi3 hm2 h3) hm
            · rw [nodeD_some hx, hi2, Int.toNat_natCast] at h3
              exact absurd h3 hm
          · exact h2
    · rw [nodeD_some hy, h2]
theorem at_out {l : List S115} (h : WF8 l) {node parent child : Int} (hn : isN l node = true) (hp : isN l parent = true) (hc : child = 0 ∨ isN l child = true ∧ (nodeD l child).f1 = parent) (ha : aboveF l node parent = false) :
    atF (outF l node) parent (childF l node child) ≤ (nodeD (outF l node) parent).f8.length ∧ (childF l node child ≠ 0 → Lib.idxOf (nodeD (outF l node) parent).f8 (childF l node child) = atF (outF l node) parent (childF l node child)) := by
  rcases child_out h hn hp hc ha with h0 | h1
  · rw [h0]; exact ⟨by rw [atF, if_pos rfl]; exact Nat.le_refl _, fun e => absurd rfl e⟩
  · obtain ⟨k, h2, h3⟩ := idxOf_mem h1
    unfold atF
    split
    · exact ⟨Nat.le_refl _, fun e => absurd (by assumption) e⟩
    · rw [h3, Int.toNat_natCast]
      exact ⟨by omega, fun _ => rfl⟩
theorem before_len {l : List S115} (h : WF8 l) (h1 : l.length ≤ 128) (node parent child : Int) : ((nodeD (outF l node) parent).f8.take (atF (outF l node) parent (childF l node child)) ++ listF l node ++ (nodeD (outF l node) parent).f8.drop (atF (outF l node) parent (childF l node child))).length ≤ 256 := by
  have h2 := listF_len h h1 node
  have h3 := (h.out node).kidsD parent
  rw [len_out] at h3
  rw [List.length_append, List.length_append, List.length_take, List.length_drop]
  omega
theorem WF8.before {l : List S115} (h : WF8 l) (h1 : l.length ≤ 128) (node parent child : Int) : WF8 (beforeF l node parent child) :=
  (h.out node).put _ _ (Nat.le_trans (before_len h h1 node parent child) (by decide))
end Go.Proofs.YtgopddjmmoohdaaGreatDoor

/- edit over forests: Before, Append, Remove, Clear. -/
set_option linter.unusedSimpArgs false
set_option linter.unusedVariables false
namespace Go.Proofs.YtgopddjmmoohdaaGreatDoor
open Go.RowKit Go.Proofs.YtgopddjmmoohdaaGreatDoorW.PrintWords Go.Proofs.YtgopddjmmoohdaaGreatDoorW.PrintLast Go.Proofs.YtgopddjmmoohdaaGreatDoor.PPlaySilent

theorem FoC.clear {P : Nat → Prop} {w0 w : World} {F : Nat} {l : List S115} (h : FoC P w0 w F l) (hW : WF l) (p : Int) :
    Calls Tryz.prog 68 #[.pointer (some ⟨F, 0, none⟩), .int .i64 p, .slice none 0 0] w fun e w' => e = .returned (.int .i64 (putE l p [])) ∧ FoC (grow P w.heap.size w'.heap.size) w0 w' F (putF l p []) ∧ Ste P w w' :=
  h.put hW p (A := none) (ks := []) (c := 0) (C_none _) (by simp) (by simp) (by simp)
/-- What an operation of edit leaves: its error, and another forest of the same kind. -/
def EdPost (P : Nat → Prop) (w0 w : World) (F : Nat) (v : Int) (l' : List S115) (e : Ending) (w' : World) : Prop := e = .returned (.int .i64 v) ∧ WF8 l' ∧ FoC (grow P w.heap.size w'.heap.size) w0 w' F l' ∧ Ste P w w'
def removeE (l : List S115) (node parent : Int) : Int := if isN l node = false then 1 else if isN l parent = false then 1 else if (nodeD l node).f1 = parent then 0 else 4
def removeF (l : List S115) (node parent : Int) : List S115 := if isN l node = false then l else if isN l parent = false then l else if (nodeD l node).f1 = parent then leaveF l node else l
set_option maxRecDepth 100000 in
theorem clear_any (P : Nat → Prop) (w0 : World) (F : Nat) (p : Int) (l : List S115) (w : World) (h : FoC P w0 w F l) (hW : WF8 l) :
    Calls Tryz.prog 47 #[.pointer (some ⟨F, 0, none⟩), .int .i64 p] w (EdPost P w0 w F (putE l p []) (putF l p [])) := by
  have hp := h.clear hW.wf p
  have hW2 := hd_ (hW.put p [] (by simp))
  go_enter Tryz.func47, Tryz.ntmps47
  go_wp2_with (go_at_call 68; (with_reducible refine hp.mono ?_); rintro e w1 ⟨rfl, hF1, hS1⟩)
  go_ret
  exact ⟨rfl, hW2.out, hF1, hS1⟩
set_option maxRecDepth 100000 in
set_option maxHeartbeats 3200000 in
theorem remove_any (P : Nat → Prop) (w0 : World) (F : Nat) (node parent : Int) (l : List S115) (w : World) (h : FoC P w0 w F l) (hW : WF8 l) :
    Calls Tryz.prog 46 #[.pointer (some ⟨F, 0, none⟩), .int .i64 node, .int .i64 parent] w (EdPost P w0 w F (removeE l node parent) (removeF l node parent)) := by
  have hn1 := node_call F node l w h.read hW.wf.kl
  have hn2 := fun W (hB : Below w.heap.size w W) => node_call F parent l W (h.below hB).read hW.wf.kl
  have hlv := fun W (hB : Below w.heap.size w W) => leave_any P w0 F node l W (h.below hB) hW.wf
  have HWL := hd_ (hW.leave node)
  have hfin : Hd (∀ W v v' l', Below w.heap.size w W → v' = v → l' = l → EdPost P w0 w F v' l' (.returned (.int .i64 v)) W) := ⟨fun W v v' l' hB h1 h2 => by subst h1 h2; exact ⟨rfl, hW, h.mono_below hB, Ste.of_below hB⟩⟩
  have HE := hd_ (show removeE l node parent = if isN l node = false then 1 else if isN l parent = false then 1 else if (nodeD l node).f1 = parent then 0 else 4 from rfl)
  have HR := hd_ (show removeF l node parent = if isN l node = false then l else if isN l parent = false then l else if (nodeD l node).f1 = parent then leaveF l node else l from rfl)
  generalize removeE l node parent = re at *
  generalize removeF l node parent = rf at *
  generalize leaveF l node = lv at *
  have hlo := hd_ h.lo
  have hb0 := hd_ h.base.size
  simp only [nodeV] at hn1 hn2
  generalize nodeD l parent = y at *
  generalize nodeD l node = x at *
  generalize isN l parent = b2 at *
  generalize isN l node = b1 at *
  clear h hW
  cases b1 with
  | false =>
    replace HE := hd_ (HE.out.trans (if_pos rfl))
    replace HR := hd_ (HR.out.trans (if_pos rfl))
    go_enter Tryz.func46, Tryz.ntmps46
    go_wp2_with (first
      | (go_at_call 57; (with_reducible refine hn1.mono ?_); rintro e w1 ⟨A, c, rfl, -, -, hB1⟩; have hC1 := below_alloc hB1 (.cells #[.int .i64 x.f0, .int .i64 x.f1, .int .i64 x.f2, .int .i64 x.f3, .int .i64 x.f4, .bool x.f5, .string x.f6, .string x.f7, .slice A x.f8.length c] 115))
      | (go_at_call 57; (with_reducible refine (hn2 _ hC1).mono ?_); rintro e w2 ⟨A2, c2, rfl, -, -, hB2⟩; have hC2 := below_alloc (below_then hC1 hC1.size hB2) (.cells #[.int .i64 y.f0, .int .i64 y.f1, .int .i64 y.f2, .int .i64 y.f3, .int .i64 y.f4, .bool y.f5, .string y.f6, .string y.f7, .slice A2 y.f8.length c2] 115)))
    go_ret
    exact hfin.out _ _ _ _ hC2 HE.out HR.out
  | true =>
    cases b2 with
    | false =>
      replace HE := hd_ (HE.out.trans ((if_neg (by simp)).trans (if_pos rfl)))
      replace HR := hd_ (HR.out.trans ((if_neg (by simp)).trans (if_pos rfl)))
      go_enter Tryz.func46, Tryz.ntmps46
      go_wp2_with (first
        | (go_at_call 57; (with_reducible refine hn1.mono ?_); rintro e w1 ⟨A, c, rfl, -, -, hB1⟩; have hC1 := below_alloc hB1 (.cells #[.int .i64 x.f0, .int .i64 x.f1, .int .i64 x.f2, .int .i64 x.f3, .int .i64 x.f4, .bool x.f5, .string x.f6, .string x.f7, .slice A x.f8.length c] 115))
        | (go_at_call 57; (with_reducible refine (hn2 _ hC1).mono ?_); rintro e w2 ⟨A2, c2, rfl, -, -, hB2⟩; have hC2 := below_alloc (below_then hC1 hC1.size hB2) (.cells #[.int .i64 y.f0, .int .i64 y.f1, .int .i64 y.f2, .int .i64 y.f3, .int .i64 y.f4, .bool y.f5, .string y.f6, .string y.f7, .slice A2 y.f8.length c2] 115)))
      go_ret
      exact hfin.out _ _ _ _ hC2 HE.out HR.out
    | true =>
      by_cases hp : x.f1 = parent
      · have hpb : (x.f1 != parent) = false := by simp [hp]
        replace HE := hd_ (HE.out.trans ((if_neg (by simp)).trans ((if_neg (by simp)).trans (if_pos hp))))
        replace HR := hd_ (HR.out.trans ((if_neg (by simp)).trans ((if_neg (by simp)).trans (if_pos hp))))
        clear hp
        go_enter Tryz.func46, Tryz.ntmps46
        go_wp2_with (first
          | (go_at_call 57; (with_reducible refine hn1.mono ?_); rintro e w1 ⟨A, c, rfl, -, -, hB1⟩; have hC1 := below_alloc hB1 (.cells #[.int .i64 x.f0, .int .i64 x.f1, .int .i64 x.f2, .int .i64 x.f3, .int .i64 x.f4, .bool x.f5, .string x.f6, .string x.f7, .slice A x.f8.length c] 115); have hX1 := blk_new w1 (.cells #[.int .i64 x.f0, .int .i64 x.f1, .int .i64 x.f2, .int .i64 x.f3, .int .i64 x.f4, .bool x.f5, .string x.f6, .string x.f7, .slice A x.f8.length c] 115))
          | (go_at_call 57; (with_reducible refine (hn2 _ hC1).mono ?_); rintro e w2 ⟨A2, c2, rfl, -, -, hB2⟩; have hC2 := below_alloc (below_then hC1 hC1.size hB2) (.cells #[.int .i64 y.f0, .int .i64 y.f1, .int .i64 y.f2, .int .i64 y.f3, .int .i64 y.f4, .bool y.f5, .string y.f6, .string y.f7, .slice A2 y.f8.length c2] 115); replace hX1 := blk_below hX1 (below_alloc hB2 (.cells #[.int .i64 y.f0, .int .i64 y.f1, .int .i64 y.f2, .int .i64 y.f3, .int .i64 y.f4, .bool y.f5, .string y.f6, .string y.f7, .slice A2 y.f8.length c2] 115)); have z1 := (blk_cell hX1 1).trans rfl)
          | (go_at_call 69; (with_reducible refine (hlv _ hC2).mono ?_); rintro e w3 ⟨rfl, hF3, hS3⟩))
        go_ret
        rw [HE.out, HR.out]
        exact ⟨rfl, HWL.out, hF3.wide hC2.size hlo.out hb0.out, (Ste.of_below hC2).trans hS3 (fun j hj => .inl hj)⟩
      · have hpb : (x.f1 != parent) = true := by simp [hp]
        replace HE := hd_ (HE.out.trans ((if_neg (by simp)).trans ((if_neg (by simp)).trans (if_neg hp))))
        replace HR := hd_ (HR.out.trans ((if_neg (by simp)).trans ((if_neg (by simp)).trans (if_neg hp))))
        clear hp
        go_enter Tryz.func46, Tryz.ntmps46
        go_wp2_with (first
          | (go_at_call 57; (with_reducible refine hn1.mono ?_); rintro e w1 ⟨A, c, rfl, -, -, hB1⟩; have hC1 := below_alloc hB1 (.cells #[.int .i64 x.f0, .int .i64 x.f1, .int .i64 x.f2, .int .i64 x.f3, .int .i64 x.f4, .bool x.f5, .string x.f6, .string x.f7, .slice A x.f8.length c] 115); have hX1 := blk_new w1 (.cells #[.int .i64 x.f0, .int .i64 x.f1, .int .i64 x.f2, .int .i64 x.f3, .int .i64 x.f4, .bool x.f5, .string x.f6, .string x.f7, .slice A x.f8.length c] 115))
          | (go_at_call 57; (with_reducible refine (hn2 _ hC1).mono ?_); rintro e w2 ⟨A2, c2, rfl, -, -, hB2⟩; have hC2 := below_alloc (below_then hC1 hC1.size hB2) (.cells #[.int .i64 y.f0, .int .i64 y.f1, .int .i64 y.f2, .int .i64 y.f3, .int .i64 y.f4, .bool y.f5, .string y.f6, .string y.f7, .slice A2 y.f8.length c2] 115); replace hX1 := blk_below hX1 (below_alloc hB2 (.cells #[.int .i64 y.f0, .int .i64 y.f1, .int .i64 y.f2, .int .i64 y.f3, .int .i64 y.f4, .bool y.f5, .string y.f6, .string y.f7, .slice A2 y.f8.length c2] 115)); have z1 := (blk_cell hX1 1).trans rfl))
        go_ret
        exact hfin.out _ _ _ _ hC2 HE.out HR.out
end Go.Proofs.YtgopddjmmoohdaaGreatDoor
