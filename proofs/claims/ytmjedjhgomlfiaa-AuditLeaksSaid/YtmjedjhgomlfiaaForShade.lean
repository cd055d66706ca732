/- shade over forests: out, Holds, Hidden. -/
import Derived.Test.YtmjedjhgomlfiaaForests
set_option linter.unusedSimpArgs false
namespace Go.Proofs.Ytmjedjhgomlfiaa
open Go.RowKit Go.Proofs.YtmjedjhgomlfiaaW.PrintWords Go.Proofs.YtmjedjhgomlfiaaW.PrintLast Go.Proofs.Ytmjedjhgomlfiaa.PAuditLeaks

/-- A node's root. -/
def rootF (l : List S61) (id : Int) : Int := (upF l l.length id).getLastD 0
/-- The host of a node's shadow tree; 0: it is in none. -/
def hostF (l : List S61) (id : Int) : Int := match nodeF l (rootF l id) with
  | none => 0
  | some x => if x.f0 = 3 then x.f2 else 0
def aboveF (l : List S61) (a b : Int) : Bool := decide (a ∈ upF l l.length b)
/-- Every chain of parents ends. -/
def EndsA (l : List S61) : Prop := ∀ id, Ends l l.length id
def kidsOk (l : List S61) : Prop := ∀ x ∈ l, x.f8.length ≤ 100000

set_option maxRecDepth 100000 in
set_option maxHeartbeats 1600000 in
theorem out_any (F : Nat) (id : Int) (l : List S61) (w : World) (h : FoR w F l) (hk : kidsOk l) (he : EndsA l) :
    Calls Try.prog 41 #[.pointer (some ⟨F, 0, none⟩), .int .i64 id] w fun e w' => e = .returned (.tuple #[.int .i64 (rootF l id), .int .i64 (hostF l id)]) ∧ Below w.heap.size w w' := by
  have hro := root_any F id l w h hk (he id)
  have hdef : hostF l id = match nodeF l (rootF l id) with | none => 0 | some x => if x.f0 = 3 then x.f2 else 0 := rfl
  have hF := fun W (hW : Below w.heap.size w W) => h.below hW
  rw [show (upF l l.length id).getLastD 0 = rootF l id from rfl] at hro
  generalize rootF l id = r at *
  cases hn : nodeF l r with
  | none =>
    rw [hn] at hdef
    have HD : Hid (hostF l id = 0) := hdef
    have hnd := fun W hW => node_none F r l W (hF W hW) hn
    simp only [zeroN] at hnd
    clear hn hdef h he
    go_enter Try.func41, Try.ntmps41
    go_wp2_with (first
      | (go_at_call 60; refine hro.mono ?_; rintro e w1 ⟨rfl, hB⟩)
      | (go_at_call 39; refine (hnd _ hB).mono ?_; rintro e w2 ⟨rfl, hB2⟩))
    go_ret2
    exact ⟨by rw [HD]; rfl, below_alloc (below_then hB hB.size hB2) _⟩
  | some x =>
    rw [hn] at hdef
    obtain ⟨j, rfl, hj, hx⟩ := nodeF_some hn
    have hnd := fun W hW => node_some F j x l W (hF W hW) hx (hk x (List.mem_of_getElem? hx))
    simp only [nodeV] at hnd
    clear hn h he hx hk
    by_cases h3 : x.f0 = 3
    · have HD : Hid (hostF l id = x.f2) := by show _ = _; rw [hdef]; exact if_pos h3
      have h3b : (x.f0 != 3) = false := by simp [h3]
      clear hdef h3
      go_enter Try.func41, Try.ntmps41
      go_wp2_with (first
        | (go_at_call 60; refine hro.mono ?_; rintro e w1 ⟨rfl, hB⟩)
        | (go_at_call 39; refine (hnd _ hB).mono ?_; rintro e w2 ⟨A, c, rfl, -, -, hB2⟩; have hX2 := blk_new w2 (.cells #[.int .i64 x.f0, .int .i64 x.f1, .int .i64 x.f2, .int .i64 x.f3, .int .i64 x.f4, .bool x.f5, .string x.f6, .string x.f7, .slice A x.f8.length c] 61); have hC2 := below_alloc (below_then hB hB.size hB2) (.cells #[.int .i64 x.f0, .int .i64 x.f1, .int .i64 x.f2, .int .i64 x.f3, .int .i64 x.f4, .bool x.f5, .string x.f6, .string x.f7, .slice A x.f8.length c] 61)))
      generalize w2.alloc (.cells #[.int .i64 x.f0, .int .i64 x.f1, .int .i64 x.f2, .int .i64 x.f3, .int .i64 x.f4, .bool x.f5, .string x.f6, .string x.f7, .slice A x.f8.length c] 61) = W at *
      generalize w2.heap.size = g at *
      refine start_ (n := 5) (S := fun w' => w'.heap[g]? = some (.cells #[.int .i64 x.f0, .int .i64 x.f1, .int .i64 x.f2, .int .i64 x.f3, .int .i64 x.f4, .bool x.f5, .string x.f6, .string x.f7, .slice A x.f8.length c] 61 (0, 0))) (ds := []) #[false, false, false, false, false] (by kernel_rfl) rfl rfl hX2 (fun hHeld => ?_)
      refine pure_ (i := 0) (N := (some 21)) (v := ?_) (a' := ?_) #[true, false, false, false, false] rfl rfl (by kernel_rfl) (fun _ _ _ h => h) (Or.inl ⟨by rfl, ?_⟩) ?_ ?_
      rotate_left
      · intro w'
        go_simp
        with_reducible rfl
      rotate_left
      · simp only [Act.put, List.setIfInBounds_toArray, List.set_cons_zero, List.set_cons_succ]
        rfl
      refine pure_ (i := 1) (N := (some 22)) (v := ?_) (a' := ?_) #[true, true, false, false, false] rfl rfl (by kernel_rfl) (fun _ _ _ h => h) (Or.inl ⟨by rfl, ?_⟩) ?_ ?_
      rotate_left
      · intro w'
        go_simp
        with_reducible rfl
      rotate_left
      · simp only [Act.put, List.setIfInBounds_toArray, List.set_cons_zero, List.set_cons_succ]
        rfl
      refine take_ (i := 2) (N := (some 23)) (v := ?_) (a' := ?_) #[true, true, true, false, false] rfl rfl (by kernel_rfl) (fun _ _ _ h => h) (Or.inl ⟨by rfl, ?_⟩) hHeld ?_ ?_
      rotate_left
      · intro w' hSw
        have z2 := blk_cell hSw 2
        go_simp
        with_reducible rfl
      rotate_left
      · simp only [Act.put, List.setIfInBounds_toArray, List.set_cons_zero, List.set_cons_succ]
        rfl
      refine pure_ (i := 3) (N := (some 4)) (v := ?_) (a' := ?_) #[true, true, true, true, false] rfl rfl (by kernel_rfl) (fun _ _ _ h => h) (Or.inl ⟨by rfl, ?_⟩) ?_ ?_
      rotate_left
      · intro w'
        go_simp
        with_reducible rfl
      rotate_left
      · simp only [Act.put, List.setIfInBounds_toArray, List.set_cons_zero, List.set_cons_succ]
        rfl
      refine pure_ (i := 4) (N := (some 5)) (v := ?_) (a' := ?_) #[true, true, true, true, true] rfl rfl (by kernel_rfl) (fun _ _ _ h => h) (Or.inl ⟨by rfl, ?_⟩) ?_ ?_
      rotate_left
      · intro w'
        go_simp
        with_reducible rfl
      rotate_left
      · simp only [Act.put, List.setIfInBounds_toArray, List.set_cons_zero, List.set_cons_succ]
        rfl
      refine done_ (by kernel_rfl) ?_
      go_wp2
      go_ret2
      exact ⟨by rw [HD]; rfl, below_drew hC2⟩
    · have HD : Hid (hostF l id = 0) := by show _ = _; rw [hdef]; exact if_neg h3
      have h3b : (x.f0 != 3) = true := by simp [h3]
      clear hdef
      go_enter Try.func41, Try.ntmps41
      go_wp2_with (first
        | (go_at_call 60; refine hro.mono ?_; rintro e w1 ⟨rfl, hB⟩)
        | (go_at_call 39; refine (hnd _ hB).mono ?_; rintro e w2 ⟨A, c, rfl, -, -, hB2⟩))
      go_ret2
      exact ⟨by rw [HD]; rfl, below_alloc (below_then hB hB.size hB2) _⟩

def holdsF (l : List S61) : Nat → Int → Int → Bool
  | 0, _, _ => false
  | k + 1, a, b => if aboveF l a b = true then true else if hostF l b = 0 then false else holdsF l k a (hostF l b)
set_option maxRecDepth 100000 in
set_option maxHeartbeats 1600000 in
theorem holds_any (F : Nat) (a b : Int) (l : List S61) (w : World) (h : FoR w F l) (hk : kidsOk l) (he : EndsA l) :
    Calls Try.prog 42 #[.pointer (some ⟨F, 0, none⟩), .int .i64 a, .int .i64 b] w fun e w' => e = .returned (.bool (holdsF l l.length a b)) ∧ Below w.heap.size w w' := by
  have h128 : l.length ≤ 128 := by obtain ⟨_, _, _, _, _, h3⟩ := h; exact h3
  have hlen := len_any F l w h
  have hab : ∀ W, Below w.heap.size w W → ∀ y, Calls Try.prog 61 #[.pointer (some ⟨F, 0, none⟩), .int .i64 a, .int .i64 y] W fun e w' => e = .returned (.bool (aboveF l a y)) ∧ Below W.heap.size W w' := fun W hW y => above_any F a y l W (h.below hW) hk (he y)
  have hout := fun W (hW : Below w.heap.size w W) y => out_any F y l W (h.below hW) hk he
  have hdef : ∀ k y, holdsF l (k + 1) a y = if aboveF l a y = true then true else if hostF l y = 0 then false else holdsF l k a (hostF l y) := fun _ _ => rfl
  clear h hk he
  generalize hn : l.length = n at *
  clear hn
  go_enter Try.func42, Try.ntmps42
  go_wp2_with (go_at_call 40; refine hlen.mono ?_; rintro e w1 ⟨rfl, hw⟩; obtain rfl := hw.symm)
  go_loopw [2, 9] (fun y i wr => ∃ (j : Nat) (b' : Int), j ≤ n ∧ i = .int .i64 j ∧ y = .int .i64 b' ∧ Hid (holdsF l n a b = holdsF l (n - j) a b') ∧ Below w.heap.size w wr) (fun _ i _ => n - (intOf i).toNat)
  case atStart => exact ⟨0, b, Nat.zero_le _, rfl, rfl, rfl, Below.refl _ _⟩
  case round =>
    obtain ⟨j, b', hj, rfl, rfl, HH, hB⟩ := hrel
    by_cases hlt : j < n
    · have hd := hdef (n - (j + 1)) b'
      rw [show n - (j + 1) + 1 = n - j by omega] at hd
      have ha := hab _ hB b'
      have ho := fun W hW => hout W hW b'
      generalize hostF l b' = hb at *
      cases hc : aboveF l a b' with
      | true =>
        rw [hc] at ha hd
        have HR : Hid (holdsF l n a b = true) := by show _ = _; rw [HH, hd]; rfl
        clear hd HH hdef
        go_wp2_with (go_at_call 61; refine ha.mono ?_; rintro e w2 ⟨rfl, hB2⟩)
        go_ret
        exact ⟨by rw [HR]; rfl, below_then hB hB.size hB2⟩
      | false =>
        rw [hc] at ha hd
        by_cases h0 : hb = 0
        · subst h0
          have HR : Hid (holdsF l n a b = false) := by show _ = _; rw [HH, hd]; rfl
          clear hd HH hdef
          go_wp2_with (first
            | (go_at_call 61; refine ha.mono ?_; rintro e w2 ⟨rfl, hB2⟩; have hC2 := below_then hB hB.size hB2)
            | (go_at_call 41; refine (ho _ hC2).mono ?_; rintro e w3 ⟨rfl, hB3⟩))
          go_ret
          exact ⟨by rw [HR]; rfl, below_then hC2 hC2.size hB3⟩
        · have HR : Hid (holdsF l n a b = holdsF l (n - (j + 1)) a hb) := by
            show _ = _
            rw [HH, hd]; simp [h0]
          have h0b : (hb == 0) = false := by simp [h0]
          clear hd HH hdef
          go_wp2_with (first
            | (go_at_call 61; refine ha.mono ?_; rintro e w2 ⟨rfl, hB2⟩; have hC2 := below_then hB hB.size hB2)
            | (go_at_call 41; refine (ho _ hC2).mono ?_; rintro e w3 ⟨rfl, hB3⟩))
          go_roundw
          case rel => exact ⟨j + 1, hb, by omega, by go_num, rfl, HR, below_then hC2 hC2.size hB3⟩
          case measure => simp [intOf]; omega
    · have HR : Hid (holdsF l n a b = false) := by
        show _ = _
        rw [HH, show n - j = 0 by omega]; rfl
      clear hdef HH
      go_wp2
      go_ret
      exact ⟨by rw [HR]; rfl, hB⟩

/-- A shadow root's mode. -/
def modeF (l : List S61) (id : Int) : Int := match nodeF l id with
  | none => 0
  | some x => x.f4
def hiddenF (l : List S61) (b : Int) : Nat → Int → Bool
  | 0, _ => false
  | k + 1, a => if hostF l a = 0 then false else if holdsF l l.length (rootF l a) b = true then false else if modeF l (rootF l a) = 2 then true else hiddenF l b k (hostF l a)
/-- Is a node hidden from another one? -/
def hidF (l : List S61) (a b : Int) : Bool := match nodeF l b with
  | none => false
  | some _ => hiddenF l b l.length a
theorem host_root {l : List S61} {a : Int} (h : hostF l a ≠ 0) : ∃ j x, rootF l a = ((j + 1 : Nat) : Int) ∧ l[j]? = some x ∧ modeF l (rootF l a) = x.f4 := by
  unfold hostF at h
  cases hn : nodeF l (rootF l a) with
  | none => rw [hn] at h; exact absurd rfl h
  | some x =>
    obtain ⟨j, hj, _, hx⟩ := nodeF_some hn
    exact ⟨j, x, hj, hx, by unfold modeF; rw [hn]⟩

set_option maxRecDepth 100000 in
set_option maxHeartbeats 3200000 in
theorem hidden_any (F : Nat) (a b : Int) (l : List S61) (w : World) (h : FoR w F l) (hk : kidsOk l) (he : EndsA l) :
    Calls Try.prog 25 #[.pointer (some ⟨F, 0, none⟩), .int .i64 a, .int .i64 b] w fun e w' => e = .returned (.bool (hidF l a b)) ∧ Below w.heap.size w w' := by
  have h128 : l.length ≤ 128 := by obtain ⟨_, _, _, _, _, h3⟩ := h; exact h3
  have hlen := fun W (hW : Below w.heap.size w W) => len_any F l W (h.below hW)
  have hdef0 : hidF l a b = match nodeF l b with | none => false | some _ => hiddenF l b l.length a := rfl
  cases hb : nodeF l b with
  | none =>
    rw [hb] at hdef0
    have HD : Hid (hidF l a b = false) := hdef0
    have hnd := node_none F b l w h hb
    simp only [zeroN] at hnd
    clear hb hdef0 h he hlen
    go_enter Try.func25, Try.ntmps25
    go_wp2_with (go_at_call 39; refine hnd.mono ?_; rintro e w1 ⟨rfl, hB⟩)
    go_ret
    exact ⟨by rw [HD]; rfl, below_alloc hB _⟩
  | some x =>
    rw [hb] at hdef0
    have HD : Hid (hidF l a b = hiddenF l b l.length a) := hdef0
    obtain ⟨jb, rfl, _, hxb⟩ := nodeF_some hb
    have hnd := node_some F jb x l w h hxb (hk x (List.mem_of_getElem? hxb))
    simp only [nodeV] at hnd
    have hho : ∀ W, Below w.heap.size w W → ∀ y, Calls Try.prog 42 #[.pointer (some ⟨F, 0, none⟩), .int .i64 y, .int .i64 ((jb + 1 : Nat) : Int)] W fun e w' => e = .returned (.bool (holdsF l l.length y ((jb + 1 : Nat) : Int))) ∧ Below W.heap.size W w' := fun W hW y => holds_any F y _ l W (h.below hW) hk he
    have hout := fun W (hW : Below w.heap.size w W) y => out_any F y l W (h.below hW) hk he
    have hnode := fun W (hW : Below w.heap.size w W) j y hj => node_some F j y l W (h.below hW) hj (hk y (List.mem_of_getElem? hj))
    simp only [nodeV] at hnode
    have hdef : ∀ k y, hiddenF l ((jb + 1 : Nat) : Int) (k + 1) y = if hostF l y = 0 then false else if holdsF l l.length (rootF l y) ((jb + 1 : Nat) : Int) = true then false else if modeF l (rootF l y) = 2 then true else hiddenF l ((jb + 1 : Nat) : Int) k (hostF l y) := fun _ _ => rfl
    have hmo := fun y => host_root (l := l) (a := y)
    clear hb hdef0 h he hxb hk
    generalize hn : l.length = n at *
    clear hn
    go_enter Try.func25, Try.ntmps25
    go_wp2_with (first
      | (go_at_call 39; refine hnd.mono ?_; rintro e w1 ⟨A, c, rfl, -, -, hB1⟩; have hC1 := below_alloc hB1 (.cells #[.int .i64 x.f0, .int .i64 x.f1, .int .i64 x.f2, .int .i64 x.f3, .int .i64 x.f4, .bool x.f5, .string x.f6, .string x.f7, .slice A x.f8.length c] 61))
      | (go_at_call 40; refine (hlen _ hC1).mono ?_; rintro e w2 ⟨rfl, hw⟩; obtain rfl := hw.symm))
    go_loopw [1, 23] (fun y i wr => ∃ (j : Nat) (a' : Int), j ≤ n ∧ i = .int .i64 j ∧ y = .int .i64 a' ∧ Hid (hiddenF l ((jb + 1 : Nat) : Int) n a = hiddenF l ((jb + 1 : Nat) : Int) (n - j) a') ∧ Below w.heap.size w wr) (fun _ i _ => n - (intOf i).toNat)
    case atStart => exact ⟨0, a, Nat.zero_le _, rfl, rfl, rfl, hC1⟩
    case round =>
      clear hC1 hB1 hnd
      obtain ⟨j, a', hj, rfl, rfl, HH, hB⟩ := hrel
      by_cases hlt : j < n
      · have hd := hdef (n - (j + 1)) a'
        rw [show n - (j + 1) + 1 = n - j by omega] at hd
        have ho := hout _ hB a'
        have hh := fun W hW => hho W hW (rootF l a')
        have hmo' := hmo a'
        clear hdef hmo hout hho
        generalize hostF l a' = hs at *
        generalize rootF l a' = ro at *
        by_cases h0 : hs = 0
        · subst h0
          have HR : Hid (hiddenF l ((jb + 1 : Nat) : Int) n a = false) := by show _ = _; rw [HH, hd]; rfl
          clear hd HH hmo' hh
          go_wp2_with (go_at_call 41; refine ho.mono ?_; rintro e w3 ⟨rfl, hB3⟩)
          go_ret
          exact ⟨by rw [HD, HR]; rfl, below_then hB hB.size hB3⟩
        · have h0b : (hs == 0) = false := by simp [h0]
          cases hhb : holdsF l n ro ((jb + 1 : Nat) : Int) with
          | true =>
            rw [hhb] at hd hh
            have HR : Hid (hiddenF l ((jb + 1 : Nat) : Int) n a = false) := by show _ = _; rw [HH, hd]; simp [h0]
            clear hd HH hmo' h0 hhb
            go_wp2_with (first
              | (go_at_call 41; refine ho.mono ?_; rintro e w3 ⟨rfl, hB3⟩; have hC3 := below_then hB hB.size hB3)
              | (go_at_call 42; refine (hh _ hC3).mono ?_; rintro e w4 ⟨rfl, hB4⟩))
            go_ret
            exact ⟨by rw [HD, HR]; rfl, below_then hC3 hC3.size hB4⟩
          | false =>
            rw [hhb] at hd hh
            obtain ⟨jr, y, rfl, hyr, hm⟩ := hmo' h0
            have hnr := fun W hW => hnode W hW jr y hyr
            rw [hm] at hd
            by_cases h2 : y.f4 = 2
            · have h2b : (y.f4 == 2) = true := by simp [h2]
              have HR : Hid (hiddenF l ((jb + 1 : Nat) : Int) n a = true) := by show _ = _; rw [HH, hd]; simp [h0, h2]
              clear hd HH hmo' h0 hhb hm h2 hnode hyr
              go_wp2_with (first
                | (go_at_call 41; refine ho.mono ?_; rintro e w3 ⟨rfl, hB3⟩; have hC3 := below_then hB hB.size hB3)
                | (go_at_call 42; refine (hh _ hC3).mono ?_; rintro e w4 ⟨rfl, hB4⟩; have hC4 := below_then hC3 hC3.size hB4)
                | (go_at_call 39; refine (hnr _ hC4).mono ?_; rintro e w5 ⟨A5, c5, rfl, -, -, hB5⟩; have hX5 := blk_new w5 (.cells #[.int .i64 y.f0, .int .i64 y.f1, .int .i64 y.f2, .int .i64 y.f3, .int .i64 y.f4, .bool y.f5, .string y.f6, .string y.f7, .slice A5 y.f8.length c5] 61); have z4 := blk_cell hX5 4; have hC5 := below_alloc (below_then hC4 hC4.size hB5) (.cells #[.int .i64 y.f0, .int .i64 y.f1, .int .i64 y.f2, .int .i64 y.f3, .int .i64 y.f4, .bool y.f5, .string y.f6, .string y.f7, .slice A5 y.f8.length c5] 61)))
              go_ret
              exact ⟨by rw [HD, HR]; rfl, hC5⟩
            · have h2b : (y.f4 == 2) = false := by simp [h2]
              have HR : Hid (hiddenF l ((jb + 1 : Nat) : Int) n a = hiddenF l ((jb + 1 : Nat) : Int) (n - (j + 1)) hs) := by show _ = _; rw [HH, hd]; simp [h0, h2]
              clear hd HH hmo' h0 hhb hm h2 hnode hyr
              go_wp2_with (first
                | (go_at_call 41; refine ho.mono ?_; rintro e w3 ⟨rfl, hB3⟩; have hC3 := below_then hB hB.size hB3)
                | (go_at_call 42; refine (hh _ hC3).mono ?_; rintro e w4 ⟨rfl, hB4⟩; have hC4 := below_then hC3 hC3.size hB4)
                | (go_at_call 39; refine (hnr _ hC4).mono ?_; rintro e w5 ⟨A5, c5, rfl, -, -, hB5⟩; have hX5 := blk_new w5 (.cells #[.int .i64 y.f0, .int .i64 y.f1, .int .i64 y.f2, .int .i64 y.f3, .int .i64 y.f4, .bool y.f5, .string y.f6, .string y.f7, .slice A5 y.f8.length c5] 61); have z4 := blk_cell hX5 4; have hC5 := below_alloc (below_then hC4 hC4.size hB5) (.cells #[.int .i64 y.f0, .int .i64 y.f1, .int .i64 y.f2, .int .i64 y.f3, .int .i64 y.f4, .bool y.f5, .string y.f6, .string y.f7, .slice A5 y.f8.length c5] 61)))
              go_roundw
              case rel => exact ⟨j + 1, hs, by omega, by go_num, rfl, HR, hC5⟩
              case measure => simp [intOf]; omega
      · have HR : Hid (hiddenF l ((jb + 1 : Nat) : Int) n a = false) := by
          show _ = _
          rw [HH, show n - j = 0 by omega]; rfl
        clear hdef HH hout hho hnode hmo
        go_wp2
        go_ret
        exact ⟨by rw [HD, HR]; rfl, hB⟩
end Go.Proofs.Ytmjedjhgomlfiaa
