/- The texts of this seat, joined: part 7 of 25. -/
import Derived.Test.YtgopddjmmoohdaaGreatDoorSl06
import Derived.Test.YtgopddjmmoohdaaGreatDoorSl01
import Derived.Test.YtgopddjmmoohdaaGreatDoorSl04
import Derived.Test.YtgopddjmmoohdaaGreatDoorSl05
import Derived.Shelf.Slices.Turned
import Derived.Ground.Names2Prog
import Derived.Shelf.Slices.Clone
import Derived.Ground.SlgnProg
import Derived.Shelf.SlicesE.Clone
import Derived.Test.YtgopddjmmoohdaaGreatDoorProg
/- arena.Put: what it asks, what it sets. -/
set_option linter.unusedSimpArgs false
set_option linter.unusedVariables false
namespace Go.Proofs.YtgopddjmmoohdaaGreatDoor
open Go.RowKit Go.Proofs.YtgopddjmmoohdaaGreatDoorW.PrintWords Go.Proofs.YtgopddjmmoohdaaGreatDoorW.PrintLast Go.Proofs.YtgopddjmmoohdaaGreatDoor.PPlaySilent

theorem nodeF_get {l : List S115} {id : Int} {x : S115} (h : nodeF l id = some x) : l[(id - 1).toNat]? = some x := by
  unfold nodeF at h
  split at h
  · exact h
  · cases h
theorem nodeF_len {l l' : List S115} (h : l'.length = l.length) {id : Int} {x : S115} (hx : nodeF l id = some x) : ∃ y, nodeF l' id = some y := by
  obtain ⟨j, rfl, hj, _⟩ := nodeF_some hx
  exact ⟨l'[j]'(by omega), nodeF_at (List.getElem?_eq_getElem (by omega))⟩
theorem at_id (F : Nat) (id : Int) (l : List S115) (w : World) (g cap : Nat) (x : S115) (h1 : w.heap[F]? = some (.cells #[.slice (some ⟨g, 0, none⟩) l.length cap] 77 (0, 0))) (hx : nodeF l id = some x) (h3 : l.length ≤ 128) :
    Calls Tryz.prog 64 #[.pointer (some ⟨F, 0, none⟩), .int .i64 id] w fun e w' => e = .returned (.pointer (some ⟨g, (id - 1).toNat * 9, none⟩)) ∧ w' = w := by
  obtain ⟨j, rfl, hj, _⟩ := nodeF_some hx
  rw [show (((j + 1 : Nat) : Int) - 1).toNat = j by omega]
  exact at_some F j l w g cap h1 hj h3
def rootedF (x : S115) : Bool := x.f0 == 1 || x.f0 == 3
theorem rooted_any (g o : Nat) (x : S115) (w : World) (k0 : w.cell? ⟨g, o, none⟩ = some (.int .i64 x.f0)) :
    Calls Tryz.prog 119 #[.pointer (some ⟨g, o, none⟩)] w fun e w' => e = .returned (.bool (rootedF x)) ∧ w' = w := by
  have H := hd_ (show rootedF x = (x.f0 == 1 || x.f0 == 3) from rfl)
  by_cases h1 : x.f0 = 1
  · rw [h1] at H k0
    go_enter Tryz.func119, Tryz.ntmps119
    go_wp2
    go_ret
    exact ⟨by rw [H.out]; rfl, rfl⟩
  · have q1 : (x.f0 == 1) = false := by simpa using h1
    clear h1
    go_enter Tryz.func119, Tryz.ntmps119
    go_wp2
    go_ret
    exact ⟨by rw [H.out, q1]; rfl, rfl⟩
/-- Are these nodes, each once? -/
def okIds (l : List S115) : List Int → List Int → Bool
  | _, [] => true
  | seen, k :: r => (nodeF l k).isSome && (!seen.contains k && okIds l (seen ++ [k]) r)
theorem okIds_mem {l : List S115} : ∀ {ks seen : List Int}, okIds l seen ks = true → ∀ k ∈ ks, ∃ x, nodeF l k = some x
  | [], _, _, k, hk => by cases hk
  | a :: r, seen, h, k, hk => by
    rw [okIds, Bool.and_eq_true, Bool.and_eq_true] at h
    rcases List.mem_cons.1 hk with rfl | hk
    · exact Option.isSome_iff_exists.1 h.1
    · exact okIds_mem h.2.2 k hk
/-- May they be children of p? -/
def okKids (l : List S115) (p : Int) : List Int → Bool
  | [] => true
  | k :: r => match nodeF l k with
    | none => false
    | some x => if rootedF x = true then false else if k ∈ overL l l.length p then false else if x.f1 = 0 then okKids l p r else if x.f1 = p then okKids l p r else false
theorem okKids_cons {l : List S115} {p k : Int} {r : List Int} {x : S115} (h : nodeF l k = some x) : okKids l p (k :: r) = if rootedF x = true then false else if k ∈ overL l l.length p then false else if x.f1 = 0 then okKids l p r else if x.f1 = p then okKids l p r else false := by
  rw [okKids, h]
def setPar1 (v : Int) (l : List S115) (k : Int) : List S115 := match nodeF l k with
  | none => l
  | some x => l.set (k - 1).toNat { x with f1 := v }
theorem setPar1_some {v : Int} {l : List S115} {k : Int} {x : S115} (h : nodeF l k = some x) : setPar1 v l k = l.set (k - 1).toNat { x with f1 := v } := by unfold setPar1; rw [h]
theorem setPar1_length (v : Int) (l : List S115) (k : Int) : (setPar1 v l k).length = l.length := by
  unfold setPar1
  split <;> simp
/-- The parent of nodes is set. -/
def setPar (v : Int) (l : List S115) (ks : List Int) : List S115 := ks.foldl (setPar1 v) l
theorem setPar_length (v : Int) : ∀ (ks : List Int) (l : List S115), (setPar v l ks).length = l.length
  | [], _ => rfl
  | k :: r, l => (setPar_length v r (setPar1 v l k)).trans (setPar1_length v l k)
theorem setPar_step {v : Int} {l : List S115} {ks : List Int} {j : Nat} {k : Int} (h : ks[j]? = some k) : setPar v l (ks.take (j + 1)) = setPar1 v (setPar v l (ks.take j)) k := by
  rw [List.take_add_one, h]
  unfold setPar
  rw [List.foldl_append]
  rfl
/-- Put. -/
def putF (l : List S115) (p : Int) (ks : List Int) : List S115 := match nodeF l p with
  | none => l
  | some x => if okIds l [] ks = true then if okKids l p ks = true then match nodeF (setPar p (setPar 0 l x.f8) ks) p with
      | none => l
      | some y => (setPar p (setPar 0 l x.f8) ks).set (p - 1).toNat { y with f8 := ks } else l else l
/-- Its error. -/
def putE (l : List S115) (p : Int) (ks : List Int) : Int := match nodeF l p with
  | none => 1
  | some _ => if okIds l [] ks = true then if okKids l p ks = true then 0 else 3 else 1
theorem putE_none {l : List S115} {p : Int} (ks : List Int) (hn : nodeF l p = none) : putE l p ks = 1 := by
  unfold putE; rw [hn]
theorem putE_bad {l : List S115} {p : Int} {ks : List Int} {x : S115} (hn : nodeF l p = some x) (h : okIds l [] ks = false) : putE l p ks = 1 := by
  unfold putE; rw [hn]; simp [h]
theorem putE_bad2 {l : List S115} {p : Int} {ks : List Int} {x : S115} (hn : nodeF l p = some x) (h1 : okIds l [] ks = true) (h : okKids l p ks = false) : putE l p ks = 3 := by
  unfold putE; rw [hn]; simp [h, h1]
theorem putE_ok {l : List S115} {p : Int} {ks : List Int} {x : S115} (hn : nodeF l p = some x) (h1 : okIds l [] ks = true) (h2 : okKids l p ks = true) : putE l p ks = 0 := by
  unfold putE; rw [hn]; simp [h1, h2]
theorem putF_bad {l : List S115} {p : Int} {ks : List Int} {x : S115} (hn : nodeF l p = some x) (h : okIds l [] ks = false) : putF l p ks = l := by
  unfold putF; rw [hn]; simp [h]
theorem putF_bad2 {l : List S115} {p : Int} {ks : List Int} {x : S115} (hn : nodeF l p = some x) (h : okKids l p ks = false) : putF l p ks = l := by
  unfold putF; rw [hn]; simp [h]
theorem putF_ok {l : List S115} {p : Int} {ks : List Int} {x y : S115} (hn : nodeF l p = some x) (h1 : okIds l [] ks = true) (h2 : okKids l p ks = true) (hy : nodeF (setPar p (setPar 0 l x.f8) ks) p = some y) : putF l p ks = (setPar p (setPar 0 l x.f8) ks).set (p - 1).toNat { y with f8 := ks } := by
  unfold putF; rw [hn]; simp only; rw [if_pos h1, if_pos h2, hy]
/-- The first j of a row of numbers. -/
theorem ints_take {w : World} {A : Option Addr} {c : Nat} {xs : List Int} (h : (Kd.int .i64).C w A xs.length xs) (hc : xs.length ≤ c) (j : Nat) (hj : j ≤ xs.length) : (Kd.int .i64).C w A (xs.take j).length (xs.take j) := by
  obtain ⟨i0, hi0, _, hsz, _⟩ := info_parts info3
  obtain ⟨_, hA, _⟩ := print_take_of (P := Tryz.prog) (Value.int .i64) 0 32 3 .i64 Tryz.underlying32 hi0 hsz A c xs (j : Int) (by omega) (by omega) hc
  have := Kd.C_of_reads (h1 := fun _ => rfl) (hA _ (Kd.reads_of_C h))
  rw [Int.toNat_natCast] at this
  exact this
theorem ints_at {w : World} {A : Option Addr} {xs : List Int} {j : Nat} {k : Int} (h : (Kd.int .i64).C w A xs.length xs) (hk : xs[j]? = some k) : ∃ b o, A = some ⟨b, o, none⟩ ∧ w.cell? ⟨b, o + j, none⟩ = some (.int .i64 k) := by
  have hj := (List.getElem?_eq_some_iff.1 hk).1
  obtain ⟨ad, hA, -⟩ := Kd.at_int h (j : Int) (by omega) (by omega)
  subst hA
  obtain ⟨b, o, rfl, hc⟩ := ints_cells h (by omega)
  refine ⟨b, o, rfl, ?_⟩
  have := hc j hj
  rwa [List.getD_eq_getElem?_getD, hk] at this
end Go.Proofs.YtgopddjmmoohdaaGreatDoor

/- arena.Put, walked. -/
set_option linter.unusedSimpArgs false
set_option linter.unusedVariables false
namespace Go.Proofs.YtgopddjmmoohdaaGreatDoor
open Go.RowKit Go.Proofs.YtgopddjmmoohdaaGreatDoorW.PrintWords Go.Proofs.YtgopddjmmoohdaaGreatDoorW.PrintLast Go.Proofs.YtgopddjmmoohdaaGreatDoor.PPlaySilent

set_option maxRecDepth 100000 in
set_option maxHeartbeats 6400000 in
theorem put_any (F : Nat) (p : Int) (ks : List Int) (A2 : Option Addr) (c2 : Nat) (l : List S115) (Q : Nat → Prop) (w0 ws w : World) (h : FoO Q w0 ws w F l) (hks : ∀ V, BaseX Q w0 ws V F → (Kd.int .i64).C V A2 ks.length ks) (hc2 : ks.length ≤ c2) (hkl : ks.length ≤ 100000)
    (hL : linksOk l) (hE : ∀ id, EndsO l l.length id) (hK : ∀ x ∈ l, ∀ k ∈ x.f8, ∃ y, nodeF l k = some y) (hk8 : ∀ x ∈ l, x.f8.length ≤ 100000) :
    Calls Tryz.prog 68 #[.pointer (some ⟨F, 0, none⟩), .int .i64 p, .slice A2 ks.length c2] w fun e w' => e = .returned (.int .i64 (putE l p ks)) ∧ FoO Q w0 ws w' F (putF l p ks) := by
  cases hn : nodeF l p with
  | none =>
    have H : Hd (putF l p ks = l) := ⟨by unfold putF; rw [hn]⟩
    have HE : Hd (putE l p ks = 1) := ⟨putE_none ks hn⟩
    have hat := at_none F p l w h.read hn
    clear hn
    go_enter Tryz.func68, Tryz.ntmps68
    go_wp2_with (go_at_call 64; refine hat.mono ?_; rintro e w2 ⟨rfl, hw2⟩; obtain rfl := hw2.symm)
    go_ret
    exact ⟨by rw [HE.out]; try rfl, by rw [H.out]; exact h⟩
  | some x =>
    have hjp := nodeF_get hn
    have hp128 := h.2.2.1
    have hplen : 1 ≤ p ∧ p ≤ l.length := by obtain ⟨j, rfl, hj, _⟩ := nodeF_some hn; omega
    obtain ⟨g, cap, hF, hg0, hgs, hgF, hN⟩ := h.nodes (by omega)
    obtain ⟨jp, hjpp⟩ : ∃ jp, jp = (p - 1).toNat := ⟨_, rfl⟩
    have hatp := at_id F p l w g cap x hF hn hp128
    rw [← hjpp] at hatp hjp
    have HJP := hd_ hjpp
    clear hjpp
    have hksw := hks _ h.basex
    go_enter Tryz.func68, Tryz.ntmps68
    go_wp2_with (go_at_call 64; refine hatp.mono ?_; rintro e w2 ⟨rfl, hw2⟩; obtain rfl := hw2.symm)
    go_loopw [24, 8, 9] (fun i _ _ wr => ∃ (j : Nat), j ≤ ks.length ∧ i = .int .i64 j ∧ Hd (okIds l [] ks = okIds l (ks.take j) (ks.drop j)) ∧ wr = w) (fun i _ _ _ => ks.length - (intOf i).toNat)
    case atStart => exact ⟨0, Nat.zero_le _, rfl, ⟨rfl⟩, rfl⟩
    case round =>
      obtain ⟨j, hj, rfl, HI, rfl⟩ := hrel
      by_cases hlt : j < ks.length
      · obtain ⟨k, hk⟩ : ∃ k, ks[j]? = some k := ⟨_, List.getElem?_eq_getElem (by omega)⟩
        obtain ⟨b, o, rfl, hcell⟩ := ints_at hksw hk
        have hd : ks.drop j = k :: ks.drop (j + 1) := by rw [List.drop_eq_getElem_cons (by omega), (List.getElem?_eq_some_iff.1 hk).2]
        have hI2 := HI.out
        rw [hd, okIds] at hI2
        cases hm : nodeF l k with
        | none =>
          have H : Hd (putF l p ks = l) := ⟨putF_bad hn (by rw [hI2, hm]; rfl)⟩
          have HE : Hd (putE l p ks = 1) := ⟨putE_bad hn (by rw [hI2, hm]; rfl)⟩
          have hat := at_none F k l wr h.read hm
          clear hI2 hm hd hk hn hjp hL hE hK hk8 hatp hN HI
          go_wp2_with (go_at_call 64; refine hat.mono ?_; rintro e w2 ⟨rfl, hw2⟩; obtain rfl := hw2.symm)
          go_ret
          exact ⟨by rw [HE.out]; try rfl, by rw [H.out]; exact h⟩
        | some y =>
          have hat := at_id F k l wr g cap y hF hm hp128
          have hlen : (ks.take j).length = j := by rw [List.length_take]; omega
          have hct := contains_any (ks.take j) k (some ⟨b, o, none⟩) c2 wr (ints_take hksw hc2 j (by omega)) (by omega)
          rw [hlen] at hct
          have hjc : (j : Int) ≤ (c2 : Int) := by omega
          rw [hm] at hI2
          cases hc : (ks.take j).contains k with
          | true =>
            have H : Hd (putF l p ks = l) := ⟨putF_bad hn (by rw [hI2, hc]; rfl)⟩
            have HE : Hd (putE l p ks = 1) := ⟨putE_bad hn (by rw [hI2, hc]; rfl)⟩
            rw [hc] at hct
            clear hI2 hm hd hk hn hjp hL hE hK hk8 hatp hN HI hc hlen
            go_wp2_with (first
              | (go_at_call 64; refine hat.mono ?_; rintro e w2 ⟨rfl, hw2⟩; obtain rfl := hw2.symm)
              | (go_at_call 118; refine hct.mono ?_; rintro e w2 ⟨rfl, hw2⟩; obtain rfl := hw2.symm))
            go_ret
            exact ⟨by rw [HE.out]; try rfl, by rw [H.out]; exact h⟩
          | false =>
            have H : Hd (okIds l [] ks = okIds l (ks.take (j + 1)) (ks.drop (j + 1))) := ⟨by rw [hI2, hc, List.take_add_one, hk]; rfl⟩
            rw [hc] at hct
            clear hI2 hm hd hk hn hjp hL hE hK hk8 hatp hN HI hc hlen
            go_wp2_with (first
              | (go_at_call 64; refine hat.mono ?_; rintro e w2 ⟨rfl, hw2⟩; obtain rfl := hw2.symm)
              | (go_at_call 118; refine hct.mono ?_; rintro e w2 ⟨rfl, hw2⟩; obtain rfl := hw2.symm))
            go_roundw
            case rel => exact ⟨j + 1, by omega, by go_num, H, by trivial⟩
            case measure => simp [intOf]; omega
      · have hok : okIds l [] ks = true := by
          rw [HI.out, List.drop_eq_nil_of_le (by omega)]; rfl
        have hmem := okIds_mem hok
        clear HI
        go_wp2
        go_loopw [43, 11, 12] (fun i _ _ wr' => ∃ (j : Nat), j ≤ ks.length ∧ i = .int .i64 j ∧ Hd (okKids l p ks = okKids l p (ks.drop j)) ∧ wr' = wr) (fun i _ _ _ => ks.length - (intOf i).toNat)
        case atStart => exact ⟨0, Nat.zero_le _, rfl, ⟨rfl⟩, rfl⟩
        case round =>
          clear hj hlt
          obtain ⟨j, hj, rfl, HI, rfl⟩ := hrel
          by_cases hlt : j < ks.length
          · obtain ⟨k, hk⟩ : ∃ k, ks[j]? = some k := ⟨_, List.getElem?_eq_getElem (by omega)⟩
            obtain ⟨b, o, rfl, hcell⟩ := ints_at hksw hk
            have hd : ks.drop j = k :: ks.drop (j + 1) := by rw [List.drop_eq_getElem_cons (by omega), (List.getElem?_eq_some_iff.1 hk).2]
            obtain ⟨y, hm⟩ := hmem k (List.mem_of_getElem? hk)
            have hI2 := HI.out
            rw [hd, okKids_cons hm] at hI2
            have hat := at_id F k l wr g cap y hF hm hp128
            have hNy := hN wr l h rfl rfl _ y (nodeF_get hm)
            obtain ⟨jk, hjk⟩ : ∃ jk, jk = (k - 1).toNat := ⟨_, rfl⟩
            rw [← hjk] at hat hNy
            have k0 := hNy.k0
            have k1 := hNy.k1
            have hro := rooted_any g (jk * 9) y wr k0
            clear hjk
            have hov := over_any F k p l wr h.read hL (hE p) (by omega) hplen.2
            by_cases hr : rootedF y = true
            · have H : Hd (putF l p ks = l) := ⟨putF_bad2 hn (by rw [hI2, if_pos hr])⟩
              have HE : Hd (putE l p ks = 3) := ⟨putE_bad2 hn hok (by rw [hI2, if_pos hr])⟩
              rw [hr] at hro
              clear hI2 hm hd hk hn hjp hL hE hK hk8 hatp hN HI hmem hok hr hNy hov k0
              go_wp2_with (first
                | (go_at_call 64; refine hat.mono ?_; rintro e w2 ⟨rfl, hw2⟩; obtain rfl := hw2.symm)
                | (go_at_call 119; refine hro.mono ?_; rintro e w2 ⟨rfl, hw2⟩; obtain rfl := hw2.symm))
              go_ret
              exact ⟨by rw [HE.out]; try rfl, by rw [H.out]; exact h⟩
            · rw [if_neg hr] at hI2
              rw [Bool.not_eq_true] at hr
              rw [hr] at hro
              by_cases ho : k ∈ overL l l.length p
              · have H : Hd (putF l p ks = l) := ⟨putF_bad2 hn (by rw [hI2, if_pos ho])⟩
                have HE : Hd (putE l p ks = 3) := ⟨putE_bad2 hn hok (by rw [hI2, if_pos ho])⟩
                rw [decide_eq_true ho] at hov
                clear hI2 hm hd hk hn hjp hL hE hK hk8 hatp hN HI hmem hok hr hNy ho k0
                go_wp2_with (first
                  | (go_at_call 64; refine hat.mono ?_; rintro e w2 ⟨rfl, hw2⟩; obtain rfl := hw2.symm)
                  | (go_at_call 119; refine hro.mono ?_; rintro e w2 ⟨rfl, hw2⟩; obtain rfl := hw2.symm)
                  | (go_at_call 120; refine hov.mono ?_; rintro e w2 ⟨rfl, hw2⟩; obtain rfl := hw2.symm))
                go_ret
                exact ⟨by rw [HE.out]; try rfl, by rw [H.out]; exact h⟩
              · rw [if_neg ho] at hI2
                rw [decide_eq_false ho] at hov
                by_cases h0 : y.f1 = 0
                · rw [if_pos h0] at hI2
                  rw [h0] at k1
                  have HI2 := hd_ hI2
                  clear hI2 hm hd hk hn hjp hL hE hK hk8 hatp hN HI hmem hok hr hNy ho k0 h0
                  go_wp2_with (first
                    | (go_at_call 64; refine hat.mono ?_; rintro e w2 ⟨rfl, hw2⟩; obtain rfl := hw2.symm)
                    | (go_at_call 119; refine hro.mono ?_; rintro e w2 ⟨rfl, hw2⟩; obtain rfl := hw2.symm)
                    | (go_at_call 120; refine hov.mono ?_; rintro e w2 ⟨rfl, hw2⟩; obtain rfl := hw2.symm))
                  go_roundw
                  case rel => exact ⟨j + 1, by omega, by go_num, HI2, by trivial⟩
                  case measure => simp [intOf]; omega
                · rw [if_neg h0] at hI2
                  have q0 : (y.f1 == 0) = false := by simpa using h0
                  by_cases hpp : y.f1 = p
                  · rw [if_pos hpp] at hI2
                    rw [hpp] at k1 q0
                    have HI2 := hd_ hI2
                    clear hI2 hm hd hk hn hjp hL hE hK hk8 hatp hN HI hmem hok hr hNy ho k0 h0 hpp
                    go_wp2_with (first
                      | (go_at_call 64; refine hat.mono ?_; rintro e w2 ⟨rfl, hw2⟩; obtain rfl := hw2.symm)
                      | (go_at_call 119; refine hro.mono ?_; rintro e w2 ⟨rfl, hw2⟩; obtain rfl := hw2.symm)
                      | (go_at_call 120; refine hov.mono ?_; rintro e w2 ⟨rfl, hw2⟩; obtain rfl := hw2.symm))
                    go_roundw
                    case rel => exact ⟨j + 1, by omega, by go_num, HI2, by trivial⟩
                    case measure => simp [intOf]; omega
                  · have H : Hd (putF l p ks = l) := ⟨putF_bad2 hn (by rw [hI2, if_neg hpp])⟩
                    have HE : Hd (putE l p ks = 3) := ⟨putE_bad2 hn hok (by rw [hI2, if_neg hpp])⟩
                    have q1 : (y.f1 == p) = false := by simpa using hpp
                    have q2 : (y.f1 != p) = true := by simpa using hpp
                    have q3 : (y.f1 != 0) = true := by simpa using h0
                    have q4 : (p == y.f1) = false := by simpa using Ne.symm hpp
                    clear hI2 hm hd hk hn hjp hL hE hK hk8 hatp hN HI hmem hok hr hNy ho k0
                    go_wp2_with (first
                      | (go_at_call 64; refine hat.mono ?_; rintro e w2 ⟨rfl, hw2⟩; obtain rfl := hw2.symm)
                      | (go_at_call 119; refine hro.mono ?_; rintro e w2 ⟨rfl, hw2⟩; obtain rfl := hw2.symm)
                      | (go_at_call 120; refine hov.mono ?_; rintro e w2 ⟨rfl, hw2⟩; obtain rfl := hw2.symm))
                    go_ret
                    exact ⟨by rw [HE.out]; try rfl, by rw [H.out]; exact h⟩
          · have hok2 : okKids l p ks = true := by
              rw [HI.out, List.drop_eq_nil_of_le (by omega)]; rfl
            clear HI
            have hxl : x ∈ l := List.mem_of_getElem? hjp
            obtain ⟨A8, c8, kc8, l8, F8⟩ := (hN wr l h rfl rfl jp x hjp).k8
            have hK8 := hk8 x hxl
            go_wp2
            go_loopw [78, 14] (fun i _ wr' => ∃ (j : Nat), j ≤ x.f8.length ∧ i = .int .i64 j ∧ FoO Q w0 ws wr' F (setPar 0 l (x.f8.take j)) ∧ wr'.heap[F]? = wr.heap[F]? ∧ (Kd.int .i64).F wr' (fun k => (Q k ∧ k ≠ F) ∧ k ≠ g) A8 x.f8.length x.f8) (fun i _ _ => x.f8.length - (intOf i).toNat)
            case atStart => exact ⟨0, Nat.zero_le _, rfl, by rw [List.take_zero]; exact h, rfl, F8⟩
            case round =>
              rename World => wr2
              clear hj hlt kc8
              obtain ⟨j, hj, rfl, hFo, hFe, hF8⟩ := hrel
              by_cases hlt : j < x.f8.length
              · obtain ⟨k, hk⟩ : ∃ k, x.f8[j]? = some k := ⟨_, List.getElem?_eq_getElem hlt⟩
                obtain ⟨b, o, rfl, hcell⟩ := ints_at (Kd.F_now hF8) hk
                obtain ⟨y0, hy0⟩ := hK x hxl k (List.mem_of_getElem? hk)
                obtain ⟨y, hm⟩ := nodeF_len (setPar_length 0 (x.f8.take j) l) hy0
                have hat := at_id F k _ wr2 g cap y (by rw [setPar_length, hFe, hF]) hm (by rw [setPar_length]; exact hp128)
                have hNy := hN wr2 _ hFo (setPar_length _ _ _) hFe _ y (nodeF_get hm)
                have hst := hd_ ((setPar_step (v := 0) (l := l) hk).trans (setPar1_some hm))
                obtain ⟨jk, hjk⟩ : ∃ jk, jk = (k - 1).toNat := ⟨_, rfl⟩
                rw [← hjk] at hat hNy hst
                have k1 := hNy.k1
                have f1 := hNy.fr 1
                have s1 := hNy.s1 0
                rw [← hst.out] at s1
                have hFe2 : Hd ((wr2.setCell ⟨g, jk * 9 + 1, none⟩ (.int .i64 0)).heap[F]? = wr.heap[F]?) := ⟨(Below.heap_setCell wr2 _ _ F (Ne.symm hgF)).trans hFe⟩
                have hF82 := Kd.F_far hF8 (p := ⟨g, jk * 9 + 1, none⟩) (fun k hk => hk.2) (.int .i64 0)
                clear hst hm hk hn hjp hL hE hK hk8 hatp hN hmem hok hNy hjk hFe hy0 hFo hF8
                go_wp2_with (go_at_call 64; refine hat.mono ?_; rintro e w2 ⟨rfl, hw2⟩; obtain rfl := hw2.symm)
                go_roundw
                case rel => exact ⟨j + 1, by omega, by go_num, s1, hFe2.out, hF82⟩
                case measure => simp [intOf]; omega
              · have h3 : FoO Q w0 ws wr2 F (setPar 0 l x.f8) := by rwa [List.take_of_length_le (by omega)] at hFo
                clear hF8 F8 hFo
                go_wp2
                go_loopw [90, 16] (fun i _ wr' => ∃ (j : Nat), j ≤ ks.length ∧ i = .int .i64 j ∧ FoO Q w0 ws wr' F (setPar p (setPar 0 l x.f8) (ks.take j)) ∧ wr'.heap[F]? = wr.heap[F]?) (fun i _ _ => ks.length - (intOf i).toNat)
                case atStart => exact ⟨0, Nat.zero_le _, rfl, by rw [List.take_zero]; exact h3, hFe⟩
                case round =>
                  rename World => wr3
                  clear hj hlt hFe
                  obtain ⟨j, hj, rfl, hFo, hFe⟩ := hrel
                  have hks3 := hks _ hFo.basex
                  by_cases hlt : j < ks.length
                  · obtain ⟨k, hk⟩ : ∃ k, ks[j]? = some k := ⟨_, List.getElem?_eq_getElem hlt⟩
                    obtain ⟨b, o, rfl, hcell⟩ := ints_at hks3 hk
                    obtain ⟨y0, hy0⟩ := hmem k (List.mem_of_getElem? hk)
                    have hlen2 : (setPar p (setPar 0 l x.f8) (ks.take j)).length = l.length := by rw [setPar_length, setPar_length]
                    obtain ⟨y, hm⟩ := nodeF_len hlen2 hy0
                    have hat := at_id F k _ wr3 g cap y (by rw [hlen2, hFe, hF]) hm (by rw [hlen2]; exact hp128)
                    have hNy := hN wr3 _ hFo hlen2 hFe _ y (nodeF_get hm)
                    have hst := hd_ ((setPar_step (v := p) (l := setPar 0 l x.f8) hk).trans (setPar1_some hm))
                    obtain ⟨jk, hjk⟩ : ∃ jk, jk = (k - 1).toNat := ⟨_, rfl⟩
                    rw [← hjk] at hat hNy hst
                    have k1 := hNy.k1
                    have f1 := hNy.fr 1
                    have s1 := hNy.s1 p
                    rw [← hst.out] at s1
                    have hFe2 : Hd ((wr3.setCell ⟨g, jk * 9 + 1, none⟩ (.int .i64 p)).heap[F]? = wr.heap[F]?) := ⟨(Below.heap_setCell wr3 _ _ F (Ne.symm hgF)).trans hFe⟩
                    clear hst hm hk hn hjp hL hE hK hk8 hatp hN hmem hok hNy hjk hFe hy0 hFo hlen2
                    go_wp2_with (go_at_call 64; refine hat.mono ?_; rintro e w2 ⟨rfl, hw2⟩; obtain rfl := hw2.symm)
                    go_roundw
                    case rel => exact ⟨j + 1, by omega, by go_num, s1, hFe2.out⟩
                    case measure => simp [intOf]; omega
                  · have h4 : FoO Q w0 ws wr3 F (setPar p (setPar 0 l x.f8) ks) := by rwa [List.take_of_length_le (by omega)] at hFo
                    have hlen3 : (setPar p (setPar 0 l x.f8) ks).length = l.length := by rw [setPar_length, setPar_length]
                    obtain ⟨y, hy⟩ := nodeF_len hlen3 hn
                    have H := hd_ (putF_ok hn hok hok2 hy)
                    have HE := hd_ (putE_ok hn hok hok2)
                    have hjy := nodeF_get hy
                    rw [← HJP.out] at H hjy
                    generalize setPar p (setPar 0 l x.f8) ks = l3 at *
                    have hF4 : wr3.heap[F]? = some (.cells #[.slice (some ⟨g, 0, none⟩) l3.length cap] 77 (0, 0)) := by rw [hFe, hF, hlen3]
                    obtain ⟨cs, hgc⟩ : ∃ cs, wr3.heap[g]? = some (.cells cs 115 (0, 0)) := by
                      obtain ⟨-, -, -, -, v, hv, hN4⟩ := h4
                      rw [hF4] at hv
                      simp only [Option.some.injEq, Obj.cells.injEq, Array.mk.injEq, List.cons.injEq, and_true] at hv
                      subst hv
                      exact Kd.N_typed hN4 g rfl
                    have hNy := hN wr3 l3 h4 hlen3 hFe jp y hjy
                    obtain ⟨A9, c9, kc9, -, -⟩ := hNy.k8
                    have hu := (blk_cell hgc _).symm.trans kc9
                    have hgs4 := blk_lt hgc
                    have hn4 : ∀ (V : World) (l' : List S115), FoO Q w0 ws V F l' → l'.length = l3.length → V.heap[F]? = wr3.heap[F]? → ∀ j x, l'[j]? = some x → NodeAt Q w0 ws V F l' j x g := fun V l' a b c => hN V l' a (b.trans hlen3) (c.trans hFe)
                    have hbase4 := h4.base
                    have h4x := h4.basex
                    clear hn hjp hL hE hK hk8 hatp hN hmem hok hok2 hNy hFe hFo hy kc9 h3 hks3
                    go_wp2_with (first
                      | (refine gate_ (.makeSlice 32 (.tmp 103) (.tmp 103)) rfl ?_; refine Kd.R_make (Kd.int .i64) (w0 := wr3) wr3.heap.size 3 rfl (N := 104) rfl 32 (.tmp 103) (.tmp 103) rfl (ks.length : Int) rfl rfl Tryz.underlying32 (.int .i64 0) 8 info3 rfl (by decide) (by decide) (0 : Int) (ok := fun _ => True) (okp := fun _ => False) rfl (fun _ h => h.elim) trivial (by omega) (by rw [Int.toNat_natCast]; omega) (Below.refl _ _) (Nat.le_refl _) ?_; intro v1 w1 hR1 hB1 hg1 hat1; obtain ⟨A10, c10, e9, l9, -⟩ := Kd.R_reads hR1; rw [List.length_replicate, Int.toNat_natCast] at e9; subst e9; have hg1' := blk_below hgc hB1; have z1 := (blk_cell hg1' (jp * 9 + 8)).trans hu; have zf := blk_frozen hg1' (jp * 9 + 8); have hg2 := blk_put hg1' (jp * 9 + 8) (.slice A10 ks.length c10) rfl; have z2 := (blk_cell hg2 (jp * 9 + 8)).trans (Array.getElem?_setIfInBounds_self_of_lt (Array.getElem?_eq_some_iff.1 hu).1))
                      | (refine gate_builtin (b := .copy) (xs := #[.tmp 110, .tmp 111]) rfl ?_; refine Kd.R_copy (0 : Int) (w0 := w1.setCell ⟨g, jp * 9 + 8, none⟩ (.slice A10 ks.length c10)) wr3.heap.size rfl (.tmp 110) (.tmp 111) 32 32 3 rfl Tryz.underlying32 rfl (.slice A10 ks.length c10) (List.replicate (ks.length : Int).toNat 0) ks A2 ks.length c2 _ rfl rfl (Kd.R_far (p := ⟨g, jp * 9 + 8, none⟩) (Kd.R_tight rfl hR1) (fun k hk e => by have h1 := Kd.R_base hR1 k hk.symm; have h2 : k = g := e; omega) (.slice A10 ks.length c10)) (hks _ ((h4x.below hB1).set (.inl hg0) (h4x.qb g hg0) _ _)) (Below.refl _ _) (Nat.le_trans hB1.size (Nat.le_of_eq (by simp))) ?_; intro w3 hR3 hB3 hg3))
                    go_ret
                    rw [List.length_replicate, Int.toNat_natCast, Nat.min_self, List.take_length, List.drop_replicate, Nat.sub_self, List.replicate_zero, List.append_nil] at hR3
                    refine ⟨by rw [HE.out]; try rfl, ?_⟩
                    rw [H.out]
                    refine h4.setKids hjy hF4 hg0 hgs4 hgF hn4 hR3 (fun k hk hkg => ?_) hgc ((hB3.block g hgs4).trans hg2) (Nat.le_trans hB1.size (Nat.le_trans (Nat.le_of_eq (by simp)) hB3.size)) ?_
                    · exact (hB3.block k hk).trans ((Below.heap_setCell w1 _ _ k hkg).trans (hB1.block k hk))
                    · exact (below_set_cell (below_then hbase4 hbase4.size hB1) (h4x.qb g hg0) _ _).trans (hB3.mono hbase4.size)
end Go.Proofs.YtgopddjmmoohdaaGreatDoor

/- shade over forests: out, Holds, Hidden. -/
set_option linter.unusedSimpArgs false
namespace Go.Proofs.YtgopddjmmoohdaaGreatDoor
open Go.RowKit Go.Proofs.YtgopddjmmoohdaaGreatDoorW.PrintWords Go.Proofs.YtgopddjmmoohdaaGreatDoorW.PrintLast Go.Proofs.YtgopddjmmoohdaaGreatDoor.PPlaySilent

/-- A node's root. -/
def rootF (l : List S115) (id : Int) : Int := (upF l l.length id).getLastD 0
def aboveF (l : List S115) (a b : Int) : Bool := decide (a ∈ upF l l.length b)
/-- Every chain of parents ends. -/
def EndsA (l : List S115) : Prop := ∀ id, Ends l l.length id
def kidsOk (l : List S115) : Prop := ∀ x ∈ l, x.f8.length ≤ 100000

end Go.Proofs.YtgopddjmmoohdaaGreatDoor

/- Forests that are made by calls: links, children, no rings. Plain law. -/
set_option linter.unusedSimpArgs false
set_option linter.unusedVariables false
namespace Go.Proofs.YtgopddjmmoohdaaGreatDoor
open Go.RowKit Go.Proofs.YtgopddjmmoohdaaGreatDoorW.PrintWords Go.Proofs.YtgopddjmmoohdaaGreatDoorW.PrintLast Go.Proofs.YtgopddjmmoohdaaGreatDoor.PPlaySilent

structure WF (l : List S115) : Prop where
  links : linksOk l
  kids : ∀ p x, nodeF l p = some x → ∀ k, k ∈ x.f8 ↔ ∃ y, nodeF l k = some y ∧ y.f1 = p
  host : ∀ k y, nodeF l k = some y → y.f2 ≠ 0 → y.f0 = 3
  par : ∀ k y, nodeF l k = some y → y.f1 ≠ 0 → y.f0 ≠ 1 ∧ y.f0 ≠ 3
  rank : ∃ r : Int → Nat, ∀ k y, nodeF l k = some y → ovF y ≠ 0 → r (ovF y) < r k
  kl : ∀ x ∈ l, x.f8.length ≤ 100000

theorem nodeF_mem {l : List S115} {k : Int} {y : S115} (h : nodeF l k = some y) : y ∈ l := List.mem_of_getElem? (nodeF_get h)
theorem nodeF_of {l : List S115} {k : Int} (h1 : 1 ≤ k) (h2 : k ≤ l.length) : ∃ y, nodeF l k = some y := by
  obtain ⟨j, rfl⟩ : ∃ j : Nat, k = ((j + 1 : Nat) : Int) := ⟨(k - 1).toNat, by omega⟩
  exact ⟨l[j]'(by omega), nodeF_at (List.getElem?_eq_getElem (by omega))⟩
theorem nodeF_range {l : List S115} {k : Int} {y : S115} (h : nodeF l k = some y) : 1 ≤ k ∧ k ≤ l.length := by
  obtain ⟨j, rfl, hj, _⟩ := nodeF_some h
  omega
theorem mem_nodeF {l : List S115} {y : S115} (h : y ∈ l) : ∃ k, nodeF l k = some y := by
  obtain ⟨j, hj⟩ := List.mem_iff_getElem?.1 h
  exact ⟨_, nodeF_at hj⟩
theorem countP_lt {α : Type} (p q : α → Bool) : ∀ (l : List α), (∀ x ∈ l, p x = true → q x = true) → ∀ a ∈ l, q a = true → p a = false → l.countP p < l.countP q
  | [], _, a, ha, _, _ => by cases ha
  | b :: r, h, a, ha, hq, hp => by
    have hr : r.countP p ≤ r.countP q := List.countP_mono_left (fun x hx => h x (List.mem_cons_of_mem _ hx))
    rw [List.countP_cons, List.countP_cons]
    rcases List.mem_cons.1 ha with rfl | ha
    · rw [hq, hp]; simp; omega
    · have := countP_lt p q r (fun x hx => h x (List.mem_cons_of_mem _ hx)) a ha hq hp
      by_cases hb : p b = true
      · rw [hb, h b (List.mem_cons_self) hb]; simp; omega
      · rw [Bool.not_eq_true] at hb
        rw [hb]; simp; split <;> omega
def below_ (r : Int → Nat) (n m : Nat) : Nat := (List.range n).countP (fun i : Nat => decide (r ((i : Int) + 1) < m))
theorem ends_rank {l : List S115} (hL : linksOk l) (r : Int → Nat) (hr : ∀ k y, nodeF l k = some y → ovF y ≠ 0 → r (ovF y) < r k) : ∀ (k : Nat) (id : Int) (x : S115), nodeF l id = some x → below_ r l.length (r id) < k → EndsO l k id
  | 0, id, x, hx, h => by omega
  | k + 1, id, x, hx, h => by
    intro x' hx'
    rw [hx] at hx'
    obtain rfl := Option.some.inj hx'
    by_cases h0 : ovF x = 0
    · rw [h0]; exact EndsO.none (nodeF_zero l) _
    · have hov := hL.ov (nodeF_mem hx)
      obtain ⟨y, hy⟩ := nodeF_of (l := l) (k := ovF x) (by omega) hov.2
      have hlt := hr id x hx h0
      refine ends_rank hL r hr k _ y hy ?_
      have : below_ r l.length (r (ovF x)) < below_ r l.length (r id) := by
        refine countP_lt _ _ _ (fun i _ hi => ?_) (ovF x - 1).toNat (List.mem_range.2 (by omega)) ?_ ?_
        · simp only [decide_eq_true_eq] at hi ⊢; omega
        · simp only [decide_eq_true_eq]; rw [show (((ovF x - 1).toNat : Nat) : Int) + 1 = ovF x by omega]; exact hlt
        · rw [show (((ovF x - 1).toNat : Nat) : Int) + 1 = ovF x by omega]; simp
      omega
theorem WF.endsO {l : List S115} (h : WF l) (id : Int) : EndsO l l.length id := by
  cases hx : nodeF l id with
  | none => exact EndsO.none hx _
  | some x =>
    obtain ⟨r, hr⟩ := h.rank
    have hrg := nodeF_range hx
    refine ends_rank h.links r hr _ id x hx ?_
    have : below_ r l.length (r id) < (List.range l.length).countP (fun _ => true) := by
      refine countP_lt _ _ _ (fun i _ hi => rfl) (id - 1).toNat (List.mem_range.2 (by omega)) rfl ?_
      rw [show (((id - 1).toNat : Nat) : Int) + 1 = id by omega]; simp
    simpa using this
theorem ends_of_endsO {l : List S115} : ∀ (k : Nat) (id : Int), EndsO l k id → Ends l k id
  | 0, _, h => h
  | k + 1, id, h => fun x hx => by
    have := h x hx
    unfold ovF at this
    split at this
    · rename_i h0
      rw [h0]; exact Ends.none (nodeF_zero l) _
    · exact ends_of_endsO k _ this
theorem WF.endsA {l : List S115} (h : WF l) : EndsA l := fun id => ends_of_endsO _ _ (h.endsO id)
theorem WF.kidsOk {l : List S115} (h : WF l) : kidsOk l := h.kl
theorem WF.kid {l : List S115} (h : WF l) : ∀ x ∈ l, ∀ k ∈ x.f8, ∃ y, nodeF l k = some y := fun x hx k hk => by
  obtain ⟨p, hp⟩ := mem_nodeF hx
  obtain ⟨y, hy, _⟩ := (h.kids p x hp k).1 hk
  exact ⟨y, hy⟩
theorem WF.nil : WF [] := by
  refine ⟨fun x hx => (by cases hx), fun p x h => ?_, fun p x h => ?_, fun p x h => ?_, ⟨fun _ => 0, fun p x h => ?_⟩, fun x hx => (by cases hx)⟩
  all_goals (have := nodeF_mem h; cases this)
/-- The part of a node that the law looks at. -/
def sk (y : S115) : Int × Int × Int × List Int := (y.f0, y.f1, y.f2, y.f8)
theorem WF.same {l l' : List S115} (h : WF l) (hl : l'.length = l.length) (hs : ∀ k, (nodeF l' k).map sk = (nodeF l k).map sk) : WF l' := by
  have key : ∀ {k : Int} {y : S115}, nodeF l' k = some y → ∃ y0, nodeF l k = some y0 ∧ y0.f0 = y.f0 ∧ y0.f1 = y.f1 ∧ y0.f2 = y.f2 ∧ y0.f8 = y.f8 := fun {k y} hy => by
    have := hs k
    rw [hy] at this
    obtain ⟨y0, h0, h1⟩ := Option.map_eq_some_iff.1 this.symm
    simp only [sk, Prod.mk.injEq] at h1
    exact ⟨y0, h0, h1.1, h1.2.1, h1.2.2.1, h1.2.2.2⟩
  have kex : ∀ {k : Int} {y : S115}, nodeF l k = some y → ∃ y0, nodeF l' k = some y0 ∧ y0.f0 = y.f0 ∧ y0.f1 = y.f1 ∧ y0.f2 = y.f2 ∧ y0.f8 = y.f8 := fun {k y} hy => by
    have := hs k
    rw [hy] at this
    obtain ⟨y0, h0, h1⟩ := Option.map_eq_some_iff.1 this
    simp only [sk, Prod.mk.injEq] at h1
    exact ⟨y0, h0, h1.1, h1.2.1, h1.2.2.1, h1.2.2.2⟩
  refine ⟨fun x hx => ?_, fun p x hx k => ?_, fun k y hy hn => ?_, fun k y hy hn => ?_, ?_, fun x hx => ?_⟩
  · obtain ⟨k, hk⟩ := mem_nodeF hx
    obtain ⟨y0, h0, e0, e1, e2, e8⟩ := key hk
    have := h.links y0 (nodeF_mem h0)
    rw [hl, ← e1, ← e2]; exact this
  · obtain ⟨x0, h0, e0, e1, e2, e8⟩ := key hx
    rw [← e8, h.kids p x0 h0 k]
    constructor
    · rintro ⟨y, hy, hp⟩
      obtain ⟨y0, g0, g1⟩ := kex hy
      exact ⟨y0, g0, by rw [g1.2.1]; exact hp⟩
    · rintro ⟨y, hy, hp⟩
      obtain ⟨y0, g0, g1⟩ := key hy
      exact ⟨y0, g0, by rw [g1.2.1]; exact hp⟩
  · obtain ⟨y0, h0, e0, e1, e2, e8⟩ := key hy
    rw [← e0]; exact h.host k y0 h0 (by rw [e2]; exact hn)
  · obtain ⟨y0, h0, e0, e1, e2, e8⟩ := key hy
    rw [← e0]; exact h.par k y0 h0 (by rw [e1]; exact hn)
  · obtain ⟨r, hr⟩ := h.rank
    refine ⟨r, fun k y hy hn => ?_⟩
    obtain ⟨y0, h0, e0, e1, e2, e8⟩ := key hy
    have e : ovF y0 = ovF y := by unfold ovF; rw [e1, e2]
    rw [← e]; exact hr k y0 h0 (by rw [e]; exact hn)
  · obtain ⟨k, hk⟩ := mem_nodeF hx
    obtain ⟨y0, h0, e0, e1, e2, e8⟩ := key hk
    rw [← e8]; exact h.kl y0 (nodeF_mem h0)
theorem nodeF_set {l : List S115} {id : Int} {x x' : S115} (h : nodeF l id = some x) (k : Int) : nodeF (l.set (id - 1).toNat x') k = if k = id then some x' else nodeF l k := by
  obtain ⟨j, rfl, hj, hx⟩ := nodeF_some h
  rw [show (((j + 1 : Nat) : Int) - 1).toNat = j by omega]
  unfold nodeF
  by_cases hk : 1 ≤ k
  · rw [if_pos hk, if_pos hk, List.getElem?_set]
    by_cases e : k = ((j + 1 : Nat) : Int)
    · rw [if_pos e, if_pos (by omega), if_pos hj]
    · rw [if_neg e, if_neg (by omega)]
  · rw [if_neg hk, if_neg hk, if_neg (by omega)]
theorem WF.set_same {l : List S115} (h : WF l) {id : Int} {x x' : S115} (hx : nodeF l id = some x) (hs : sk x' = sk x) : WF (l.set (id - 1).toNat x') :=
  h.same (by simp) (fun k => by
    rw [nodeF_set hx]
    split
    · rename_i e; subst e; rw [hx]; simp [hs]
    · rfl)
theorem WF.name {l : List S115} (h : WF l) (id : Int) (s : ByteArray) : WF (nameF l id s) := by
  unfold nameF
  split
  · exact h
  · rename_i x hx
    split
    · split
      · exact h.set_same hx rfl
      · exact h
    · exact h
theorem WF.want {l : List S115} (h : WF l) (id : Int) (s : ByteArray) : WF (wantF l id s) := by
  unfold wantF
  split
  · exact h
  · rename_i x hx
    split
    · split
      · exact h.set_same hx rfl
      · exact h
    · exact h
theorem nodeF_append {l : List S115} (x : S115) (k : Int) : nodeF (l ++ [x]) k = if k = l.length + 1 then some x else nodeF l k := by
  unfold nodeF
  by_cases hk : 1 ≤ k
  · rw [if_pos hk, if_pos hk]
    by_cases e : k = l.length + 1
    · rw [if_pos e, List.getElem?_append_right (by omega), show (k - 1).toNat - l.length = 0 by omega]; rfl
    · rw [if_neg e]
      by_cases hlt : (k - 1).toNat < l.length
      · rw [List.getElem?_append_left hlt]
      · rw [List.getElem?_eq_none (by simp; omega), List.getElem?_eq_none (by omega)]
  · rw [if_neg hk, if_neg hk, if_neg (by omega)]
theorem WF.make {l : List S115} (h : WF l) (k m : Int) (sl : Bool) (nm wt : ByteArray) : WF (makeF l k m sl nm wt) := by
  unfold makeF
  split
  · split
    · have hf : ∀ {k' : Int} {y : S115}, nodeF (l ++ [⟨k, 0, 0, 0, m, sl, nm, wt, []⟩]) k' = some y → (k' = l.length + 1 ∧ y = ⟨k, 0, 0, 0, m, sl, nm, wt, []⟩) ∨ nodeF l k' = some y := fun {k' y} hy => by
        rw [nodeF_append] at hy
        split at hy
        · rename_i e; exact Or.inl ⟨e, (Option.some.inj hy).symm⟩
        · exact Or.inr hy
      have hb : ∀ {k' : Int} {y : S115}, nodeF l k' = some y → nodeF (l ++ [⟨k, 0, 0, 0, m, sl, nm, wt, []⟩]) k' = some y := fun {k' y} hy => by
        have := nodeF_range hy
        rw [nodeF_append, if_neg (by omega)]; exact hy
      refine ⟨fun x hx => ?_, fun p x hx k' => ?_, fun k' y hy hn => ?_, fun k' y hy hn => ?_, ?_, fun x hx => ?_⟩
      · rcases List.mem_append.1 hx with hx | hx
        · have := h.links x hx; simp; omega
        · rw [List.mem_singleton] at hx; subst hx; simp; omega
      · rcases hf hx with ⟨e, rfl⟩ | hx
        · constructor
          · intro hk; cases hk
          · rintro ⟨y, hy, hp⟩
            rcases hf hy with ⟨_, rfl⟩ | hy
            · simp at hp; omega
            · have := h.links y (nodeF_mem hy); omega
        · rw [h.kids p x hx k']
          constructor
          · rintro ⟨y, hy, hp⟩; exact ⟨y, hb hy, hp⟩
          · rintro ⟨y, hy, hp⟩
            rcases hf hy with ⟨_, rfl⟩ | hy
            · have := nodeF_range hx; simp at hp; omega
            · exact ⟨y, hy, hp⟩
      · rcases hf hy with ⟨_, rfl⟩ | hy
        · exact absurd rfl hn
        · exact h.host k' y hy hn
      · rcases hf hy with ⟨_, rfl⟩ | hy
        · exact absurd rfl hn
        · exact h.par k' y hy hn
      · obtain ⟨r, hr⟩ := h.rank
        refine ⟨r, fun k' y hy hn => ?_⟩
        rcases hf hy with ⟨_, rfl⟩ | hy
        · exact absurd rfl hn
        · exact hr k' y hy hn
      · rcases List.mem_append.1 hx with hx | hx
        · exact h.kl x hx
        · rw [List.mem_singleton] at hx; subst hx; simp
    · exact h
  · exact h
end Go.Proofs.YtgopddjmmoohdaaGreatDoor

/- Tie and Put keep a forest. Plain law. -/
set_option linter.unusedSimpArgs false
set_option linter.unusedVariables false
namespace Go.Proofs.YtgopddjmmoohdaaGreatDoor
open Go.RowKit Go.Proofs.YtgopddjmmoohdaaGreatDoorW.PrintWords Go.Proofs.YtgopddjmmoohdaaGreatDoorW.PrintLast Go.Proofs.YtgopddjmmoohdaaGreatDoor.PPlaySilent

open Classical in
theorem rank_link {l l' : List S115} (h : WF l) (S : Int → Prop) (p : Int) (hp : ∀ s, S s → s ∉ overL l l.length p)
    (hc : ∀ k y', nodeF l' k = some y' → ovF y' ≠ 0 → (S k ∧ ovF y' = p ∧ ∃ y, nodeF l k = some y) ∨ (¬ S k ∧ ∃ y, nodeF l k = some y ∧ ovF y = ovF y')) :
    ∃ r : Int → Nat, ∀ k y, nodeF l' k = some y → ovF y ≠ 0 → r (ovF y) < r k := by
  obtain ⟨r, hr⟩ := h.rank
  have hstep : ∀ k y, nodeF l k = some y → overL l l.length k = k :: overL l l.length (ovF y) := fun k y hy => by
    have hrg := nodeF_range hy
    obtain ⟨m, hm⟩ : ∃ m, l.length = m + 1 := ⟨l.length - 1, by omega⟩
    have he := h.endsO k
    rw [hm] at he ⊢
    rw [overL_some hy, overL_more m 1 _ (he y hy)]
  refine ⟨fun k => r k + if (∃ s, S s ∧ s ∈ overL l l.length k) then r p + 1 else 0, fun k y' hy' hn => ?_⟩
  simp only
  rcases hc k y' hy' hn with ⟨hS, e, y, hy⟩ | ⟨hS, y, hy, e⟩
  · rw [e, if_neg (fun ⟨s, h1, h2⟩ => hp s h1 h2), if_pos ⟨k, hS, by rw [hstep k y hy]; exact List.mem_cons_self⟩]
    omega
  · rw [← e] at hn ⊢
    have hlt := hr k y hy hn
    have hB : (∃ s, S s ∧ s ∈ overL l l.length k) ↔ (∃ s, S s ∧ s ∈ overL l l.length (ovF y)) := by
      rw [hstep k y hy]
      constructor
      · rintro ⟨s, h1, h2⟩
        rcases List.mem_cons.1 h2 with rfl | h2
        · exact absurd h1 hS
        · exact ⟨s, h1, h2⟩
      · rintro ⟨s, h1, h2⟩
        exact ⟨s, h1, List.mem_cons_of_mem _ h2⟩
    by_cases hb : ∃ s, S s ∧ s ∈ overL l l.length (ovF y)
    · rw [if_pos hb, if_pos (hB.2 hb)]; omega
    · rw [if_neg hb, if_neg (fun h => hb (hB.1 h))]; omega
theorem WF.tie {l : List S115} (h : WF l) (a b : Int) : WF (tieF l a b) := by
  cases hx : nodeF l a with
  | none => rw [tieF_none b hx]; exact h
  | some x =>
    cases hy : nodeF l b with
    | none => rw [tieF_none2 hx hy]; exact h
    | some y =>
      rw [tieF_some hx hy]
      split
      case isFalse => exact h
      rename_i c1
      split
      case isFalse => exact h
      rename_i c2
      split
      case isFalse => exact h
      rename_i c3
      split
      case isFalse => exact h
      rename_i c4
      split
      case isTrue => exact h
      rename_i c5
      have hab : a ≠ b := fun e => by subst e; rw [hx] at hy; obtain rfl := Option.some.inj hy; omega
      have hra := nodeF_range hx
      have hy' : nodeF (l.set (a - 1).toNat { x with f3 := b }) b = some y := by rw [nodeF_set hx, if_neg (Ne.symm hab)]; exact hy
      have hN : ∀ k, nodeF ((l.set (a - 1).toNat { x with f3 := b }).set (b - 1).toNat { y with f2 := a }) k = if k = b then some { y with f2 := a } else if k = a then some { x with f3 := b } else nodeF l k := fun k => by
        rw [nodeF_set hy', nodeF_set hx]
      have hy1 : y.f1 = 0 := by
        by_cases e : y.f1 = 0
        · exact e
        · exact absurd c2 (h.par b y hy e).2
      have hlen : ((l.set (a - 1).toNat { x with f3 := b }).set (b - 1).toNat { y with f2 := a }).length = l.length := by simp
      generalize (l.set (a - 1).toNat { x with f3 := b }).set (b - 1).toNat { y with f2 := a } = l' at hN hlen
      have key : ∀ {k : Int} {z : S115}, nodeF l' k = some z → ∃ z0, nodeF l k = some z0 ∧ z.f0 = z0.f0 ∧ z.f1 = z0.f1 ∧ z.f8 = z0.f8 ∧ ((k = b ∧ z.f2 = a) ∨ (k ≠ b ∧ z.f2 = z0.f2)) := fun {k z} hz => by
        rw [hN] at hz
        split at hz
        · rename_i e; subst e
          obtain rfl := Option.some.inj hz
          exact ⟨y, hy, rfl, rfl, rfl, Or.inl ⟨rfl, rfl⟩⟩
        · rename_i e0
          split at hz
          · rename_i e; subst e
            obtain rfl := Option.some.inj hz
            exact ⟨x, hx, rfl, rfl, rfl, Or.inr ⟨e0, rfl⟩⟩
          · exact ⟨z, hz, rfl, rfl, rfl, Or.inr ⟨e0, rfl⟩⟩
      have kex : ∀ {k : Int} {z0 : S115}, nodeF l k = some z0 → ∃ z, nodeF l' k = some z ∧ z.f1 = z0.f1 := fun {k z0} hz => by
        rw [hN]
        split
        · rename_i e; subst e
          rw [hy] at hz; obtain rfl := Option.some.inj hz
          exact ⟨_, rfl, rfl⟩
        · split
          · rename_i e; subst e
            rw [hx] at hz; obtain rfl := Option.some.inj hz
            exact ⟨_, rfl, rfl⟩
          · exact ⟨z0, hz, rfl⟩
      refine ⟨fun z hz => ?_, fun p z hz k => ?_, fun k z hz hn => ?_, fun k z hz hn => ?_, ?_, fun z hz => ?_⟩
      · obtain ⟨k, hk⟩ := mem_nodeF hz
        obtain ⟨z0, g0, e0, e1, e8, e2⟩ := key hk
        have := h.links z0 (nodeF_mem g0)
        rw [hlen, e1]
        rcases e2 with ⟨_, e2⟩ | ⟨_, e2⟩ <;> rw [e2] <;> omega
      · obtain ⟨z0, g0, e0, e1, e8, e2⟩ := key hz
        rw [e8, h.kids p z0 g0 k]
        constructor
        · rintro ⟨q, hq, hp⟩
          obtain ⟨q', i0, i1⟩ := kex hq
          exact ⟨q', i0, i1.trans hp⟩
        · rintro ⟨q, hq, hp⟩
          obtain ⟨q', i0, _, i1, _⟩ := key hq
          exact ⟨q', i0, i1.symm.trans hp⟩
      · obtain ⟨z0, g0, e0, e1, e8, e2⟩ := key hz
        rcases e2 with ⟨ek, e2⟩ | ⟨_, e2⟩
        · subst ek
          rw [hy] at g0; obtain rfl := Option.some.inj g0
          rw [e0]; exact c2
        · rw [e0]; exact h.host k z0 g0 (by rw [← e2]; exact hn)
      · obtain ⟨z0, g0, e0, e1, e8, e2⟩ := key hz
        rw [e0]; exact h.par k z0 g0 (by rw [← e1]; exact hn)
      · refine rank_link h (fun k => k = b) a (fun s hs => by subst hs; exact c5) (fun k z hz hn => ?_)
        obtain ⟨z0, g0, e0, e1, e8, e2⟩ := key hz
        rcases e2 with ⟨ek, e2⟩ | ⟨ek, e2⟩
        · left
          subst ek
          rw [hy] at g0; obtain rfl := Option.some.inj g0
          exact ⟨rfl, by unfold ovF; rw [if_pos (e1.trans hy1), e2], _, hy⟩
        · right
          exact ⟨ek, z0, g0, by unfold ovF; rw [e1, e2]⟩
      · obtain ⟨k, hk⟩ := mem_nodeF hz
        obtain ⟨z0, g0, e0, e1, e8, e2⟩ := key hk
        rw [e8]; exact h.kl z0 (nodeF_mem g0)
theorem nodeF_setPar1 (v : Int) (l : List S115) (k0 k : Int) : nodeF (setPar1 v l k0) k = (nodeF l k).map (fun y => if k = k0 then { y with f1 := v } else y) := by
  unfold setPar1
  split
  · rename_i hn
    by_cases e : k = k0
    · subst e; rw [hn]; rfl
    · simp [e]
  · rename_i x hx
    rw [nodeF_set hx]
    by_cases e : k = k0
    · subst e; rw [if_pos rfl, hx]; simp
    · rw [if_neg e]; simp [e]
theorem nodeF_setPar (v : Int) : ∀ (ks : List Int) (l : List S115) (k : Int), nodeF (setPar v l ks) k = (nodeF l k).map (fun y => if k ∈ ks then { y with f1 := v } else y)
  | [], l, k => by simp [setPar]
  | a :: r, l, k => by
    rw [show setPar v l (a :: r) = setPar v (setPar1 v l a) r from rfl, nodeF_setPar v r, nodeF_setPar1, Option.map_map]
    congr 1
    funext y
    simp only [Function.comp]
    by_cases e : k = a
    · subst e
      by_cases e2 : k ∈ r <;> simp [e2]
    · by_cases e2 : k ∈ r <;> simp [e2, e]
end Go.Proofs.YtgopddjmmoohdaaGreatDoor

/- Put keeps a forest. Plain law. -/
set_option linter.unusedSimpArgs false
set_option linter.unusedVariables false
namespace Go.Proofs.YtgopddjmmoohdaaGreatDoor
open Go.RowKit Go.Proofs.YtgopddjmmoohdaaGreatDoorW.PrintWords Go.Proofs.YtgopddjmmoohdaaGreatDoorW.PrintLast Go.Proofs.YtgopddjmmoohdaaGreatDoor.PPlaySilent

theorem okKids_mem {l : List S115} {p : Int} : ∀ {ks : List Int}, okKids l p ks = true → ∀ k ∈ ks, ∃ y, nodeF l k = some y ∧ rootedF y = false ∧ k ∉ overL l l.length p ∧ (y.f1 = 0 ∨ y.f1 = p)
  | [], _, k, hk => by cases hk
  | a :: r, h, k, hk => by
    rw [okKids] at h
    cases hn : nodeF l a with
    | none => rw [hn] at h; cases h
    | some y =>
      rw [hn] at h
      simp only at h
      split at h
      · cases h
      rename_i h1
      split at h
      · cases h
      rename_i h2
      rw [Bool.not_eq_true] at h1
      split at h
      · rename_i h3
        rcases List.mem_cons.1 hk with rfl | hk
        · exact ⟨y, hn, h1, h2, Or.inl h3⟩
        · exact okKids_mem h k hk
      · split at h
        · rename_i h3
          rcases List.mem_cons.1 hk with rfl | hk
          · exact ⟨y, hn, h1, h2, Or.inr h3⟩
          · exact okKids_mem h k hk
        · cases h
/-- What Put makes of a node. -/
def putN (p : Int) (ks old : List Int) (k : Int) (y : S115) : S115 := ⟨y.f0, if k ∈ ks then p else if k ∈ old then 0 else y.f1, y.f2, y.f3, y.f4, y.f5, y.f6, y.f7, if k = p then ks else y.f8⟩
theorem putF_nodes {l : List S115} {p : Int} {ks : List Int} {x : S115} (hx : nodeF l p = some x) (h1 : okIds l [] ks = true) (h2 : okKids l p ks = true) :
    (putF l p ks).length = l.length ∧ ∀ k, nodeF (putF l p ks) k = (nodeF l k).map (putN p ks x.f8 k) := by
  have hlen : (setPar p (setPar 0 l x.f8) ks).length = l.length := by rw [setPar_length, setPar_length]
  obtain ⟨y, hy⟩ := nodeF_len hlen hx
  rw [putF_ok hx h1 h2 hy]
  refine ⟨by simp [hlen], fun k => ?_⟩
  rw [nodeF_set hy]
  rw [nodeF_setPar, nodeF_setPar, Option.map_map] at hy
  rw [nodeF_setPar, nodeF_setPar, Option.map_map]
  by_cases e : k = p
  · subst e
    rw [if_pos rfl, hx]
    rw [hx] at hy
    simp only [Option.map_some, Function.comp, Option.some.injEq] at hy ⊢
    subst hy
    by_cases e1 : k ∈ ks <;> by_cases e2 : k ∈ x.f8 <;> simp [putN, e1, e2]
  · rw [if_neg e]
    congr 1
    funext z
    by_cases e1 : k ∈ ks <;> by_cases e2 : k ∈ x.f8 <;> simp [putN, e1, e2, e]
theorem WF.put {l : List S115} (h : WF l) (p : Int) (ks : List Int) (hkl : ks.length ≤ 100000) : WF (putF l p ks) := by
  cases hx : nodeF l p with
  | none => unfold putF; rw [hx]; exact h
  | some x =>
    cases h1 : okIds l [] ks with
    | false => rw [putF_bad hx h1]; exact h
    | true =>
      cases h2 : okKids l p ks with
      | false => rw [putF_bad2 hx h2]; exact h
      | true =>
        obtain ⟨hlen, hN⟩ := putF_nodes hx h1 h2
        have hm := okKids_mem h2
        have hp := nodeF_range hx
        have hold := h.kids p x hx
        generalize putF l p ks = l' at *
        have key : ∀ {k : Int} {z : S115}, nodeF l' k = some z → ∃ z0, nodeF l k = some z0 ∧ z = putN p ks x.f8 k z0 := fun {k z} hz => by
          rw [hN] at hz
          obtain ⟨z0, g0, g1⟩ := Option.map_eq_some_iff.1 hz
          exact ⟨z0, g0, g1.symm⟩
        refine ⟨fun z hz => ?_, fun q z hz k => ?_, fun k z hz hn => ?_, fun k z hz hn => ?_, ?_, fun z hz => ?_⟩
        · obtain ⟨k, hk⟩ := mem_nodeF hz
          obtain ⟨z0, g0, rfl⟩ := key hk
          have := h.links z0 (nodeF_mem g0)
          rw [hlen]
          simp only [putN]
          split
          · omega
          · split <;> omega
        · obtain ⟨z0, g0, rfl⟩ := key hz
          have hq := nodeF_range g0
          by_cases e : q = p
          · subst e
            simp only [putN, if_pos]
            constructor
            · intro hk
              obtain ⟨y, hy, _⟩ := hm k hk
              refine ⟨putN q ks x.f8 k y, by rw [hN, hy]; rfl, ?_⟩
              simp only [putN]; rw [if_pos hk]
            · rintro ⟨w, hw, hwp⟩
              obtain ⟨w0, i0, rfl⟩ := key hw
              simp only [putN] at hwp
              split at hwp
              · assumption
              · split at hwp
                · omega
                · rename_i n1 n2
                  exact absurd ((hold k).2 ⟨w0, i0, hwp⟩) n2
          · simp only [putN, if_neg e]
            rw [h.kids q z0 g0 k]
            constructor
            · rintro ⟨y, hy, hyq⟩
              refine ⟨putN p ks x.f8 k y, by rw [hN, hy]; rfl, ?_⟩
              simp only [putN]
              rw [if_neg (fun hk => by
                obtain ⟨y2, hy2, _, _, h3⟩ := hm k hk
                rw [hy] at hy2; obtain rfl := Option.some.inj hy2
                omega), if_neg (fun hk => by
                obtain ⟨y2, hy2, h3⟩ := (hold k).1 hk
                rw [hy] at hy2; obtain rfl := Option.some.inj hy2
                omega)]
              exact hyq
            · rintro ⟨w, hw, hwp⟩
              obtain ⟨w0, i0, rfl⟩ := key hw
              simp only [putN] at hwp
              split at hwp
              · omega
              · split at hwp
                · omega
                · exact ⟨w0, i0, hwp⟩
        · obtain ⟨z0, g0, rfl⟩ := key hz
          exact h.host k z0 g0 hn
        · obtain ⟨z0, g0, rfl⟩ := key hz
          simp only [putN] at hn ⊢
          split at hn
          · rename_i hk
            obtain ⟨y2, hy2, h3, _⟩ := hm k hk
            rw [g0] at hy2; obtain rfl := Option.some.inj hy2
            simp [rootedF] at h3
            exact h3
          · split at hn
            · exact absurd rfl hn
            · exact h.par k z0 g0 hn
        · refine rank_link h (fun k => k ∈ ks) p (fun s hs => (hm s hs).elim (fun _ h => h.2.2.1)) (fun k z hz hn => ?_)
          obtain ⟨z0, g0, rfl⟩ := key hz
          by_cases hk : k ∈ ks
          · left
            refine ⟨hk, ?_, z0, g0⟩
            unfold ovF putN
            simp only
            rw [if_pos hk, if_neg (by omega)]
          · right
            refine ⟨hk, z0, g0, ?_⟩
            by_cases ho : k ∈ x.f8
            · exfalso
              obtain ⟨y2, hy2, h3⟩ := (hold k).1 ho
              rw [g0] at hy2; obtain rfl := Option.some.inj hy2
              refine hn ?_
              unfold ovF putN
              simp only
              rw [if_neg hk, if_pos ho, if_pos rfl]
              by_cases e : z0.f2 = 0
              · exact e
              · exact absurd (h.host k z0 g0 e) (h.par k z0 g0 (by omega)).2
            · unfold ovF putN
              simp only
              rw [if_neg hk, if_neg ho]
        · obtain ⟨k, hk⟩ := mem_nodeF hz
          obtain ⟨z0, g0, rfl⟩ := key hk
          simp only [putN]
          split
          · exact hkl
          · exact h.kl z0 (nodeF_mem g0)
end Go.Proofs.YtgopddjmmoohdaaGreatDoor

/- slices.Index at []int, laid at this program (as the shelf's lay-plain writes it). -/
namespace Go.Proofs
open Go.Shelf
def Tryz.laysI108_ren : Go.Shelf.Ren := ⟨fun | 108 => 70 | n => n, fun | 28 => 32 | 3 => 3 | 0 => 0 | 4 => 4 | n => n, fun | n => n⟩
theorem Tryz.laysI108 : Go.Proofs.Lays.n108 Tryz.prog Tryz.laysI108_ren := {
  mixed := by kernel_rfl
  f108 := Tryz.func70.trans (congrArg some (by kernel_rfl))
  t0 := Tryz.underlying0
  a0 := Tryz.isAgg0
  z0 := Tryz.sizeOf0
  v0 := Tryz.zeroValue0
  t3 := Tryz.underlying3
  a3 := Tryz.isAgg3
  z3 := Tryz.sizeOf3
  v3 := Tryz.zeroValue3
  t4 := Tryz.underlying4
  a4 := Tryz.isAgg4
  z4 := Tryz.sizeOf4
  v4 := Tryz.zeroValue4
  t28 := Tryz.underlying32
  a28 := Tryz.isAgg32
  z28 := Tryz.sizeOf32
  v28 := Tryz.zeroValue32 }
open Go.Lib in
/-- slices.Index at []int: "Index returns the index of the first occurrence of v in s, or -1 if not present.": IT RETURNS 'Lib.idxOf (the elements) v'; the world is as it was. 'zs': what the cells behind the slice's address hold (its spare capacity too, if you have it); 'zs.take n': its elements. (LAID: no walk: one application.) -/
theorem Tryz.slices_Index_int (b off n c : Nat) (zs : List Int) (x : Int) (w : World) (hz : n ≤ zs.length) (hbig : n ≤ 9223372036854775807) (hc : ∀ j, j < zs.length → w.cell? ⟨b, off + j, none⟩ = some (.int .i64 (zs.getD j 0))) :
    Calls Tryz.prog 70 #[.slice (some ⟨b, off, none⟩) n c, .int .i64 x] w fun e w' => e = .returned (.int .i64 (Lib.idxOf (zs.take n) x)) ∧ w' = w := Any.slices_Index_int Tryz.laysI108 b off n c zs x w hz hbig hc
open Go.Lib in
/-- The same at a slice of length 0, a nil one too: no cell is known, none is asked for. (LAID: no walk: one application.) -/
theorem Tryz.slices_Index_int_empty (a : Option Addr) (c : Nat) (x : Int) (w : World) :
    Calls Tryz.prog 70 #[.slice a 0 c, .int .i64 x] w fun e w' => e = .returned (.int .i64 (Lib.idxOf [] x)) ∧ w' = w := Any.slices_Index_int_empty Tryz.laysI108 a c x w
end Go.Proofs
