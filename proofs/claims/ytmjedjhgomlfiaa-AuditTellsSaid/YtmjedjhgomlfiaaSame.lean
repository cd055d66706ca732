/- Two lists of pairs are the same; the document's Within: what the two Go functions answer. They write nothing that was there. -/
import Derived.Test.YtmjedjhgomlfiaaWithin
namespace Go.Proofs.Ytmjedjhgomlfiaa
open Go.RowKit Go.Proofs.YtmjedjhgomlfiaaW.PrintWords

theorem take_ext {a b : List (Int × Int)} {i : Nat} {x : Int × Int} (h : a.take i = b.take i) (hx : a[i]? = some x) (hy : b[i]? = some x) : a.take (i + 1) = b.take (i + 1) := by
  rw [List.take_add_one, List.take_add_one, hx, hy, h]

theorem neq_pair (p q x y : Int) (h : ¬(p, q) = (x, y)) (W : World) : (Op.equalIn 10000 24 (.agg #[.int .i64 p, .int .i64 q]) (.agg #[.int .i64 x, .int .i64 y])).run Try.prog W = .ok false W := by
  rw [eq_pair, decide_eq_false h]
theorem eqq_pair (p q x y : Int) (h : (p, q) = (x, y)) (W : World) : (Op.equalIn 10000 24 (.agg #[.int .i64 p, .int .i64 q]) (.agg #[.int .i64 x, .int .i64 y])).run Try.prog W = .ok true W := by
  rw [eq_pair, decide_eq_true h]

theorem same_any (a b : List (Int × Int)) (A B : Option Addr) (c d : Nat) (w : World) (ha : kPair.C w A a.length a) (hb : kPair.C w B b.length b) (hal : a.length ≤ 4294967296) (_hbl : b.length ≤ 4294967296) :
    Calls Try.prog 8 #[.slice A a.length c, .slice B b.length d] w fun e w' => e = .returned (.bool (decide (a = b))) ∧ Below w.heap.size w w' := by
  by_cases hl : a.length = b.length
  · have hlb : ((a.length : Int) != (b.length : Int)) = false := by simp [hl]
    have HL := hide_ hl
    have hle : a.length ≤ b.length := by omega
    have hge : b.length ≤ a.length := by omega
    clear hl
    go_enter Try.func8, Try.ntmps8
    go_wp2
    go_loopw [5] (fun i wr => ∃ (j : Nat), j ≤ a.length ∧ i = .int .i64 j ∧ a.take j = b.take j ∧ Below w.heap.size w wr) (fun i _ => a.length - (intOf i).toNat)
    case atStart => exact ⟨0, Nat.zero_le _, rfl, rfl, Below.refl _ _⟩
    case round =>
      obtain ⟨j, hj, rfl, ht, hB⟩ := hrel
      have HT := hide_ ht
      clear ht
      by_cases hlt : j < a.length
      · obtain ⟨ad, x, y, rfl, HX, hc0, hc1⟩ := pair_at (Kd.C_below ha hB) j hlt
        obtain ⟨bd, p, q, rfl, HY, hc2, hc3⟩ := pair_at (Kd.C_below hb hB) j (by omega)
        have hltb : j < b.length := by omega
        by_cases hxy : (x, y) = (p, q)
        · have heq := eqq_pair x y p q hxy
          have HXY := hide_ hxy
          clear hxy
          go_wp2
          go_quiet (fail)
          go_wp2
          go_roundw
          case rel => exact ⟨j + 1, by omega, by go_num, take_ext HT.out HX.out (by rw [HXY.out]; exact HY.out), pw_below_drewN hB _⟩
          case measure => simp [intOf]; omega
        · have heq := neq_pair x y p q hxy
          have HXY := hide_ hxy
          clear hxy
          have HF : Hid (decide (a = b) = false) := by
            refine decide_eq_false fun e => HXY.out ?_
            have h1 := HX.out
            rw [e, HY.out] at h1
            exact (Option.some.inj h1).symm
          go_wp2
          go_quiet (fail)
          go_wp2
          go_ret
          exact ⟨by rw [HF.out]; rfl, pw_below_drewN hB _⟩
      · have HF : Hid (decide (a = b) = true) := by
          refine decide_eq_true ?_
          have h1 := HT.out
          rwa [List.take_of_length_le (by omega), List.take_of_length_le (by omega)] at h1
        go_wp2
        go_ret
        exact ⟨by rw [HF.out]; rfl, hB⟩
  · have hlb : ((a.length : Int) != (b.length : Int)) = true := by simp; omega
    have HF : Hid (decide (a = b) = false) := decide_eq_false fun e => hl (by rw [e])
    clear hl
    go_enter Try.func8, Try.ntmps8
    go_wp2
    go_ret
    exact ⟨by rw [HF.out]; rfl, Below.refl _ _⟩

/-- The document's Within. -/
def rW : List (Int × Int) → List (Int × Int) → Bool
  | [], _ => true
  | x :: a, b =>
    match b.dropWhile (fun y => !decide (y = x)) with
    | [] => false
    | _ :: r => rW a r
theorem fold_drop (x : Int × Int) (a b : List (Int × Int)) : b.foldl wstep (x :: a) = match b.dropWhile (fun y => !decide (y = x)) with | [] => x :: a | _ :: r => r.foldl wstep a := by
  induction b with
  | nil => rfl
  | cons y b ih =>
    by_cases h : y = x
    · simp [wstep, h]
    · have h' : ¬x = y := fun e => h e.symm
      rw [List.foldl_cons, wstep, if_neg h', ih, List.dropWhile_cons, if_pos (by simpa using h)]
theorem fold_nil (b : List (Int × Int)) : b.foldl wstep [] = [] := by
  induction b with
  | nil => rfl
  | cons y b ih => exact ih
theorem rW_within (a b : List (Int × Int)) : rW a b = within a b := by
  induction a generalizing b with
  | nil => rw [rW, within, fold_nil]; rfl
  | cons x a ih =>
    rw [rW, within, fold_drop]
    cases h : b.dropWhile (fun y => !decide (y = x)) with
    | nil => simp
    | cons y r => simp only; rw [ih, within]
theorem drop_cons {a : List (Int × Int)} {i : Nat} {x : Int × Int} (h : a[i]? = some x) : a.drop i = x :: a.drop (i + 1) := by
  obtain ⟨hl, rfl⟩ := List.getElem?_eq_some_iff.1 h
  exact List.drop_eq_getElem_cons hl

theorem refWithin_any (a b : List (Int × Int)) (A B : Option Addr) (c d : Nat) (w : World) (ha : kPair.C w A a.length a) (hb : kPair.C w B b.length b) (hal : a.length ≤ 4294967296) (hbl : b.length ≤ 4294967296) :
    Calls Try.prog 13 #[.slice A a.length c, .slice B b.length d] w fun e w' => e = .returned (.bool (within a b)) ∧ Below w.heap.size w w' := by
  go_enter Try.func13, Try.ntmps13
  go_wp2
  go_loopw [5, 6] (fun k i wr => ∃ (j m : Nat), j ≤ a.length ∧ m ≤ b.length ∧ i = .int .i64 j ∧ k = .int .i64 m ∧ rW (a.drop j) (b.drop m) = within a b ∧ Below w.heap.size w wr) (fun _ i _ => a.length - (intOf i).toNat)
  case atStart => exact ⟨0, 0, Nat.zero_le _, Nat.zero_le _, rfl, rfl, rW_within a b, Below.refl _ _⟩
  case round =>
    obtain ⟨j, m, hj, hm, rfl, rfl, hr, hB⟩ := hrel
    have HR := hide_ hr
    clear hr
    by_cases hlt : j < a.length
    · obtain ⟨x, hx⟩ : ∃ x, a[j]? = some x := ⟨_, List.getElem?_eq_getElem hlt⟩
      have HX := hide_ hx
      clear hx
      go_wp2
      obtain ⟨wo, hwo⟩ : ∃ wo : World, wr = wo := ⟨_, rfl⟩
      subst hwo
      go_loopw [5] (fun k wi => ∃ (n : Nat), n ≤ b.length ∧ k = .int .i64 n ∧ (b.drop m).dropWhile (fun y => !decide (y = x)) = (b.drop n).dropWhile (fun y => !decide (y = x)) ∧ Below w.heap.size w wi) (fun k _ => b.length - (intOf k).toNat)
      case atStart => exact ⟨m, hm, rfl, rfl, hB⟩
      case round =>
        obtain ⟨n, hn, rfl, hd, hB2⟩ := hrel
        have HD := hide_ hd
        clear hd hB
        by_cases hlb : n < b.length
        · obtain ⟨ad, x1, y1, rfl, HX1, hc0, hc1⟩ := pair_at (Kd.C_below ha hB2) j hlt
          obtain ⟨bd, p, q, rfl, HY, hc2, hc3⟩ := pair_at (Kd.C_below hb hB2) n hlb
          obtain rfl : x = (x1, y1) := Option.some.inj (HX.out.symm.trans HX1.out)
          by_cases hxy : (p, q) = (x1, y1)
          · have heq := eqq_pair p q x1 y1 hxy
            have HXY := hide_ hxy
            clear hxy
            have HN : Hid (rW (a.drop (j + 1)) (b.drop (n + 1)) = within a b) := by
              have h1 := HR.out
              rw [drop_cons HX.out, rW, HD.out, drop_cons HY.out, List.dropWhile_cons, if_neg (by simp [HXY.out])] at h1
              exact h1
            go_wp2
            go_quiet (fail)
            go_wp2
            go_roundw
            case rel => exact ⟨j + 1, n + 1, by omega, by omega, by go_num, by go_num, HN.out, pw_below_drewN hB2 _⟩
            case measure => simp [intOf]; omega
          · have heq := neq_pair p q x1 y1 hxy
            have HXY := hide_ hxy
            clear hxy
            have HN : Hid ((b.drop m).dropWhile (fun y => !decide (y = (x1, y1))) = (b.drop (n + 1)).dropWhile (fun y => !decide (y = (x1, y1)))) := by
              show _ = _
              rw [HD.out, drop_cons HY.out, List.dropWhile_cons, if_pos (by rw [decide_eq_false HXY.out]; rfl)]
            go_wp2
            go_quiet (fail)
            go_wp2
            go_roundw
            case rel => exact ⟨n + 1, by omega, by go_num, HN.out, pw_below_drewN hB2 _⟩
            case measure => simp [intOf]; omega
        · have HN : Hid (within a b = false) := by
            have h1 := HR.out
            rw [drop_cons HX.out, rW, HD.out, List.drop_eq_nil_of_le (by omega)] at h1
            exact h1.symm
          go_wp2
          go_quiet (fail)
          go_wp2
          go_ret
          exact ⟨by rw [HN.out]; rfl, pw_below_drewN hB2 _⟩
    · have HN : Hid (within a b = true) := by
        have h1 := HR.out
        rw [List.drop_eq_nil_of_le (by omega), rW] at h1
        exact h1.symm
      go_wp2
      go_ret
      exact ⟨by rw [HN.out]; rfl, hB⟩
end Go.Proofs.Ytmjedjhgomlfiaa
