/- The document's Check and Text; the law. -/
import Derived.Test.YtmjedjhgomlfiaaGreatDoorCutsAll
set_option linter.unusedSimpArgs false
namespace Go.Proofs.YtmjedjhgomlfiaaGreatDoor
open Go.RowKit Go.Proofs.YtmjedjhgomlfiaaGreatDoorW.PrintWords Go.Lib

/-- All lists of operations of a program, the main one first. -/
def listsP (p : ProgV) : List (List OpV) := p.main :: p.calls
theorem allR_lists (p : ProgV) : allR p = (listsP p).all (fun l => l.all rightO) := rfl
theorem allR_not {p : ProgV} {k : Nat} {x : List OpV} (hx : (listsP p)[k]? = some x) (hf : x.all rightO = false) : allR p = false := by
  rw [allR_lists]; exact all_not hx hf
set_option maxRecDepth 100000 in
set_option maxHeartbeats 3200000 in
theorem rcheck_any (vm vc : Value) (p : ProgV) (w : World) (h : ReadsP w vm vc p) (hb : countP p ≤ 4294967296) :
    Calls Tryz.prog 15 #[.agg #[vm, vc]] w fun e w' => (∃ a b : Value, e = .returned (.tuple #[a, b, .int .i64 (textP p).2])) ∧ Below w.heap.size w w' := by
  have hcn := fun W hW => rcount_any vm vc p W (h.below hW) (by omega)
  obtain ⟨A, c, B, d, rfl, rfl, hm, hc⟩ := h
  have hcm := Kd.C_max hc
  have hmm := Kd.C_max hm
  have hri := fun x W => roright_any x W
  simp only [OpV.val] at hri
  have hbo := fun X => (Below.refl w.heap.size w).alloc (Nat.le_refl _) X
  have hX0 := fun X => heap_alloc_new w X
  by_cases h64 : 64 < p.calls.length
  · have HE := hide_ (textP_big (p := p) (.inl h64))
    have q64 : (64 : Int) < (p.calls.length : Int) := by omega
    go_enter Tryz.func15, Tryz.ntmps15
    go_wp2
    go_ret3
    exact ⟨⟨_, _, by rw [HE.out]; rfl⟩, hbo _⟩
  · have q64 : ¬ (64 : Int) < (p.calls.length : Int) := by omega
    by_cases h4 : 4096 < countP p
    · have HE := hide_ (textP_big (p := p) (.inr h4))
      have q4 : (4096 : Int) < (countP p : Int) := by omega
      go_enter Tryz.func15, Tryz.ntmps15
      go_wp2_with (go_at_call 5; refine (hcn _ (hbo _)).mono ?_; rintro e w1 ⟨rfl, hB1⟩)
      go_ret3
      exact ⟨⟨_, _, by rw [HE.out]; rfl⟩, below_then (hbo _) (hbo _).size hB1⟩
    · have q4 : ¬ (4096 : Int) < (countP p : Int) := by omega
      have hnb : ¬ (64 < p.calls.length ∨ 4096 < countP p) := by omega
      have HN := hide_ hnb
      clear hnb hb
      go_enter Tryz.func15, Tryz.ntmps15
      go_wp2_with (go_at_call 5; refine (hcn _ (hbo _)).mono ?_; rintro e w1 ⟨rfl, hB1⟩; have hC1 := below_then (hbo _) (hbo _).size hB1; have hX1 := (hB1.block _ (blk_lt (hX0 _))).trans (hX0 _))
      go_loopw [5, 6, 7] (fun v _ _ wr => ∃ k : Nat, k ≤ p.calls.length + 1 ∧ v = .int .i64 k ∧ Hid (((listsP p).take k).all (fun l => l.all rightO) = true) ∧ Below w.heap.size w wr ∧ wr.heap[w.heap.size]? = some (.cells #[.slice A p.main.length c, .slice B p.calls.length d] 25 (0, 0))) (fun v _ _ _ => p.calls.length + 1 - (intOf v).toNat)
      case atStart => exact ⟨0, Nat.zero_le _, rfl, ⟨rfl⟩, hC1, hX1⟩
      case round =>
        obtain ⟨k, hk, rfl, HT, hB, hbx⟩ := hrel
        have z0 := blk_cell hbx 0
        have z1 := blk_cell hbx 1
        by_cases hle : k ≤ p.calls.length
        · have hki : (k : Int) ≤ (p.calls.length : Int) := by omega
          rcases (show k = 0 ∨ ∃ k', k = k' + 1 from by cases k <;> simp) with rfl | ⟨k', rfl⟩
          · have HX : Hid ((listsP p)[0]? = some p.main) := ⟨rfl⟩
            have hxs := Kd.C_below hm hB
            have hxm := hmm
            rw [show ((0 : Nat) : Int) = 0 from rfl] at hki ⊢
            go_wp2
            go_loopw [7] (fun iv ws => ∃ i : Nat, i ≤ p.main.length ∧ iv = .int .i64 i ∧ Hid ((p.main.take i).all rightO = true) ∧ Below wr.heap.size wr ws) (fun iv _ => p.main.length - (intOf iv).toNat)
            case atStart => exact ⟨0, Nat.zero_le _, rfl, ⟨rfl⟩, Below.refl _ _⟩
            case round =>
              obtain ⟨i, hi, rfl, HI, hBi⟩ := hrel
              by_cases hli : i < p.main.length
              · obtain ⟨ad, x, rfl, HX1, a0, a1, a2, a3, a4, a5⟩ := el_op (Kd.C_below hxs hBi) i hli
                have hx := hri x wr
                have hBw := below_then hB hB.size hBi
                cases hr : rightO x with
                | true =>
                  rw [hr] at hx
                  have HR := hide_ hr
                  clear hr hri
                  go_wp2_with (go_at_call 33; refine hx.mono ?_; rintro e w3 ⟨rfl, hB3⟩)
                  go_roundw
                  case rel => exact ⟨i + 1, by omega, by go_num, ⟨all_take1 HI.out HX1.out HR.out⟩, below_then hBi hBi.size hB3⟩
                  case measure => simp [intOf] <;> omega
                | false =>
                  rw [hr] at hx
                  have HE := hide_ (textP_main HN.out (allR_not HX.out (all_not HX1.out hr)))
                  clear hr hri
                  go_wp2_with (go_at_call 33; refine hx.mono ?_; rintro e w3 ⟨rfl, hB3⟩)
                  go_ret3
                  exact ⟨⟨_, _, by rw [HE.out]; rfl⟩, below_then hBw hBw.size hB3⟩
              · have hBw := below_then hB hB.size hBi
                have hrX := blk_below hbx hBi
                have HP := hide_ (show p.main.take i = p.main from List.take_of_length_le (by omega))
                go_wp2
                go_roundw
                case rel => exact ⟨1, by omega, by go_num, ⟨all_take1 HT.out HX.out (by rw [← HP.out]; exact HI.out)⟩, hBw, hrX⟩
                case measure => simp [intOf] <;> omega
          · obtain ⟨bd, xs, A', c', rfl, HX0, x0, _, hxs⟩ := el_call (Kd.C_below hc hB) k' (by omega)
            have HX : Hid ((listsP p)[k' + 1]? = some xs) := ⟨HX0.out⟩
            have hxm := Kd.C_max hxs
            have hkp : (0 : Int) < (k' : Int) + 1 := by omega
            have hkl : k' < p.calls.length := by omega
            have hw1 : IntKind.i64.wrap ((k' : Int) + 1 - 1) = (k' : Int) := by rw [IntKind.wrap_i64]; omega
            rw [show ((k' + 1 : Nat) : Int) = (k' : Int) + 1 from by omega] at hki ⊢
            go_wp2
            go_loopw [7] (fun iv ws => ∃ i : Nat, i ≤ xs.length ∧ iv = .int .i64 i ∧ Hid ((xs.take i).all rightO = true) ∧ Below wr.heap.size wr ws) (fun iv _ => xs.length - (intOf iv).toNat)
            case atStart => exact ⟨0, Nat.zero_le _, rfl, ⟨rfl⟩, Below.refl _ _⟩
            case round =>
              obtain ⟨i, hi, rfl, HI, hBi⟩ := hrel
              by_cases hli : i < xs.length
              · obtain ⟨ad, x, rfl, HX1, a0, a1, a2, a3, a4, a5⟩ := el_op (Kd.C_below hxs hBi) i hli
                have hx := hri x wr
                have hBw := below_then hB hB.size hBi
                cases hr : rightO x with
                | true =>
                  rw [hr] at hx
                  have HR := hide_ hr
                  clear hr hri
                  go_wp2_with (go_at_call 33; refine hx.mono ?_; rintro e w3 ⟨rfl, hB3⟩)
                  go_roundw
                  case rel => exact ⟨i + 1, by omega, by go_num, ⟨all_take1 HI.out HX1.out HR.out⟩, below_then hBi hBi.size hB3⟩
                  case measure => simp [intOf] <;> omega
                | false =>
                  rw [hr] at hx
                  have HE := hide_ (textP_main HN.out (allR_not HX.out (all_not HX1.out hr)))
                  clear hr hri
                  go_wp2_with (go_at_call 33; refine hx.mono ?_; rintro e w3 ⟨rfl, hB3⟩)
                  go_ret3
                  exact ⟨⟨_, _, by rw [HE.out]; rfl⟩, below_then hBw hBw.size hB3⟩
              · have hBw := below_then hB hB.size hBi
                have hrX := blk_below hbx hBi
                have HP := hide_ (show xs.take i = xs from List.take_of_length_le (by omega))
                go_wp2
                go_roundw
                case rel => exact ⟨k' + 1 + 1, by omega, by go_num, ⟨all_take1 HT.out HX.out (by rw [← HP.out]; exact HI.out)⟩, hBw, hrX⟩
                case measure => simp [intOf] <;> omega
        · have hki : ¬ (k : Int) ≤ (p.calls.length : Int) := by omega
          have HP := hide_ (show (listsP p).take k = listsP p from List.take_of_length_le (by simp [listsP]; omega))
          have HE : Hid ((textP p).2 = 0) := ⟨by
            have h1 := HT.out
            rw [HP.out] at h1
            rw [textP_ok HN.out h1]⟩
          go_wp2
          go_ret3
          exact ⟨⟨_, _, by rw [HE.out]; rfl⟩, hB⟩
end Go.Proofs.YtmjedjhgomlfiaaGreatDoor

set_option linter.unusedSimpArgs false
namespace Go.Proofs.YtmjedjhgomlfiaaGreatDoor
open Go.RowKit Go.Proofs.YtmjedjhgomlfiaaGreatDoorW.PrintWords Go.Lib

/-- The text of a program's first lists, the main one first. -/
def preT (p : ProgV) (k : Nat) : ByteArray := ofL (if k = 0 then [] else bytesI (itemsP ⟨p.main, p.calls.take (k - 1)⟩))
theorem preT_all (p : ProgV) : preT p (p.calls.length + 1) = textI (itemsP p) := by
  rw [preT, if_neg (by omega), Nat.add_sub_cancel, List.take_length]; rfl
theorem app_nil (pre : ByteArray) (xs : List OpV) : pre ++ ofL (bytesI ((xs.take 0).map some)) = pre := by
  apply ByteArray.ext
  apply Array.toList_inj.1
  simp [ofL, bytesI, endsL]
theorem app_op {pre : ByteArray} {l : List OpV} {j : Nat} {x : OpV} (h : l[j]? = some x) : pre ++ ofL (bytesI ((l.take j).map some)) ++ joined (wordsO x) ++ ⟨#[10]⟩ = pre ++ ofL (bytesI ((l.take (j + 1)).map some)) := by
  rw [bytesI_op h]
  apply ByteArray.ext
  apply Array.toList_inj.1
  simp [ofL]
theorem preT_one (p : ProgV) : preT p 0 ++ ofL (bytesI (p.main.map some)) = preT p 1 := by
  apply ByteArray.ext
  apply Array.toList_inj.1
  simp [preT, ofL, itemsP, bytesI, endsL]
theorem preT_next {p : ProgV} {k : Nat} {xs : List OpV} (h : p.calls[k]? = some xs) : preT p (k + 1) ++ ⟨#[99, 97, 108, 108, 10]⟩ ++ ofL (bytesI (xs.map some)) = preT p (k + 1 + 1) := by
  rw [preT, preT, if_neg (by omega), if_neg (by omega), Nat.add_sub_cancel, Nat.add_sub_cancel, items_call h]
  apply ByteArray.ext
  apply Array.toList_inj.1
  simp [ofL]
theorem preT_size {p : ProgV} (h : allR p = true) (h1 : p.calls.length ≤ 64) (h2 : countP p ≤ 4096) (k : Nat) : (preT p k).size ≤ 900000 := by
  rw [Lib.size_eq, preT, data_ofL]
  split
  · simp
  · obtain ⟨a, b⟩ := sub_items h (k - 1)
    have := bytesI_len a
    omega
set_option maxRecDepth 100000 in
set_option maxHeartbeats 3200000 in
theorem rstext_any (vm vc : Value) (p : ProgV) (w : World) (h : ReadsP w vm vc p) (hb : countP p ≤ 4294967296) :
    Calls Tryz.prog 7 #[.agg #[vm, vc]] w fun e w' => e = .returned (.tuple #[.string (textP p).1, .int .i64 (textP p).2]) ∧ Below w.heap.size w w' := by
  have hck := fun W hW => rcheck_any vm vc p W (h.below hW) hb
  have hbo := fun X => (Below.refl w.heap.size w).alloc (Nat.le_refl _) X
  have hX0 := fun X => heap_alloc_new w X
  obtain ⟨A, c, B, d, rfl, rfl, hm, hc⟩ := h
  have hot := fun x W => rotext_any x W
  simp only [OpV.val] at hot
  rcases textP_cases p with ⟨h1, h2⟩ | ⟨hr, hl, hn, he⟩
  · rw [h2]
    generalize (textP p).2 = f at *
    go_enter Tryz.func7, Tryz.ntmps7
    go_wp2_with (go_at_call 15; refine (hck _ (hbo _)).mono ?_; rintro e w1 ⟨⟨a, b, rfl⟩, hB1⟩)
    go_ret2
    exact ⟨rfl, below_then (hbo _) (hbo _).size hB1⟩
  · rw [he] at hck ⊢
    have hall : p.main.all rightO = true ∧ p.calls.all (fun l => l.all rightO) = true := by rwa [allR, Bool.and_eq_true] at hr
    obtain ⟨hm1, hc1⟩ := hall
    have hpz := preT_size hr hl hn
    have hml : p.main.length ≤ 4096 := by rw [countP] at hn; omega
    have hcl : ∀ (j : Nat) (x : List OpV), p.calls[j]? = some x → x.length ≤ 4096 := fun j x hx => by
      have h1 := sumL_next hx
      have h2 := sumL_le (l := p.calls) (j + 1)
      rw [countP] at hn
      omega
    clear he hb hr
    go_enter Tryz.func7, Tryz.ntmps7
    go_wp2_with (go_at_call 15; refine (hck _ (hbo _)).mono ?_; rintro e w1 ⟨⟨a, b, rfl⟩, hB1⟩; have hC1 := below_then (hbo _) (hbo _).size hB1; have hX1 := (hB1.block _ (blk_lt (hX0 _))).trans (hX0 _))
    clear hck
    go_loopw [7, 8, 9, 10, 11, 12] (fun s v _ _ _ _ wr => ∃ k : Nat, k ≤ p.calls.length + 1 ∧ v = .int .i64 k ∧ s = .string (preT p k) ∧ Below w.heap.size w wr ∧ wr.heap[w.heap.size]? = some (.cells #[.slice A p.main.length c, .slice B p.calls.length d] 25 (0, 0))) (fun _ v _ _ _ _ _ => p.calls.length + 1 - (intOf v).toNat)
    case atStart => exact ⟨0, Nat.zero_le _, rfl, rfl, hC1, hX1⟩
    case round =>
      obtain ⟨k, hk, rfl, rfl, hB, hbx⟩ := hrel
      have z0 := blk_cell hbx 0
      have z1 := blk_cell hbx 1
      have hpk := hpz k
      by_cases hle : k ≤ p.calls.length
      · have hki : (k : Int) ≤ (p.calls.length : Int) := by omega
        rcases (show k = 0 ∨ ∃ k', k = k' + 1 from by cases k <;> simp) with rfl | ⟨k', rfl⟩
        · have hxs := Kd.C_below hm hB
          have hxr := hm1
          have hxl := hml
          rw [show ((0 : Nat) : Int) = 0 from rfl] at hki ⊢
          go_wp2
          have hps : (preT p 0).size ≤ 900010 := by omega
          have HNX := hide_ (preT_one p)
          generalize hpre : preT p 0 = pre at hps ⊢
          have HPR := hide_ hpre
          clear hpre
          go_loopw [7, 10, 11, 12] (fun s iv _ _ ws => ∃ i : Nat, i ≤ p.main.length ∧ iv = .int .i64 i ∧ s = .string (pre ++ ofL (bytesI ((p.main.take i).map some))) ∧ Below wr.heap.size wr ws) (fun _ iv _ _ _ => p.main.length - (intOf iv).toNat)
          case atStart => exact ⟨0, Nat.zero_le _, rfl, by rw [app_nil], Below.refl _ _⟩
          case round =>
            obtain ⟨i, hi, rfl, rfl, hBi⟩ := hrel
            have hBw := below_then hB hB.size hBi
            by_cases hli : i < p.main.length
            · obtain ⟨ad, x, rfl, HX1, a0, a1, a2, a3, a4, a5⟩ := el_op (Kd.C_below hxs hBi) i hli
              have hx : rightO x = true := List.all_eq_true.1 hxr x (List.mem_of_getElem? HX1.out)
              have hxt := fun W => hot x W
              rw [if_pos hx, if_pos hx] at hxt
              have hls := lineT_size hx
              have HN := hide_ (app_op (pre := pre) HX1.out)
              have hbl := bytesI_len (right_take hxr i)
              rw [List.length_map, List.length_take, Nat.min_eq_left hi] at hbl
              have hcs : (pre ++ ofL (bytesI ((p.main.take i).map some))).size ≤ 2000000 := by
                rw [ByteArray.size_append]
                show pre.size + (bytesI ((p.main.take i).map some)).length ≤ _
                omega
              rw [lineT] at hls
              clear hbl hot
              generalize pre ++ ofL (bytesI ((p.main.take i).map some)) = ct at *
              generalize joined (wordsO x) = jx at *
              clear hx
              go_wp2_with (go_at_call 16; refine (hxt _).mono ?_; rintro e w3 ⟨rfl, hB3⟩)
              go_roundw
              case rel => exact ⟨i + 1, by omega, by go_num, by rw [HN.out], below_then hBi hBi.size hB3⟩
              case measure => simp [intOf] <;> omega
            · have hrX := blk_below hbx hBi
              have HP := hide_ (show p.main.take i = p.main from List.take_of_length_le (by omega))
              have HQ := hide_ (show pre ++ ofL (bytesI ((p.main.take i).map some)) = preT p (1) by rw [HP.out, ← HPR.out]; exact HNX.out)
              go_wp2
              go_roundw
              case rel => exact ⟨1, by omega, by go_num, by rw [HQ.out], hBw, hrX⟩
              case measure => simp [intOf] <;> omega
        · obtain ⟨bd, xs, A', c', rfl, HX0, x0, _, hxs⟩ := el_call (Kd.C_below hc hB) k' (by omega)
          have hxr : xs.all rightO = true := List.all_eq_true.1 hc1 xs (List.mem_of_getElem? HX0.out)
          have hxl := hcl k' xs HX0.out
          have hkp : (0 : Int) < (k' : Int) + 1 := by omega
          have hkl : k' < p.calls.length := by omega
          have hw1 : IntKind.i64.wrap ((k' : Int) + 1 - 1) = (k' : Int) := by rw [IntKind.wrap_i64]; omega
          rw [show ((k' + 1 : Nat) : Int) = (k' : Int) + 1 from by omega] at hki ⊢
          go_wp2
          have hps : (preT p (k' + 1) ++ ⟨#[99, 97, 108, 108, 10]⟩).size ≤ 900010 := by rw [ByteArray.size_append]; show _ + 5 ≤ _; omega
          have HNX := hide_ (preT_next HX0.out)
          generalize hpre : preT p (k' + 1) ++ ⟨#[99, 97, 108, 108, 10]⟩ = pre at hps ⊢
          have HPR := hide_ hpre
          clear hpre
          go_loopw [7, 10, 11, 12] (fun s iv _ _ ws => ∃ i : Nat, i ≤ xs.length ∧ iv = .int .i64 i ∧ s = .string (pre ++ ofL (bytesI ((xs.take i).map some))) ∧ Below wr.heap.size wr ws) (fun _ iv _ _ _ => xs.length - (intOf iv).toNat)
          case atStart => exact ⟨0, Nat.zero_le _, rfl, by rw [app_nil], Below.refl _ _⟩
          case round =>
            obtain ⟨i, hi, rfl, rfl, hBi⟩ := hrel
            have hBw := below_then hB hB.size hBi
            by_cases hli : i < xs.length
            · obtain ⟨ad, x, rfl, HX1, a0, a1, a2, a3, a4, a5⟩ := el_op (Kd.C_below hxs hBi) i hli
              have hx : rightO x = true := List.all_eq_true.1 hxr x (List.mem_of_getElem? HX1.out)
              have hxt := fun W => hot x W
              rw [if_pos hx, if_pos hx] at hxt
              have hls := lineT_size hx
              have HN := hide_ (app_op (pre := pre) HX1.out)
              have hbl := bytesI_len (right_take hxr i)
              rw [List.length_map, List.length_take, Nat.min_eq_left hi] at hbl
              have hcs : (pre ++ ofL (bytesI ((xs.take i).map some))).size ≤ 2000000 := by
                rw [ByteArray.size_append]
                show pre.size + (bytesI ((xs.take i).map some)).length ≤ _
                omega
              rw [lineT] at hls
              clear hbl hot
              generalize pre ++ ofL (bytesI ((xs.take i).map some)) = ct at *
              generalize joined (wordsO x) = jx at *
              clear hx
              go_wp2_with (go_at_call 16; refine (hxt _).mono ?_; rintro e w3 ⟨rfl, hB3⟩)
              go_roundw
              case rel => exact ⟨i + 1, by omega, by go_num, by rw [HN.out], below_then hBi hBi.size hB3⟩
              case measure => simp [intOf] <;> omega
            · have hrX := blk_below hbx hBi
              have HP := hide_ (show xs.take i = xs from List.take_of_length_le (by omega))
              have HQ := hide_ (show pre ++ ofL (bytesI ((xs.take i).map some)) = preT p (k' + 1 + 1) by rw [HP.out, ← HPR.out]; exact HNX.out)
              go_wp2
              go_roundw
              case rel => exact ⟨k' + 1 + 1, by omega, by go_num, by rw [HQ.out], hBw, hrX⟩
              case measure => simp [intOf] <;> omega
      · have hki : ¬ (k : Int) ≤ (p.calls.length : Int) := by omega
        have HP := hide_ (show preT p k = textI (itemsP p) by rw [show k = p.calls.length + 1 by omega]; exact preT_all p)
        go_wp2
        go_ret2
        exact ⟨by rw [HP.out]; rfl, hB⟩
end Go.Proofs.YtmjedjhgomlfiaaGreatDoor

set_option linter.unusedSimpArgs false
namespace Go.Proofs.YtmjedjhgomlfiaaGreatDoor
open Go.RowKit Go.Proofs.YtmjedjhgomlfiaaGreatDoorW.PrintWords Go.Lib

theorem sum_max {n b : Nat} : ∀ {l : List (List OpV)}, l.length ≤ n → (∀ x ∈ l, x.length ≤ b) → sumL l ≤ n * b
  | [], _, _ => by simp [sumL]
  | x :: l, hn, hb => by
    obtain ⟨m, rfl⟩ : ∃ m, n = m + 1 := ⟨n - 1, by simp at hn; omega⟩
    have h1 := sum_max (n := m) (b := b) (l := l) (by simp at hn; omega) (fun y hy => hb y (by simp [hy]))
    have h2 := hb x (by simp)
    rw [show sumL (x :: l) = x.length + sumL l by simp [sumL], Nat.succ_mul]
    omega
open Classical in
set_option maxRecDepth 100000 in
set_option maxHeartbeats 3200000 in
theorem scriptTexts_any (vm vc : Value) (p : ProgV) (w : World) (hL : w.ShapedOpen Tryz.prog) (hO : LayO w) (h : ReadsP w vm vc p) (hm47 : p.main.length ≤ 140737488355328) (hc47 : ∀ l ∈ p.calls, l.length ≤ 140737488355328) :
    Calls Tryz.prog 3 #[.agg #[vm, vc]] w fun e w' => e = .returned (.bool true) ∧ Below w.heap.size w w' := by
  have haw := fun W hW => scAwake_any W (hO.below hW) (shaped_below hL hW)
  have hbo := fun X => (Below.refl w.heap.size w).alloc (Nat.le_refl _) X
  have hX0 := fun X => heap_alloc_new w X
  by_cases h80 : p.calls.length ≤ 80
  · have q80 : ¬ (80 : Int) < (p.calls.length : Int) := by omega
    have hcp : countP p ≤ 9223372036854775807 := by
      have := sum_max h80 hc47
      rw [countP]
      omega
    have hcn := fun W hW => rcount_any vm vc p W (h.below hW) hcp
    by_cases h500 : countP p ≤ 500
    · have q500 : ¬ (500 : Int) < (countP p : Int) := by omega
      have htx := fun W hW => stext_any vm vc p W (hO.below hW) (h.below hW) (by omega)
      have hty := fun W hW => rstext_any vm vc p W (h.below hW) (by omega)
      rcases textP_cases p with ⟨h1, h2⟩ | ⟨hr, hl, hn, he⟩
      · rw [h2] at htx hty
        generalize (textP p).2 = f at *
        have hf : (f != 0) = true := by simpa using h1
        obtain ⟨A, c, B, d, rfl, rfl, hm, hc⟩ := h
        go_enter Tryz.func3, Tryz.ntmps3
        go_wp2_with (first
          | (go_at_call 4; refine (haw _ (hbo _)).mono ?_; rintro e w1 ⟨rfl, hB1⟩; have hC1 := below_then (hbo _) (hbo _).size hB1; have hX1 := (hB1.block _ (blk_lt (hX0 _))).trans (hX0 _); have z0 := blk_cell hX1 0; have z1 := blk_cell hX1 1)
          | (go_at_call 5; refine (hcn _ hC1).mono ?_; rintro e w2 ⟨rfl, hB2⟩; have hC2 := below_then hC1 hC1.size hB2; have hX2 := (hB2.block _ (blk_lt hX1)).trans hX1; have z2 := blk_cell hX2 0; have z3 := blk_cell hX2 1)
          | (go_at_call 6; refine (htx _ hC2).mono ?_; rintro e w3 ⟨rfl, hB3⟩; have hC3 := below_then hC2 hC2.size hB3; have hX3 := (hB3.block _ (blk_lt hX2)).trans hX2; have y0 := blk_cell hX3 0; have y1 := blk_cell hX3 1)
          | (go_at_call 7; refine (hty _ hC3).mono ?_; rintro e w4 ⟨rfl, hB4⟩; have hC4 := below_then hC3 hC3.size hB4))
        go_ret
        exact ⟨rfl, hC4⟩
      · rw [he] at htx hty
        have hr' := allR_items hr
        have hsc := textI_script hr' (by rw [items_length]; omega) (by rw [runI_items]; omega)
        rw [runI_items] at hsc
        have hsz := textI_size hr'
        rw [items_length] at hsz
        have hsp := fun W hW => sparse_big (textI (itemsP p)) W (hO.below hW) (shaped_below hL hW) (by omega)
        rw [hsc] at hsp
        have hsame := fun vm vc um uc W h1 h2 => sameP_any vm vc um uc p p W h1 h2 (by omega)
        rw [decide_eq_true (show p.main = p.main ∧ p.calls = p.calls from ⟨rfl, rfl⟩)] at hsame
        obtain ⟨A, c, B, d, rfl, rfl, hm, hc⟩ := h
        clear hsc hsz hr'
        generalize textI (itemsP p) = T at *
        clear he
        go_enter Tryz.func3, Tryz.ntmps3
        go_wp2_with (first
          | (go_at_call 4; refine (haw _ (hbo _)).mono ?_; rintro e w1 ⟨rfl, hB1⟩; have hC1 := below_then (hbo _) (hbo _).size hB1; have hX1 := (hB1.block _ (blk_lt (hX0 _))).trans (hX0 _); have z0 := blk_cell hX1 0; have z1 := blk_cell hX1 1)
          | (go_at_call 5; refine (hcn _ hC1).mono ?_; rintro e w2 ⟨rfl, hB2⟩; have hC2 := below_then hC1 hC1.size hB2; have hX2 := (hB2.block _ (blk_lt hX1)).trans hX1; have z2 := blk_cell hX2 0; have z3 := blk_cell hX2 1)
          | (go_at_call 6; refine (htx _ hC2).mono ?_; rintro e w3 ⟨rfl, hB3⟩; have hC3 := below_then hC2 hC2.size hB3; have hX3 := (hB3.block _ (blk_lt hX2)).trans hX2; have y0 := blk_cell hX3 0; have y1 := blk_cell hX3 1)
          | (go_at_call 7; refine (hty _ hC3).mono ?_; rintro e w4 ⟨rfl, hB4⟩; have hC4 := below_then hC3 hC3.size hB4; have hX4 := (hB4.block _ (blk_lt hX3)).trans hX3)
          | (go_at_call 8; refine (hsp _ hC4).mono ?_; rintro e w6 ⟨um, uc, rfl, hQ, hB6⟩; obtain ⟨A5, c5, B5, d5, rfl, rfl, hqm, hqc⟩ := hQ; have hC6 := below_then hC4 hC4.size hB6; have hX6 := (hB6.block _ (blk_lt hX4)).trans hX4; have hX7 := (heap_alloc_old w6 (.cells #[.slice A5 p.main.length c5, .slice B5 p.calls.length d5] 25) (blk_lt hX6)).trans hX6; have hQ7 := heap_alloc_new w6 (.cells #[.slice A5 p.main.length c5, .slice B5 p.calls.length d5] 25); have hC7 := hC6.alloc hC6.size (.cells #[.slice A5 p.main.length c5, .slice B5 p.calls.length d5] 25); have v0 := blk_cell hX7 0; have v1 := blk_cell hX7 1; have u0 := blk_cell hQ7 0; have u1 := blk_cell hQ7 1; have hqm7 := Kd.C_below hqm (below_alloc (Below.refl w6.heap.size w6) (.cells #[.slice A5 p.main.length c5, .slice B5 p.calls.length d5] 25)); have hqc7 := Kd.C_below hqc (below_alloc (Below.refl w6.heap.size w6) (.cells #[.slice A5 p.main.length c5, .slice B5 p.calls.length d5] 25)))
          | (go_at_call 9; refine (hsame _ _ _ _ _ ⟨A, c, B, d, rfl, rfl, Kd.C_below hm hC7, Kd.C_below hc hC7⟩ ⟨A5, c5, B5, d5, rfl, rfl, hqm7, hqc7⟩).mono ?_; rintro e w8 ⟨rfl, hB8⟩; have hC8 := below_then hC7 hC7.size hB8))
        go_ret
        exact ⟨rfl, hC8⟩
    · have q500 : (500 : Int) < (countP p : Int) := by omega
      obtain ⟨A, c, B, d, rfl, rfl, hm, hc⟩ := h
      go_enter Tryz.func3, Tryz.ntmps3
      go_wp2_with (first
        | (go_at_call 4; refine (haw _ (hbo _)).mono ?_; rintro e w1 ⟨rfl, hB1⟩; have hC1 := below_then (hbo _) (hbo _).size hB1; have hX1 := (hB1.block _ (blk_lt (hX0 _))).trans (hX0 _); have z0 := blk_cell hX1 0; have z1 := blk_cell hX1 1)
        | (go_at_call 5; refine (hcn _ hC1).mono ?_; rintro e w2 ⟨rfl, hB2⟩; have hC2 := below_then hC1 hC1.size hB2; have hX2 := (hB2.block _ (blk_lt hX1)).trans hX1; have z2 := blk_cell hX2 0; have z3 := blk_cell hX2 1))
      go_ret
      exact ⟨rfl, hC2⟩
  · have q80 : (80 : Int) < (p.calls.length : Int) := by omega
    obtain ⟨A, c, B, d, rfl, rfl, hm, hc⟩ := h
    go_enter Tryz.func3, Tryz.ntmps3
    go_wp2_with (go_at_call 4; refine (haw _ (hbo _)).mono ?_; rintro e w1 ⟨rfl, hB1⟩; have hC1 := below_then (hbo _) (hbo _).size hB1; have hX1 := (hB1.block _ (blk_lt (hX0 _))).trans (hX0 _); have z0 := blk_cell hX1 0; have z1 := blk_cell hX1 1)
    go_ret
    exact ⟨rfl, hC1⟩
end Go.Proofs.YtmjedjhgomlfiaaGreatDoor
