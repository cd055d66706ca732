/- Programs as texts; prog.Check and script.Text. -/
import Derived.Test.YtmjedjhgomlfiaaGreatDoorScRefB
import Derived.Shelf.Strings.BuilderK
import Derived.Test.YtmjedjhgomlfiaaGreatDoorProg
set_option linter.unusedSimpArgs false
namespace Go.Proofs.YtmjedjhgomlfiaaGreatDoor
open Go.RowKit Go.Proofs.YtmjedjhgomlfiaaGreatDoorW.PrintWords Go.Lib

/-- An operation's line. -/
def lineT (x : OpV) : ByteArray := joined (wordsO x)
/-- What stands in a program's lines: the begin of a callback, or an operation. -/
def itemsP (p : ProgV) : List (Option OpV) := p.main.map some ++ (p.calls.map (fun l => none :: l.map some)).flatten
def itemT : Option OpV → ByteArray
  | none => callW
  | some x => lineT x
def addI (p : ProgV) : Option OpV → ProgV
  | none => ⟨p.main, p.calls ++ [[]]⟩
  | some x => addOp p x
def runI (l : List (Option OpV)) (p : ProgV) : ProgV := l.foldl addI p
theorem runI_main (m : List OpV) : ∀ l : List OpV, runI (l.map some) ⟨m, []⟩ = ⟨m ++ l, []⟩ := by
  intro l
  induction l generalizing m with
  | nil => simp [runI]
  | cons x l ih =>
    have := ih (m ++ [x])
    rw [runI] at this ⊢
    rw [List.map_cons, List.foldl_cons, show addI ⟨m, []⟩ (some x) = ⟨m ++ [x], []⟩ from rfl, this]
    simp
theorem runI_call (m : List OpV) (L : List (List OpV)) : ∀ (l y : List OpV), runI (l.map some) ⟨m, L ++ [y]⟩ = ⟨m, L ++ [y ++ l]⟩ := by
  intro l
  induction l with
  | nil => intro y; simp [runI]
  | cons x l ih =>
    intro y
    have := ih (y ++ [x])
    rw [runI] at this ⊢
    rw [List.map_cons, List.foldl_cons, show addI ⟨m, L ++ [y]⟩ (some x) = ⟨m, L ++ [y ++ [x]]⟩ from addOp_last m L y x, this]
    simp
theorem runI_append (a b : List (Option OpV)) (p : ProgV) : runI (a ++ b) p = runI b (runI a p) := by
  rw [runI, runI, runI, List.foldl_append]
theorem runI_calls (m : List OpV) : ∀ (cs L : List (List OpV)), runI (cs.map (fun l => none :: l.map some)).flatten ⟨m, L⟩ = ⟨m, L ++ cs⟩
  | [], L => by simp [runI]
  | c :: cs, L => by
    rw [List.map_cons, List.flatten_cons, runI_append, show runI (none :: c.map some) ⟨m, L⟩ = runI (c.map some) ⟨m, L ++ [[]]⟩ from rfl, runI_call, runI_calls m cs]
    simp
theorem runI_items (p : ProgV) : runI (itemsP p) zeroP = p := by
  obtain ⟨m, cs⟩ := p
  rw [itemsP, runI_append, show zeroP = ⟨[], []⟩ from rfl, runI_main, runI_calls]
  simp
theorem addI_count (p : ProgV) (i : Option OpV) : countP (addI p i) + (addI p i).calls.length = countP p + p.calls.length + 1 := by
  cases i with
  | none => simp [addI, countP, sumL]; omega
  | some x =>
    rw [addI, countP_add]
    have : (addOp p x).calls.length = p.calls.length := by unfold addOp; split <;> simp
    omega
theorem runI_count : ∀ (l : List (Option OpV)) (p : ProgV), countP (runI l p) + (runI l p).calls.length = countP p + p.calls.length + l.length
  | [], p => rfl
  | i :: l, p => by
    have h1 := addI_count p i
    have h2 := runI_count l (addI p i)
    rw [show runI (i :: l) p = runI l (addI p i) from rfl, h2, List.length_cons]
    omega
theorem runI_calls_le : ∀ (l : List (Option OpV)) (p : ProgV), p.calls.length ≤ (runI l p).calls.length
  | [], p => Nat.le_refl _
  | i :: l, p => by
    refine Nat.le_trans ?_ (runI_calls_le l (addI p i))
    cases i with
    | none => simp [addI]
    | some x => simp only [addI, addOp]; split <;> simp
/-- The beginning of a program. -/
def PreC (a b : List (List OpV)) : Prop := a = [] ∨ ∃ L y z R, a = L ++ [y] ∧ b = L ++ z :: R ∧ y <+: z
def PreP (q p : ProgV) : Prop := q.main <+: p.main ∧ PreC q.calls p.calls
theorem PreP.refl (p : ProgV) : PreP p p := by
  refine ⟨List.prefix_rfl, ?_⟩
  by_cases h : p.calls.length = 0
  · exact .inl (List.length_eq_zero_iff.1 h)
  · obtain ⟨L, y, hp⟩ := calls_last p h
    rw [hp]
    exact .inr ⟨L, y, y, [], rfl, rfl, List.prefix_rfl⟩
theorem PreP.add {q r : ProgV} (h : PreP q r) (i : Option OpV) : PreP q (addI r i) := by
  obtain ⟨h1, h2⟩ := h
  cases i with
  | none =>
    refine ⟨h1, ?_⟩
    rcases h2 with h2 | ⟨L, y, z, R, e1, e2, e3⟩
    · exact .inl h2
    · exact .inr ⟨L, y, z, R ++ [[]], e1, by simp [addI, e2], e3⟩
  | some x =>
    by_cases hr : r.calls.length = 0
    · have hr' := List.length_eq_zero_iff.1 hr
      refine ⟨?_, ?_⟩
      · rw [addI, addOp, if_pos hr]
        exact h1.trans (List.prefix_append _ _)
      · rcases h2 with h2 | ⟨L, y, z, R, e1, e2, e3⟩
        · exact .inl h2
        · rw [hr'] at e2; simp at e2
    · rcases h2 with h2 | ⟨L, y, z, R, e1, e2, e3⟩
      · refine ⟨?_, .inl h2⟩
        rw [addI, addOp, if_neg hr]; exact h1
      · obtain ⟨m, cs⟩ := r
        have e2' : cs = L ++ z :: R := e2
        subst e2'
        rcases List.eq_nil_or_concat R with hR | ⟨R', t, hR⟩
        · subst hR
          rw [show addI ⟨m, L ++ [z]⟩ (some x) = ⟨m, L ++ [z ++ [x]]⟩ from addOp_last m L z x]
          exact ⟨h1, .inr ⟨L, y, z ++ [x], [], e1, rfl, e3.trans (List.prefix_append _ _)⟩⟩
        · rw [List.concat_eq_append] at hR
          subst hR
          rw [show addI ⟨m, L ++ z :: (R' ++ [t])⟩ (some x) = ⟨m, (L ++ z :: R') ++ [t ++ [x]]⟩ from by
            rw [show L ++ z :: (R' ++ [t]) = (L ++ z :: R') ++ [t] by simp]
            exact addOp_last m (L ++ z :: R') t x]
          exact ⟨h1, .inr ⟨L, y, z, R' ++ [t ++ [x]], e1, by simp, e3⟩⟩
theorem PreP.run {q : ProgV} : ∀ (l : List (Option OpV)) (r : ProgV), PreP q r → PreP q (runI l r)
  | [], _, h => h
  | i :: l, r, h => PreP.run l (addI r i) (h.add i)
theorem callW_words : words callW = [callW] := own_word (by decide) (by decide)
theorem name_says {c : Int} (h : there c = true) : Lib.hasPrefix (nameW c).data.toList [35] = false ∧ nameW c ≠ callW := by
  obtain ⟨j, rfl, h1, h2⟩ := there_nat h
  have k1 : ∀ j : Fin 18, 1 ≤ j.val → Lib.hasPrefix (nameW (j.val : Int)).data.toList [35] = false ∧ (nameW (j.val : Int)).data.toList ≠ [99, 97, 108, 108] := by decide +kernel
  obtain ⟨a1, a2⟩ := k1 ⟨j, h2⟩ h1
  exact ⟨a1, fun e => a2 (by rw [show ((⟨j, h2⟩ : Fin 18).val : Int) = (j : Int) from rfl, e]; rfl)⟩
theorem line_op {x : OpV} (h : rightO x = true) (q : ProgV) (hc : countP q < 4096) : lineW q (lineT x) = (addOp q x, 0) := by
  obtain ⟨h1, -, -⟩ := rightO_parts h
  obtain ⟨n1, n2⟩ := name_says h1
  have hw : words (lineT x) = wordsO x := split_text h
  have hs : saysW (wordsO x) = true := by
    rw [wordsO, saysW, n1]; rfl
  have hn : wordsO x ≠ [callW] := by
    intro e
    rw [wordsO] at e
    exact n2 (List.cons.inj e).1
  rw [lineW, hw, if_pos hs, takeW, if_neg hn, parse_text h, if_pos rfl, if_neg (by omega)]
theorem line_call (q : ProgV) (hc : q.calls.length < 64) : lineW q callW = (⟨q.main, q.calls ++ [[]]⟩, 0) := by
  rw [lineW, callW_words, if_pos (by decide), takeW, if_pos rfl, if_neg (by omega)]
/-- Right items. -/
def RightI (l : List (Option OpV)) : Prop := ∀ x, some x ∈ l → rightO x = true
theorem st_items : ∀ (l : List (Option OpV)) (p : ProgV), RightI l → countP p + l.length ≤ 4096 → (runI l p).calls.length ≤ 64 → stW (l.map itemT) p = some (runI l p)
  | [], p, _, _, _ => rfl
  | i :: l, p, h, hc, hk => by
    rw [List.length_cons] at hc
    have hl : lineW p (itemT i) = (addI p i, 0) := by
      cases i with
      | none =>
        refine line_call p ?_
        have := runI_calls_le l (addI p none)
        rw [show runI (none :: l) p = runI l (addI p none) from rfl] at hk
        simp only [addI, List.length_append, List.length_singleton] at this
        simp only [addI] at hk
        omega
      | some x => exact line_op (h x (by simp)) p (by omega)
    rw [List.map_cons, stW, hl, if_pos rfl]
    refine st_items l (addI p i) (fun x hx => h x (by simp [hx])) ?_ hk
    have := addI_count p i
    have h2 : p.calls.length ≤ (addI p i).calls.length := runI_calls_le [i] p
    omega

/-- No byte of a right operation's line ends it. -/
theorem join_mem {s : List UInt8} {b : UInt8} : ∀ {l : List (List UInt8)}, b ∈ Lib.join l s → b ∈ s ∨ ∃ x ∈ l, b ∈ x
  | [], h => by rw [Lib.join_nil] at h; cases h
  | x :: r, h => by
    rw [Lib.join_cons] at h
    rcases List.mem_append.1 h with h | h
    · exact .inr ⟨x, by simp, h⟩
    · rw [Lib.joinTail] at h
      obtain ⟨y, hy, hb⟩ := List.mem_flatten.1 h
      obtain ⟨z, hz, rfl⟩ := List.mem_map.1 hy
      rcases List.mem_append.1 hb with hb | hb
      · exact .inl hb
      · exact .inr ⟨z, by simp [hz], hb⟩
theorem decDigits_10 : ∀ (u : Nat), ∀ b ∈ decDigits u, b ≠ 10 := by
  intro u
  induction u using Nat.strongRecOn with
  | ind u ih =>
    rw [decDigits]
    have hd : ∀ k : Nat, k < 10 → UInt8.ofNat (48 + k) ≠ 10 := by decide
    by_cases h : u < 10
    · rw [dif_pos h]
      intro b hb
      rw [List.mem_singleton] at hb; subst hb; exact hd u h
    · rw [dif_neg h]
      intro b hb
      rcases List.mem_append.1 hb with hb | hb
      · exact ih (u / 10) (by omega) b hb
      · rw [List.mem_singleton] at hb; subst hb; exact hd (u % 10) (by omega)
theorem okB_10 : okB 10 = false := by decide
theorem wordsO_10 {x : OpV} (h : rightO x = true) : ∀ y ∈ wordsO x, ∀ b ∈ y.data.toList, b ≠ 10 := by
  obtain ⟨h1, h2, h3⟩ := rightO_parts h
  intro y hy
  rw [wordsO] at hy
  rcases List.mem_cons.1 hy with e | hy
  · rw [e]
    obtain ⟨j, hj, q1, q2⟩ := there_nat h1
    have k1 : ∀ j : Fin 18, 1 ≤ j.val → (nameW (j.val : Int)).data.toList.all (fun b => b != 10) = true := by decide +kernel
    have a1 := k1 ⟨j, q2⟩ q1
    rw [hj]
    intro b hb
    have := List.all_eq_true.1 a1 b hb
    simpa using this
  · rcases List.mem_append.1 hy with hy | hy
    · obtain ⟨n, hn, rfl⟩ := List.mem_map.1 hy
      rw [numT, data_ofL, itoa]
      split
      · intro b hb
        rcases List.mem_cons.1 hb with h | h
        · subst h; decide
        · exact decDigits_10 _ b h
      · exact decDigits_10 _
    · rw [lastT] at hy
      by_cases hw : wordedW x.code = true
      · rw [if_pos hw] at hy
        simp only [List.mem_singleton] at hy
        rw [hy]
        by_cases he : x.s.toList.isEmpty = true
        · rw [if_pos he]; decide
        · rw [if_neg he]
          rcases wordOk_cases h2 with h | h
          · exact absurd ((empty_iff _).2 h) he
          · intro b hb e
            have := (right_free h.2).1 b hb
            rw [e, okB_10] at this
            cases this
      · rw [if_neg hw] at hy; simp at hy
theorem lineT_10 {x : OpV} (h : rightO x = true) : ∀ b ∈ (lineT x).data.toList, b ≠ 10 := by
  intro b hb
  rw [lineT, joined, data_ofL] at hb
  rcases join_mem hb with hb | ⟨y, hy, hb⟩
  · rw [List.mem_singleton] at hb; subst hb; decide
  · obtain ⟨z, hz, rfl⟩ := List.mem_map.1 hy
    exact wordsO_10 h z hz b hb
theorem item_spn {l : List (Option OpV)} (h : RightI l) : ∀ t ∈ l.map (fun i => (itemT i).data.toList), spn t = [t] := by
  intro t ht
  obtain ⟨i, hi, rfl⟩ := List.mem_map.1 ht
  refine spn_free _ ?_
  cases i with
  | none => decide
  | some x => exact lineT_10 (h x hi)
/-- Items as a text. -/
def textI (l : List (Option OpV)) : ByteArray := ofL (endsL (l.map (fun i => (itemT i).data.toList)))
theorem textI_lines {l : List (Option OpV)} (h : RightI l) : linesR (textI l) = l.map itemT := by
  have := rl_ends [] _ (item_spn h)
  rw [List.append_nil, rl_nil, List.append_nil] at this
  rw [linesR, textI, data_ofL, this, List.map_map]
  exact List.map_congr_left fun i _ => ofL_data _
theorem textI_script {l : List (Option OpV)} (h : RightI l) (hc : l.length ≤ 4096) (hk : (runI l zeroP).calls.length ≤ 64) : scriptW (textI l) = (runI l zeroP, 0, 0) := by
  rw [← script_lines, textI_lines h]
  exact runW_all (st_items l zeroP h (by simpa [countP, sumL, zeroP] using hc) hk)
theorem lineT_size {x : OpV} (h : rightO x = true) : (lineT x).size ≤ 200 := by
  have hj : ∀ (l : List (List UInt8)) (n : Nat), (∀ y ∈ l, y.length ≤ 30) → l.length ≤ n → (Lib.join l [32]).length ≤ 31 * n
    | [], n, _, _ => by rw [Lib.join_nil]; exact Nat.zero_le _
    | y :: r, n, h, hn => by
      have h1 := h y (by simp)
      have ht : ∀ r : List (List UInt8), (∀ y ∈ r, y.length ≤ 30) → (Lib.joinTail [32] r).length ≤ 31 * r.length := by
        intro r
        induction r with
        | nil => intro _; simp [Lib.joinTail]
        | cons z r ih =>
          intro hr
          have h2 := ih (fun y hy => hr y (by simp [hy]))
          have h3 := hr z (by simp)
          rw [Lib.joinTail] at h2 ⊢
          simp only [List.map_cons, List.flatten_cons, List.length_append, List.length_cons, List.length_nil] at h2 ⊢
          omega
      have h4 := ht r (fun y hy => h y (by simp [hy]))
      rw [Lib.join_cons, List.length_append]
      rw [List.length_cons] at hn
      omega
  have h1 := wordsO_size h
  have h2 := wordsO_length x
  have := hj ((wordsO x).map (·.data.toList)) 6 (fun y hy => by obtain ⟨z, hz, rfl⟩ := List.mem_map.1 hy; exact h1 z hz) (by rw [List.length_map]; exact h2)
  show (Lib.join ((wordsO x).map (·.data.toList)) [32]).length ≤ 200
  omega
theorem textI_size : ∀ {l : List (Option OpV)}, RightI l → (textI l).size ≤ 201 * l.length := by
  intro l
  have : ∀ l : List (Option OpV), RightI l → (endsL (l.map (fun i => (itemT i).data.toList))).length ≤ 201 * l.length := by
    intro l
    induction l with
    | nil => intro _; simp [endsL]
    | cons i l ih =>
      intro h
      have h2 := ih (fun x hx => h x (by simp [hx]))
      have h3 : (itemT i).data.toList.length ≤ 200 := by
        cases i with
        | none => decide
        | some x => exact lineT_size (h x (by simp))
      rw [endsL] at h2 ⊢
      simp only [List.map_cons, List.flatten_cons, List.length_append, List.length_cons, List.length_nil] at h2 ⊢
      omega
  exact this l
theorem items_length (p : ProgV) : (itemsP p).length = countP p + p.calls.length := by
  have := runI_count (itemsP p) zeroP
  rw [runI_items] at this
  simp [countP, sumL, zeroP] at this ⊢
  omega
/-- A program all of whose operations are right. -/
def allR (p : ProgV) : Bool := p.main.all rightO && p.calls.all (fun l => l.all rightO)
theorem allR_items {p : ProgV} (h : allR p = true) : RightI (itemsP p) := by
  rw [allR, Bool.and_eq_true, List.all_eq_true, List.all_eq_true] at h
  intro x hx
  rw [itemsP] at hx
  rcases List.mem_append.1 hx with hx | hx
  · obtain ⟨y, hy, e⟩ := List.mem_map.1 hx
    cases e
    exact h.1 _ hy
  · obtain ⟨t, ht, hx⟩ := List.mem_flatten.1 hx
    obtain ⟨c, hc, rfl⟩ := List.mem_map.1 ht
    rcases List.mem_cons.1 hx with e | hx
    · cases e
    · obtain ⟨y, hy, e⟩ := List.mem_map.1 hx
      cases e
      exact List.all_eq_true.1 (h.2 c hc) _ hy
/-- The text of a program, and an error's number. -/
def textP (p : ProgV) : ByteArray × Int :=
  if 64 < p.calls.length ∨ 4096 < countP p then (⟨#[]⟩, 9) else if allR p = true then (textI (itemsP p), 0) else (⟨#[]⟩, 7)
end Go.Proofs.YtmjedjhgomlfiaaGreatDoor

namespace Go.Proofs.YtmjedjhgomlfiaaGreatDoor
open Go.RowKit Go.Shelf

def renB : Go.Shelf.Ren := ⟨fun | 168 => 0 | 240 => 32 | 242 => 0 | 276 => 51 | 278 => 0 | 169 => 14 | 170 => 0 | 166 => 13 | 165 => 63 | 241 => 70 | 277 => 83 | n => n, fun | 31 => 59 | 9 => 9 | 3 => 3 | 4 => 4 | 0 => 0 | 20 => 20 | 72 => 44 | 76 => 48 | 70 => 41 | 37 => 42 | 75 => 47 | 127 => 74 | 164 => 88 | 5 => 5 | 80 => 51 | 21 => 21 | 46 => 104 | 51 => 117 | n => n, fun | n => n⟩
theorem laysB166 : Go.Proofs.Lays.n166 Tryz.prog renB := {
  mixed := by kernel_rfl
  f166 := Tryz.func13.trans (congrArg some (by kernel_rfl))
  f240 := Tryz.func32.trans (congrArg some (by kernel_rfl))
  f276 := Tryz.func51.trans (congrArg some (by kernel_rfl))
  t0 := Tryz.underlying0
  a0 := Tryz.isAgg0
  z0 := Tryz.sizeOf0
  v0 := Tryz.zeroValue0
  t3 := Tryz.underlying3
  a3 := Tryz.isAgg3
  z3 := Tryz.sizeOf3
  v3 := Tryz.zeroValue3
  t4 := Tryz.underlying4
  a4 := Tryz.isAgg4
  z4 := Tryz.sizeOf4
  v4 := Tryz.zeroValue4
  t9 := Tryz.underlying9
  a9 := Tryz.isAgg9
  z9 := Tryz.sizeOf9
  v9 := Tryz.zeroValue9
  t20 := Tryz.underlying20
  a20 := Tryz.isAgg20
  z20 := Tryz.sizeOf20
  v20 := Tryz.zeroValue20
  t37 := Tryz.underlying42
  a37 := Tryz.isAgg42
  z37 := Tryz.sizeOf42
  v37 := Tryz.zeroValue42
  t70 := Tryz.underlying41
  a70 := Tryz.isAgg41
  z70 := Tryz.sizeOf41
  v70 := Tryz.zeroValue41
  t72 := Tryz.underlying44
  a72 := Tryz.isAgg44
  z72 := Tryz.sizeOf44
  v72 := Tryz.zeroValue44
  t75 := Tryz.underlying47
  a75 := Tryz.isAgg47
  z75 := Tryz.sizeOf47
  v75 := Tryz.zeroValue47
  t164 := Tryz.underlying88
  a164 := Tryz.isAgg88
  z164 := Tryz.sizeOf88
  v164 := Tryz.zeroValue88 }
theorem laysB169 : Go.Proofs.Lays.n169 Tryz.prog renB := {
  mixed := by kernel_rfl
  f169 := Tryz.func14.trans (congrArg some (by kernel_rfl))
  t0 := Tryz.underlying0
  a0 := Tryz.isAgg0
  z0 := Tryz.sizeOf0
  v0 := Tryz.zeroValue0
  t3 := Tryz.underlying3
  a3 := Tryz.isAgg3
  z3 := Tryz.sizeOf3
  v3 := Tryz.zeroValue3
  t9 := Tryz.underlying9
  a9 := Tryz.isAgg9
  z9 := Tryz.sizeOf9
  v9 := Tryz.zeroValue9
  t37 := Tryz.underlying42
  a37 := Tryz.isAgg42
  z37 := Tryz.sizeOf42
  v37 := Tryz.zeroValue42
  t70 := Tryz.underlying41
  a70 := Tryz.isAgg41
  z70 := Tryz.sizeOf41
  v70 := Tryz.zeroValue41
  t72 := Tryz.underlying44
  a72 := Tryz.isAgg44
  z72 := Tryz.sizeOf44
  v72 := Tryz.zeroValue44
  t127 := Tryz.underlying74
  a127 := Tryz.isAgg74
  z127 := Tryz.sizeOf74
  v127 := Tryz.zeroValue74 }
theorem extraB : Builder.Extra Tryz.prog renB := {
  sizeBuilder := by kernel_rfl
  liesBuilder := by kernel_rfl
  t5 := Tryz.underlying5
  a5 := Tryz.isAgg5
  z5 := Tryz.sizeOf5
  v5 := Tryz.zeroValue5
  infoByte := by kernel_rfl
  cellsByte := by kernel_rfl
  sizeByte := by kernel_rfl
  neB5 := by decide }
theorem IsBuilderF.below' {T e : TypeId} {B b : Nat} {bs : List Value} {W W' : World} (h : Lib.IsBuilderF T e B b bs W) (hb : Below W.heap.size W W') : Lib.IsBuilderF T e B b bs W' := by
  have k : ∀ {p : Value}, Lib.BuilderAtF T e B b p bs W → Lib.BuilderAtF T e B b p bs W' := fun h => by
    have hlt := h.lt
    obtain ⟨hB, v, hv, hown, hne⟩ := h
    exact ⟨hB, v, (hb.block b hlt).trans hv, hown.kept (row := none) ⟨hb.os, hb.tape, hb.output, hb.size, fun k hk _ => hb.block k hk⟩ (Classical.em _), hne⟩
  exact h.elim (fun x => .inl (k x)) (fun x => .inr (k x))
theorem writeString_any (B b : Nat) (acc : List UInt8) (s : ByteArray) (w : World) (h : Lib.IsBuilderF 44 5 B b (Lib.byteCells acc) w) (hlen : acc.length + s.size ≤ 140737488355328) (hBw : B ≤ w.heap.size) :
    Calls Tryz.prog 13 #[.pointer (some ⟨b, 0, none⟩), .string s] w fun e w' => e = .returned (.tuple #[.int .i64 s.size, .nilIface]) ∧ Lib.IsBuilderF 44 5 B b (Lib.byteCells (acc ++ s.data.toList)) w' ∧ Below B w w' := by
  refine (Any.Builder_WriteString_k laysB166 extraB B b (Lib.byteCells acc) s w h (by rw [Lib.byteCells_length]; exact hlen) hBw).mono ?_
  rintro e w' ⟨he, h1, h2, -⟩
  refine ⟨he, ?_, h2⟩
  rw [Lib.byteCells_append]
  exact .inr h1
theorem bstring_any (B b : Nat) (l : List UInt8) (w : World) (h : Lib.IsBuilderF 44 5 B b (Lib.byteCells l) w) (hBw : B ≤ w.heap.size) :
    Calls Tryz.prog 14 #[.pointer (some ⟨b, 0, none⟩)] w fun e w' => e = .returned (.string ⟨l.toArray⟩) ∧ (Lib.IsBuilderF 44 5 B b (Lib.byteCells l) w' ∧ Below B w w' ∧ Lib.OthersKept 5 (some b) w w') :=
  Any.Builder_String_any_k laysB169 extraB B b l w h hBw
end Go.Proofs.YtmjedjhgomlfiaaGreatDoor

set_option linter.unusedSimpArgs false
namespace Go.Proofs.YtmjedjhgomlfiaaGreatDoor
open Go.RowKit Go.Proofs.YtmjedjhgomlfiaaGreatDoorW.PrintWords Go.Lib

theorem wrong1_any (x : OpV) (w : World) (hO : LayO w) : Calls Tryz.prog 46 #[x.val] w fun e w' => e = .returned (.bool (!rightO x)) ∧ Below w.heap.size w w' := by
  have hri := fun W h => oright_any x W h
  simp only [OpV.val] at hri ⊢
  have hbo := fun X => (Below.refl w.heap.size w).alloc (Nat.le_refl _) X
  go_enter Tryz.func46, Tryz.ntmps46
  go_wp2_with (go_at_call 25; refine (hri _ (hO.below (hbo _))).mono ?_; rintro e w1 ⟨rfl, hB1⟩)
  go_ret
  exact ⟨rfl, below_then (hbo _) (hbo _).size hB1⟩
/-- The place of the first operation that isn't right. -/
def WrongAt (l : List OpV) (k : Int) : Prop := (l.all rightO = true ∧ k = -1) ∨ (l.all rightO = false ∧ 0 ≤ k)
theorem all_take1 {α : Type} {f : α → Bool} {l : List α} {j : Nat} {x : α} (h : (l.take j).all f = true) (hx : l[j]? = some x) (hf : f x = true) : (l.take (j + 1)).all f = true := by
  rw [List.take_add_one, hx, List.all_append, h]
  simp [hf]
theorem all_not {α : Type} {f : α → Bool} {l : List α} {j : Nat} {x : α} (hx : l[j]? = some x) (hf : f x = false) : l.all f = false := by
  rw [Bool.eq_false_iff]
  intro h
  rw [List.all_eq_true] at h
  have := h x (List.mem_of_getElem? hx)
  rw [hf] at this
  cases this
set_option maxRecDepth 100000 in
set_option maxHeartbeats 1600000 in
theorem index_any (l : List OpV) (A : Option Addr) (c : Nat) (w : World) (hO : LayO w) (hA : kOp.C w A l.length l) :
    Calls Tryz.prog 45 #[.slice A l.length c, .func (.func 46) #[] #[]] w fun e w' => ∃ k, e = .returned (.int .i64 k) ∧ WrongAt l k ∧ Below w.heap.size w w' := by
  have hcm := Kd.C_max hA
  have hw := fun x W h => wrong1_any x W h
  simp only [OpV.val] at hw
  have e107 : ∀ args w, (callFunc 46 args).run Tryz.prog w = .ok (.enter 46 args) w := enters_of Tryz.func46 (by kernel_rfl) rfl
  go_enter Tryz.func45, Tryz.ntmps45
  go_wp2
  go_loopw [5, 8] (fun _ i wr => ∃ j : Nat, j ≤ l.length ∧ i = .int .i64 j ∧ Hid ((l.take j).all rightO = true) ∧ Below w.heap.size w wr) (fun _ i _ => l.length - (intOf i).toNat)
  case atStart => exact ⟨0, Nat.zero_le _, rfl, ⟨rfl⟩, Below.refl _ _⟩
  case round =>
    obtain ⟨j, hj, rfl, HT, hB⟩ := hrel
    by_cases hlt : j < l.length
    · obtain ⟨ad, x, rfl, HX, x0, x1, x2, x3, x4, x5⟩ := el_op (Kd.C_below hA hB) j hlt
      have hx := hw x wr (hO.below hB)
      cases hr : rightO x with
      | true =>
        rw [hr] at hx
        have HR := hide_ hr
        clear hr hw
        go_wp2_with (go_at_fn 46; refine hx.mono ?_; rintro e w1 ⟨rfl, hB1⟩)
        go_roundw
        case rel => exact ⟨j + 1, by omega, by go_num, ⟨all_take1 HT.out HX.out HR.out⟩, below_then hB hB.size hB1⟩
        case measure => simp [intOf]; omega
      | false =>
        rw [hr] at hx
        have HR := hide_ hr
        clear hr hw
        go_wp2_with (go_at_fn 46; refine hx.mono ?_; rintro e w1 ⟨rfl, hB1⟩)
        go_ret
        exact ⟨_, rfl, .inr ⟨all_not HX.out HR.out, by omega⟩, below_then hB hB.size hB1⟩
    · have HP := hide_ (show l.take j = l from List.take_of_length_le (by omega))
      go_wp2
      go_ret
      exact ⟨_, rfl, .inl ⟨by rw [← HP.out]; exact HT.out, rfl⟩, hB⟩
theorem wrong_any (l : List OpV) (A : Option Addr) (c : Nat) (w : World) (hO : LayO w) (hA : kOp.C w A l.length l) :
    Calls Tryz.prog 24 #[.slice A l.length c] w fun e w' => ∃ k, e = .returned (.int .i64 k) ∧ WrongAt l k ∧ Below w.heap.size w w' := by
  have hi := index_any l A c w hO hA
  go_enter Tryz.func24, Tryz.ntmps24
  go_wp2_with (go_at_call 45; refine hi.mono ?_; rintro e w1 ⟨k, rfl, hk, hB1⟩)
  go_ret
  exact ⟨k, rfl, hk, hB1⟩
theorem wrong_ok (l : List OpV) (A : Option Addr) (c : Nat) (h : l.all rightO = true) (w : World) (hO : LayO w) (hA : kOp.C w A l.length l) :
    Calls Tryz.prog 24 #[.slice A l.length c] w fun e w' => e = .returned (.int .i64 (-1)) ∧ Below w.heap.size w w' := by
  refine (wrong_any l A c w hO hA).mono ?_
  rintro e w' ⟨k, rfl, hk, hB⟩
  rcases hk with ⟨_, rfl⟩ | ⟨h0, _⟩
  · exact ⟨rfl, hB⟩
  · rw [h] at h0; cases h0
theorem wrong_no (l : List OpV) (A : Option Addr) (c : Nat) (h : l.all rightO = false) (w : World) (hO : LayO w) (hA : kOp.C w A l.length l) :
    Calls Tryz.prog 24 #[.slice A l.length c] w fun e w' => ∃ k : Int, e = .returned (.int .i64 k) ∧ 0 ≤ k ∧ Below w.heap.size w w' := by
  refine (wrong_any l A c w hO hA).mono ?_
  rintro e w' ⟨k, rfl, hk, hB⟩
  rcases hk with ⟨h0, _⟩ | ⟨_, hk⟩
  · rw [h] at h0; cases h0
  · exact ⟨k, rfl, hk, hB⟩
theorem textP_big {p : ProgV} (h : 64 < p.calls.length ∨ 4096 < countP p) : (textP p).2 = 9 := by rw [textP, if_pos h]
theorem textP_main {p : ProgV} (h : ¬ (64 < p.calls.length ∨ 4096 < countP p)) (hm : allR p = false) : (textP p).2 = 7 := by
  rw [textP, if_neg h, hm]; rfl
theorem textP_ok {p : ProgV} (h : ¬ (64 < p.calls.length ∨ 4096 < countP p)) (hm : allR p = true) : textP p = (textI (itemsP p), 0) := by
  rw [textP, if_neg h, hm]; rfl
set_option maxRecDepth 100000 in
set_option maxHeartbeats 1600000 in
theorem check_any (vm vc : Value) (p : ProgV) (w : World) (hO : LayO w) (h : ReadsP w vm vc p) (hb : countP p ≤ 4294967296) :
    Calls Tryz.prog 10 #[.agg #[vm, vc]] w fun e w' => (∃ a b : Value, e = .returned (.tuple #[a, b, .int .i64 (textP p).2])) ∧ Below w.heap.size w w' := by
  have hcn := fun W hW => count_any vm vc p W (h.below hW) (by omega)
  obtain ⟨A, c, B, d, rfl, rfl, hm, hc⟩ := h
  have hcm := Kd.C_max hc
  have hwm := fun W hO hA => wrong_any p.main A c W hO hA
  have hbo := fun X => (Below.refl w.heap.size w).alloc (Nat.le_refl _) X
  have hX0 := fun X => heap_alloc_new w X
  by_cases h64 : 64 < p.calls.length
  · have HE := hide_ (textP_big (p := p) (.inl h64))
    have q64 : (64 : Int) < (p.calls.length : Int) := by omega
    go_enter Tryz.func10, Tryz.ntmps10
    go_wp2
    go_ret3
    exact ⟨⟨_, _, by rw [HE.out]; rfl⟩, hbo _⟩
  · have q64 : ¬ (64 : Int) < (p.calls.length : Int) := by omega
    by_cases h4 : 4096 < countP p
    · have HE := hide_ (textP_big (p := p) (.inr h4))
      have q4 : (4096 : Int) < (countP p : Int) := by omega
      go_enter Tryz.func10, Tryz.ntmps10
      go_wp2_with (go_at_call 23; refine (hcn _ (hbo _)).mono ?_; rintro e w1 ⟨rfl, hB1⟩)
      go_ret3
      exact ⟨⟨_, _, by rw [HE.out]; rfl⟩, below_then (hbo _) (hbo _).size hB1⟩
    · have q4 : ¬ (4096 : Int) < (countP p : Int) := by omega
      have hnb : ¬ (64 < p.calls.length ∨ 4096 < countP p) := by omega
      have HN := hide_ hnb
      clear hnb hb
      go_enter Tryz.func10, Tryz.ntmps10
      go_wp2_with (go_at_call 23; refine (hcn _ (hbo _)).mono ?_; rintro e w1 ⟨rfl, hB1⟩; have hC1 := below_then (hbo _) (hbo _).size hB1; have hX1 := (hB1.block _ (blk_lt (hX0 _))).trans (hX0 _); have z0 := blk_cell hX1 0; have z1 := blk_cell hX1 1)
      have hm1 := Kd.C_below hm hC1
      clear hcn hwm
      cases hma : p.main.all rightO with
      | false =>
        have hw := wrong_no p.main A c hma w1 (hO.below hC1) hm1
        have HE := hide_ (textP_main HN.out (by rw [allR, hma]; rfl))
        clear hma
        go_wp2_with (go_at_call 24; refine hw.mono ?_; rintro e w2 ⟨k, rfl, hk, hB2⟩)
        go_ret3
        exact ⟨⟨_, _, by rw [HE.out]; rfl⟩, below_then hC1 hC1.size hB2⟩
      | true =>
        have hw := wrong_ok p.main A c hma w1 (hO.below hC1) hm1
        have HM := hide_ hma
        clear hma
        go_wp2_with (go_at_call 24; refine hw.mono ?_; rintro e w2 ⟨rfl, hB2⟩; have hC2 := below_then hC1 hC1.size hB2; have hX2 := (hB2.block _ (blk_lt hX1)).trans hX1; have z2 := blk_cell hX2 0; have z3 := blk_cell hX2 1)
        go_loopw [6, 7, 8, 27] (fun _ _ _ i wr => ∃ j : Nat, j ≤ p.calls.length ∧ i = .int .i64 j ∧ Hid ((p.calls.take j).all (fun l => l.all rightO) = true) ∧ Below w.heap.size w wr) (fun _ _ _ i _ => p.calls.length - (intOf i).toNat)
        case atStart => exact ⟨0, Nat.zero_le _, rfl, ⟨rfl⟩, hC2⟩
        case round =>
          obtain ⟨j, hj, rfl, HT, hB⟩ := hrel
          by_cases hlt : j < p.calls.length
          · obtain ⟨bd, xs, A', c', rfl, HX, x0, _, hxs⟩ := el_call (Kd.C_below hc hB) j hlt
            cases hx : xs.all rightO with
            | false =>
              have hw := wrong_no xs A' c' hx wr (hO.below hB) hxs
              have HE := hide_ (textP_main HN.out (by rw [allR, all_not HX.out hx, Bool.and_false]))
              clear hx
              go_wp2_with (go_at_call 24; refine hw.mono ?_; rintro e w3 ⟨k, rfl, hk, hB3⟩)
              go_ret3
              exact ⟨⟨_, _, by rw [HE.out]; rfl⟩, below_then hB hB.size hB3⟩
            | true =>
              have hw := wrong_ok xs A' c' hx wr (hO.below hB) hxs
              have HK := hide_ hx
              clear hx
              go_wp2_with (go_at_call 24; refine hw.mono ?_; rintro e w3 ⟨rfl, hB3⟩)
              go_roundw
              case rel => exact ⟨j + 1, by omega, by go_num, ⟨all_take1 HT.out HX.out HK.out⟩, below_then hB hB.size hB3⟩
              case measure => simp [intOf]; omega
          · have HP := hide_ (show p.calls.take j = p.calls from List.take_of_length_le (by omega))
            have HE : Hid ((textP p).2 = 0) := ⟨by
              have h1 := HT.out
              rw [HP.out] at h1
              rw [textP_ok HN.out (by rw [allR, HM.out, h1]; rfl)]⟩
            go_wp2
            go_ret3
            exact ⟨⟨_, _, by rw [HE.out]; rfl⟩, hB⟩
end Go.Proofs.YtmjedjhgomlfiaaGreatDoor

set_option linter.unusedSimpArgs false
namespace Go.Proofs.YtmjedjhgomlfiaaGreatDoor
open Go.RowKit Go.Proofs.YtmjedjhgomlfiaaGreatDoorW.PrintWords Go.Lib

def bytesI (l : List (Option OpV)) : List UInt8 := endsL (l.map (fun i => (itemT i).data.toList))
theorem bytesI_append (a b : List (Option OpV)) : bytesI (a ++ b) = bytesI a ++ bytesI b := by simp [bytesI, endsL]
theorem bytesI_len {l : List (Option OpV)} (h : RightI l) : (bytesI l).length ≤ 201 * l.length := textI_size h
theorem right_take {l : List OpV} (h : l.all rightO = true) (j : Nat) : RightI ((l.take j).map some) := by
  intro x hx
  obtain ⟨y, hy, e⟩ := List.mem_map.1 hx
  cases e
  exact List.all_eq_true.1 h _ (List.mem_of_mem_take hy)
theorem bytesI_op {l : List OpV} {j : Nat} {x : OpV} (h : l[j]? = some x) : bytesI ((l.take (j + 1)).map some) = bytesI ((l.take j).map some) ++ (joined (wordsO x) ++ ⟨#[10]⟩).data.toList := by
  rw [List.take_add_one, h, List.map_append, bytesI_append]
  simp [bytesI, endsL, itemT, lineT]
theorem items_call {m : List OpV} {l : List (List OpV)} {j : Nat} {x : List OpV} (h : l[j]? = some x) : bytesI (itemsP ⟨m, l.take (j + 1)⟩) = (bytesI (itemsP ⟨m, l.take j⟩) ++ (⟨#[99, 97, 108, 108, 10]⟩ : ByteArray).data.toList) ++ bytesI (x.map some) := by
  have e : itemsP ⟨m, l.take (j + 1)⟩ = itemsP ⟨m, l.take j⟩ ++ (none :: x.map some) := by
    rw [itemsP, itemsP, List.take_add_one, h]
    simp
  rw [e, bytesI_append, show (none :: x.map some : List (Option OpV)) = [none] ++ x.map some from rfl, bytesI_append, List.append_assoc]
  rfl

set_option maxRecDepth 100000 in
set_option maxHeartbeats 1600000 in
theorem write_any (l : List OpV) (A : Option Addr) (c B : Nat) (acc : List UInt8) (w0 w : World) (hO : LayO w0) (hA : kOp.C w0 A l.length l) (hr : l.all rightO = true) (h0 : Below w0.heap.size w0 w) (hB0 : w0.heap.size ≤ B)
    (hBd : IsBuilderF 44 5 B B (byteCells acc) w) (hBw : B ≤ w.heap.size) (hlen : acc.length + 201 * l.length ≤ 4294967296) :
    Calls Tryz.prog 11 #[.slice A l.length c, .pointer (some ⟨B, 0, none⟩)] w fun e w' => e = .returned (.tuple #[]) ∧ IsBuilderF 44 5 B B (byteCells (acc ++ bytesI (l.map some))) w' ∧ Below B w w' := by
  have hcm := Kd.C_max hA
  have hot := fun x W hW => otext_any x W (hO.below hW)
  simp only [OpV.val] at hot
  go_enter Tryz.func11, Tryz.ntmps11
  go_wp2
  go_loopw [4, 5, 6, 9] (fun _ _ _ i wr => ∃ j : Nat, j ≤ l.length ∧ i = .int .i64 j ∧ IsBuilderF 44 5 B B (byteCells (acc ++ bytesI ((l.take j).map some))) wr ∧ Below B w wr) (fun _ _ _ i _ => l.length - (intOf i).toNat)
  case atStart => exact ⟨0, Nat.zero_le _, rfl, by simpa [bytesI, endsL] using hBd, Below.refl _ _⟩
  case round =>
    obtain ⟨j, hj, rfl, hI, hB⟩ := hrel
    have hW0 := h0.trans (hB.mono hB0)
    by_cases hlt : j < l.length
    · obtain ⟨ad, x, rfl, HX, x0, x1, x2, x3, x4, x5⟩ := el_op (Kd.C_below hA hW0) j hlt
      have hx : rightO x = true := List.all_eq_true.1 hr x (List.mem_of_getElem? HX.out)
      have hxt := fun W hW => hot x W hW
      rw [if_pos hx, if_pos hx] at hxt
      have hls := lineT_size hx
      have HN := hide_ (bytesI_op HX.out)
      have hbl := bytesI_len (right_take hr j)
      rw [List.length_map, List.length_take, Nat.min_eq_left hj] at hbl
      have hsz := hB.size
      rw [lineT] at hls
      generalize joined (wordsO x) = jx at *
      clear hot hr hx
      go_wp2_with (first
        | (refine gate_ (.store 38 (.tmp 4) (.tmp 12)) rfl ?_; (refine wpList_store_new rfl 38 (.tmp 4) (.tmp 12) rfl _ #[.int .i64 x.code, .int .i64 x.a, .int .i64 x.b, .int .i64 x.c, .int .i64 x.d, .string x.s] rfl rfl info38 rfl (by simp [Value.oneCell']) ?_; intro w2 hX2 hB2 hs2; have hW2 := below_then hW0 hW0.size hB2; have hI2 := IsBuilderF.below' hI hB2))
        | (refine gate_ (.load 38 (.tmp 4)) rfl ?_; refine wpList_load_row rfl 38 (.tmp 4) rfl _ rfl _ _ _ _ hX2 Tryz.underlying38 rfl info38 ?_)
        | (go_at_call 12; refine (hxt _ hW2).mono ?_; rintro e w3 ⟨rfl, hB3⟩; have hI3 := IsBuilderF.below' hI2 hB3; have hs3 := hB3.size; have hC3 := below_then hB (Nat.le_trans hBw hB.size) (below_then hB2 hB2.size hB3))
        | (go_at_call 13; refine (writeString_any B B _ _ w3 hI3 (by rw [List.length_append, ByteArray.size_append]; show _ + _ + (jx.size + 1) ≤ _; omega) (by omega)).mono ?_; rintro e w4 ⟨rfl, hI4, hB4⟩))
      go_roundw
      case rel =>
        refine ⟨j + 1, by omega, by go_num, ?_, hC3.trans hB4⟩
        rw [HN.out, ← List.append_assoc]
        exact hI4
      case measure => simp [intOf]; omega
    · have HP := hide_ (show l.take j = l from List.take_of_length_le (by omega))
      go_wp2
      go_end0
      exact ⟨rfl, by rw [← HP.out]; exact hI, hB⟩
theorem textP_cases (p : ProgV) : (textP p).2 ≠ 0 ∧ (textP p).1 = ⟨#[]⟩ ∨ allR p = true ∧ p.calls.length ≤ 64 ∧ countP p ≤ 4096 ∧ textP p = (textI (itemsP p), 0) := by
  by_cases h : 64 < p.calls.length ∨ 4096 < countP p
  · left; rw [textP, if_pos h]; exact ⟨by decide, rfl⟩
  · by_cases hr : allR p = true
    · exact .inr ⟨hr, by omega, by omega, textP_ok h hr⟩
    · left; rw [textP, if_neg h, if_neg hr]; exact ⟨by decide, rfl⟩
theorem sub_items {p : ProgV} (h : allR p = true) (j : Nat) : RightI (itemsP ⟨p.main, p.calls.take j⟩) ∧ (itemsP ⟨p.main, p.calls.take j⟩).length ≤ countP p + p.calls.length := by
  constructor
  · refine allR_items ?_
    rw [allR, Bool.and_eq_true] at h ⊢
    refine ⟨h.1, ?_⟩
    have h2 := h.2
    rw [List.all_eq_true] at h2 ⊢
    exact fun x hx => h2 x (List.mem_of_mem_take hx)
  · rw [items_length]
    have := sumL_le (l := p.calls) j
    simp only [countP, List.length_take]
    omega
set_option maxRecDepth 100000 in
set_option maxHeartbeats 1600000 in
theorem stext_any (vm vc : Value) (p : ProgV) (w : World) (hO : LayO w) (h : ReadsP w vm vc p) (hb : countP p ≤ 4294967296) :
    Calls Tryz.prog 6 #[.agg #[vm, vc]] w fun e w' => e = .returned (.tuple #[.string (textP p).1, .int .i64 (textP p).2]) ∧ Below w.heap.size w w' := by
  have hck := fun W hW => check_any vm vc p W (hO.below hW) (h.below hW) hb
  have hbo := fun X => (Below.refl w.heap.size w).alloc (Nat.le_refl _) X
  have hX0 := fun X => heap_alloc_new w X
  obtain ⟨A, c, B, d, rfl, rfl, hm, hc⟩ := h
  have hcm := Kd.C_max hc
  rcases textP_cases p with ⟨h1, h2⟩ | ⟨hr, hl, hn, he⟩
  · rw [h2]
    generalize (textP p).2 = f at *
    go_enter Tryz.func6, Tryz.ntmps6
    go_wp2_with (go_at_call 10; refine (hck _ (hbo _)).mono ?_; rintro e w1 ⟨⟨a, b, rfl⟩, hB1⟩)
    go_ret2
    exact ⟨rfl, below_then (hbo _) (hbo _).size hB1⟩
  · rw [he] at hck ⊢
    have hall : p.main.all rightO = true ∧ p.calls.all (fun l => l.all rightO) = true := by rwa [allR, Bool.and_eq_true] at hr
    obtain ⟨hm1, hc1⟩ := hall
    have hfin : (textI (itemsP p)) = ⟨(bytesI (itemsP ⟨p.main, p.calls.take p.calls.length⟩)).toArray⟩ := by rw [List.take_length]; rfl
    have HF := hide_ hfin
    have hsub := fun j => sub_items hr j
    have e75 : ∀ args w, (callFunc 11 args).run Tryz.prog w = .ok (.enter 11 args) w := enters_of Tryz.func11 (by kernel_rfl) rfl
    have hcs : sumL p.calls ≤ countP p := by rw [countP]; omega
    have hml : p.main.length ≤ countP p := by rw [countP]; omega
    clear hfin he hb
    go_enter Tryz.func6, Tryz.ntmps6
    go_wp2_with (first
      | (go_at_call 10; refine (hck _ (hbo _)).mono ?_; rintro e w1 ⟨⟨a, b, rfl⟩, hB1⟩; have hC1 := below_then (hbo _) (hbo _).size hB1; have hX1 := (hB1.block _ (blk_lt (hX0 _))).trans (hX0 _); have hl1 := blk_lt hX1; have hC2 := hC1.alloc hC1.size (.cells #[.pointer none, .slice none 0 0] 44);
          have hI2 : IsBuilderF 44 5 w1.heap.size w1.heap.size (byteCells []) (w1.alloc (.cells #[.pointer none, .slice none 0 0] 44)) := Or.inl ⟨Nat.le_refl _, .slice none 0 0, World.alloc_heap_new w1 _, World.ownsRowF_of (World.ownsRow_nil _ _ _ _), by simp [Value.ownBlock]⟩;
          have hX2 := (heap_alloc_old w1 (.cells #[.pointer none, .slice none 0 0] 44) hl1).trans hX1; have z2 := blk_cell hX2 0)
      | (go_at_fn 11; refine (write_any p.main A c w1.heap.size [] w _ hO hm hm1 hC2 hC1.size hI2 (by rw [World.size_alloc]; omega) (by rw [List.length_nil]; omega)).mono ?_; rintro e w3 ⟨rfl, hI3, hB3⟩; have hX3 := (hB3.block _ hl1).trans hX2; have z3 : w3.cell? ⟨w.heap.size, 1, none⟩ = some (.slice B p.calls.length d) := blk_cell hX3 1))
    have hC3 := hC2.trans (hB3.mono hC1.size)
    have hb3 : w1.heap.size ≤ w3.heap.size := by
      have := hB3.size
      rw [World.size_alloc] at this
      omega
    have hb0 := hC1.size
    rw [List.nil_append] at hI3
    clear hB3 hX3 hX2 hI2 hC2 hX1 hB1 hC1 z3 hck
    generalize w1.heap.size = b at *
    go_loopw [10, 28] (fun _ i wr => ∃ j : Nat, j ≤ p.calls.length ∧ i = .int .i64 j ∧ IsBuilderF 44 5 b b (byteCells (bytesI (itemsP ⟨p.main, p.calls.take j⟩))) wr ∧ Below b w3 wr) (fun _ i _ => p.calls.length - (intOf i).toNat)
    case atStart => exact ⟨0, Nat.zero_le _, rfl, by simpa [itemsP] using hI3, Below.refl _ _⟩
    case round =>
      obtain ⟨j, hj, rfl, hI, hB⟩ := hrel
      have hW := hC3.trans (hB.mono hb0)
      have hs := hB.size
      obtain ⟨hsr, hsl⟩ := hsub j
      have hbl := bytesI_len hsr
      by_cases hlt : j < p.calls.length
      · obtain ⟨bd, xs, A', c', rfl, HX, x0, _, hxs⟩ := el_call hc j hlt
        have x1 : wr.cell? (bd.add j) = some (.slice A' xs.length c') := (hW.cell (World.block_lt_of_cell? w _ x0)).trans x0
        have hxr : xs.all rightO = true := List.all_eq_true.1 hc1 xs (List.mem_of_getElem? HX.out)
        have HN := hide_ (items_call (m := p.main) HX.out)
        have hxl : xs.length ≤ sumL p.calls := by
          have h1 := sumL_next HX.out
          have h2 := sumL_le (l := p.calls) (j + 1)
          omega
        clear hsub hsr
        generalize bytesI (itemsP ⟨p.main, p.calls.take j⟩) = acc at *
        go_wp2_with (first
          | (go_at_call 13; refine (writeString_any b b _ _ wr hI (by show acc.length + 5 ≤ _; omega) (by omega)).mono ?_; rintro e w4 ⟨rfl, hI4, hB4⟩; have hs4 := hB4.size)
          | (go_at_fn 11; refine (write_any xs A' c' b _ w _ hO hxs hxr (hW.trans (hB4.mono hb0)) hb0 hI4 (by omega) (by rw [List.length_append]; show acc.length + 5 + _ ≤ _; omega)).mono ?_; rintro e w5 ⟨rfl, hI5, hB5⟩))
        go_roundw
        case rel => exact ⟨j + 1, by omega, by go_num, by rw [HN.out]; exact hI5, hB.trans (hB4.trans hB5)⟩
        case measure => simp [intOf]; omega
      · have HP := hide_ (show j = p.calls.length by omega)
        go_wp2_with (go_at_call 14; refine (bstring_any b b _ wr hI (by omega)).mono ?_; rintro e w4 ⟨rfl, -, hB4, -⟩)
        go_ret2
        exact ⟨by rw [HF.out, HP.out]; rfl, hW.trans (hB4.mono hb0)⟩
end Go.Proofs.YtmjedjhgomlfiaaGreatDoor
