/- Scripts: the document's side, the example, and the laws ScriptParses and ScriptBlanks. -/
import Derived.Test.YtmjedjhgomlfiaaGreatDoorPScriptTextsx0
import Derived.Test.YtmjedjhgomlfiaaGreatDoorScAll
import Derived.Test.YtmjedjhgomlfiaaGreatDoorROpParse
set_option linter.unusedSimpArgs false
namespace Go.Proofs.YtmjedjhgomlfiaaGreatDoor
open Go.RowKit Go.Proofs.YtmjedjhgomlfiaaGreatDoorW.PrintWords Go.Lib

/-- The lines of the document: none behind the last end. -/
def rl (l : List UInt8) : List (List UInt8) := if l = [] then [] else spn (Lib.trimSuffix l [10])
theorem trim_snoc (a : List UInt8) : Lib.trimSuffix (a ++ [10]) [10] = a := by
  unfold Lib.trimSuffix Lib.hasSuffix
  rw [if_pos (by rw [List.isSuffixOf_iff_suffix]; exact List.suffix_append _ _)]
  simp
theorem trim_keep {l : List UInt8} (h : ¬ [10] <:+ l) : Lib.trimSuffix l [10] = l := by
  unfold Lib.trimSuffix Lib.hasSuffix
  rw [if_neg (by rw [List.isSuffixOf_iff_suffix]; exact h)]
theorem suffix_tail {a b : List UInt8} (hb : b ≠ []) (c : UInt8) : [c] <:+ (a ++ b) ↔ [c] <:+ b := by
  constructor
  · rintro ⟨t, ht⟩
    obtain ⟨i, x, rfl⟩ : ∃ i x, b = i ++ [x] := ⟨b.dropLast, b.getLast hb, (List.dropLast_concat_getLast hb).symm⟩
    rw [← List.append_assoc] at ht
    obtain ⟨_, h2⟩ := List.append_inj' ht rfl
    rw [h2]
    exact List.suffix_append _ _
  · exact fun h => h.trans (List.suffix_append _ _)
theorem trim_cut (a b : List UInt8) (hb : b ≠ []) : Lib.trimSuffix (a ++ 10 :: b) [10] = a ++ 10 :: Lib.trimSuffix b [10] := by
  by_cases h : [10] <:+ b
  · obtain ⟨t, rfl⟩ := h
    rw [show a ++ 10 :: (t ++ [10]) = (a ++ 10 :: t) ++ [10] by simp, trim_snoc, trim_snoc]
  · rw [trim_keep h, trim_keep]
    intro h2
    rw [show a ++ 10 :: b = (a ++ [10]) ++ b by simp, suffix_tail hb] at h2
    exact h h2
theorem rl_nil : rl [] = [] := rfl
/-- A text's lines, on the document's side. -/
def linesR (s : ByteArray) : List ByteArray := (rl s.data.toList).map ofL
/-- What the program says of its own lines it says of the document's. -/
theorem script_lines (s : ByteArray) : runW (linesR s) 0 zeroP = scriptW s := by
  unfold scriptW linesR rl
  split
  · rename_i h
    rw [h]
    rfl
  · rfl
end Go.Proofs.YtmjedjhgomlfiaaGreatDoor

set_option linter.unusedSimpArgs false
namespace Go.Proofs.YtmjedjhgomlfiaaGreatDoor
open Go.RowKit Go.Proofs.YtmjedjhgomlfiaaGreatDoorW.PrintWords Go.Proofs.YtmjedjhgomlfiaaGreatDoorW.PrintLast Go.Lib

/-- Rows of texts are kept. -/
def Kept9 (w w' : World) : Prop := ∀ (g : Nat) (cs : Array Value), w.heap[g]? = some (.cells cs 9 (0, 0)) → w'.heap[g]? = some (.cells cs 9 (0, 0))
theorem Kept9.trans {a b c : World} (h : Kept9 a b) (k : Kept9 b c) : Kept9 a c := fun g cs hg => k g cs (h g cs hg)
theorem Kept9.of_below {w w' : World} (h : Below w.heap.size w w') : Kept9 w w' := fun _ _ hg => blk_below hg h
end Go.Proofs.YtmjedjhgomlfiaaGreatDoor

set_option linter.unusedSimpArgs false
namespace Go.Proofs.YtmjedjhgomlfiaaGreatDoor
open Go.RowKit Go.Proofs.YtmjedjhgomlfiaaGreatDoorW.PrintWords Go.Lib

def OpV.tupL (x : OpV) : List Int × List UInt8 := ([x.code, x.a, x.b, x.c, x.d], x.s.data.toList)
theorem tupL_inj {x y : OpV} (h : x.tupL = y.tupL) : x = y := by
  obtain ⟨x1, x2, x3, x4, x5, x6⟩ := x
  obtain ⟨y1, y2, y3, y4, y5, y6⟩ := y
  simp [OpV.tupL] at h
  obtain ⟨⟨h1, h2, h3, h4, h5⟩, h6⟩ := h
  subst h1 h2 h3 h4 h5
  rw [show x6 = y6 from ByteArray.ext h6]
theorem mapL_inj : ∀ {l m : List OpV}, l.map OpV.tupL = m.map OpV.tupL → l = m
  | [], [], _ => rfl
  | [], _ :: _, h => by simp at h
  | _ :: _, [], h => by simp at h
  | x :: l, y :: m, h => by
    simp only [List.map_cons, List.cons.injEq] at h
    rw [tupL_inj h.1, mapL_inj h.2]
theorem mapLL_inj : ∀ {l m : List (List OpV)}, l.map (List.map OpV.tupL) = m.map (List.map OpV.tupL) → l = m
  | [], [], _ => rfl
  | [], _ :: _, h => by simp at h
  | _ :: _, [], h => by simp at h
  | x :: l, y :: m, h => by
    simp only [List.map_cons, List.cons.injEq] at h
    rw [mapL_inj h.1, mapLL_inj h.2]
def exS : ByteArray := ⟨#[99, 108, 101, 97, 114, 32, 49, 10, 99, 97, 108, 108, 10, 115, 116, 111, 112, 32, 45, 51, 10]⟩
def exP : ProgV := ⟨[⟨17, 1, 0, 0, 0, ⟨#[]⟩⟩], [[⟨15, -3, 0, 0, 0, ⟨#[]⟩⟩]]⟩
theorem script_ex : scriptW exS = (exP, 0, 0) := by
  have h : (scriptW exS).1.main.map OpV.tupL = exP.main.map OpV.tupL ∧ (scriptW exS).1.calls.map (List.map OpV.tupL) = exP.calls.map (List.map OpV.tupL) ∧ (scriptW exS).2.1 = 0 ∧ (scriptW exS).2.2 = 0 := by decide +kernel
  obtain ⟨h1, h2, h3, h4⟩ := h
  have e1 := mapL_inj h1
  have e2 := mapLL_inj h2
  rcases hs : scriptW exS with ⟨⟨m, c⟩, k, f⟩
  rw [hs] at e1 e2 h3 h4
  simp only at e1 e2 h3 h4
  rw [e1, e2, h3, h4]
theorem C_one {α : Type} {d : Kd α} {w : World} {b : Nat} {t : TypeId} {x : α} {cs : List Value} (hK : d.K w x cs) (hb : w.heap[b]? = some (.cells cs.toArray t (0, 0))) : d.C w (some ⟨b, 0, none⟩) 1 [x] := by
  refine ⟨rfl, by decide, fun _ => ⟨_, rfl, fun j p hj => ?_⟩⟩
  obtain rfl : j = 0 := by
    have := (List.getElem?_eq_some_iff.1 hj).1
    simp at this; exact this
  simp at hj
  subst hj
  refine ⟨cs, d.K_len hK, hK, fun i u hu => ?_⟩
  rw [Nat.zero_mul, Nat.zero_add, Go.Proofs.YtmjedjhgomlfiaaGreatDoorW.PrintWords.add_plain, blk_cell hb]
  simpa using hu
theorem lit_reads {W : World} {b1 b2 b3 : Nat} (h1 : W.heap[b1]? = some (.cells #[.int .i64 17, .int .i64 1, .int .i64 0, .int .i64 0, .int .i64 0, .string ⟨#[]⟩] 38 (0, 0)))
    (h2 : W.heap[b2]? = some (.cells #[.int .i64 15, .int .i64 (-3), .int .i64 0, .int .i64 0, .int .i64 0, .string ⟨#[]⟩] 38 (0, 0))) (h3 : W.heap[b3]? = some (.cells #[.slice (some ⟨b2, 0, none⟩) 1 1] 22 (0, 0))) :
    ReadsP W (.slice (some ⟨b1, 0, none⟩) 1 1) (.slice (some ⟨b3, 0, none⟩) 1 1) exP := by
  have k1 : kOp.C W (some ⟨b1, 0, none⟩) 1 [⟨17, 1, 0, 0, 0, ⟨#[]⟩⟩] := C_one (kOp.K_of_M (kOp_mkM W 0 (fun _ => True) ⟨17, 1, 0, 0, 0, ⟨#[]⟩⟩)) h1
  have k2 : kOp.C W (some ⟨b2, 0, none⟩) 1 [⟨15, -3, 0, 0, 0, ⟨#[]⟩⟩] := C_one (kOp.K_of_M (kOp_mkM W 0 (fun _ => True) ⟨15, -3, 0, 0, 0, ⟨#[]⟩⟩)) h2
  have k3 : kCalls.C W (some ⟨b3, 0, none⟩) 1 [[⟨15, -3, 0, 0, 0, ⟨#[]⟩⟩]] := C_one (d := kCalls) (cs := [.slice (some ⟨b2, 0, none⟩) 1 1]) ⟨_, 1, rfl, Nat.le_refl _, k2⟩ h3
  exact ⟨_, _, _, _, rfl, rfl, k1, k3⟩

open Classical in
theorem awake_same (w1 : World) (A1 A2 : Option Addr) (c1 c2 : Nat) (hR : ReadsP w1 (.slice A1 exP.main.length c1) (.slice A2 exP.calls.length c2) exP) :
    Calls Tryz.prog 9 #[.agg #[.slice A1 exP.main.length c1, .slice A2 exP.calls.length c2], .agg #[.slice (some ⟨w1.heap.size + 1, 0, none⟩) 1 1, .slice (some ⟨w1.heap.size + 1 + 1 + 1, 0, none⟩) 1 1]] ((((w1.alloc (.cells #[.slice A1 exP.main.length c1, .slice A2 exP.calls.length c2] 25)).alloc (.cells #[.int .i64 17, .int .i64 1, .int .i64 0, .int .i64 0, .int .i64 0, .string ⟨#[]⟩] 38)).alloc (.cells #[.int .i64 15, .int .i64 (-3), .int .i64 0, .int .i64 0, .int .i64 0, .string ⟨#[]⟩] 38)).alloc (.cells #[.slice (some ⟨w1.heap.size + 1 + 1, 0, none⟩) 1 1] 22)) fun e w' => e = .returned (.bool true) ∧ Below w1.heap.size w1 w' := by
  obtain ⟨W, hW⟩ : ∃ W, ((((w1.alloc (.cells #[.slice A1 exP.main.length c1, .slice A2 exP.calls.length c2] 25)).alloc (.cells #[.int .i64 17, .int .i64 1, .int .i64 0, .int .i64 0, .int .i64 0, .string ⟨#[]⟩] 38)).alloc (.cells #[.int .i64 15, .int .i64 (-3), .int .i64 0, .int .i64 0, .int .i64 0, .string ⟨#[]⟩] 38)).alloc (.cells #[.slice (some ⟨w1.heap.size + 1 + 1, 0, none⟩) 1 1] 22)) = W := ⟨_, rfl⟩
  have hB : Below w1.heap.size w1 W := by rw [← hW]; exact below_alloc (below_alloc (below_alloc (below_alloc (Below.refl _ _) _) _) _) _
  have h1 : W.heap[w1.heap.size + 1]? = some (.cells #[.int .i64 17, .int .i64 1, .int .i64 0, .int .i64 0, .int .i64 0, .string ⟨#[]⟩] 38 (0, 0)) := by rw [← hW]; exact alloc_at (alloc_at (alloc_new' (by simp)) _) _
  have h2 : W.heap[w1.heap.size + 1 + 1]? = some (.cells #[.int .i64 15, .int .i64 (-3), .int .i64 0, .int .i64 0, .int .i64 0, .string ⟨#[]⟩] 38 (0, 0)) := by rw [← hW]; exact alloc_at (alloc_new' (by simp)) _
  have h3 : W.heap[w1.heap.size + 1 + 1 + 1]? = some (.cells #[.slice (some ⟨w1.heap.size + 1 + 1, 0, none⟩) 1 1] 22 (0, 0)) := by rw [← hW]; exact alloc_new' (by simp)
  rw [hW]
  refine (sameP_any _ _ _ _ exP exP W (hR.below hB) (lit_reads h1 h2 h3) (by decide)).mono ?_
  rintro e w2 ⟨rfl, hB2⟩
  exact ⟨by rw [decide_eq_true ⟨rfl, rfl⟩], below_then hB hB.size hB2⟩

set_option maxRecDepth 100000 in
set_option maxHeartbeats 1600000 in
theorem scAwake_any (w : World) (hO : LayO w) (hL : w.ShapedOpen Tryz.prog) : Calls Tryz.prog 4 #[] w fun e w' => e = .returned (.bool true) ∧ Below w.heap.size w w' := by
  have hp := sparse_any exS w hO hL (by decide)
  rw [script_ex] at hp
  unfold exS at hp
  go_enter Tryz.func4, Tryz.ntmps4
  go_wp2_with (first
    | (go_at_call 8; refine hp.mono ?_; rintro e w1 ⟨vm, vc, rfl, hR, hB⟩; have hR' := hR; obtain ⟨A1, c1, A2, c2, rfl, rfl, -, -⟩ := hR')
    | (go_at_call 9; refine (awake_same w1 A1 A2 c1 c2 hR).mono ?_; rintro e w2 ⟨rfl, hB2⟩))
  go_ret
  exact ⟨rfl, below_then hB hB.size hB2⟩
end Go.Proofs.YtmjedjhgomlfiaaGreatDoor

set_option linter.unusedSimpArgs false
namespace Go.Proofs.YtmjedjhgomlfiaaGreatDoor
open Go.RowKit Go.Proofs.YtmjedjhgomlfiaaGreatDoorW.PrintWords Go.Lib

end Go.Proofs.YtmjedjhgomlfiaaGreatDoor

set_option linter.unusedSimpArgs false
namespace Go.Proofs.YtmjedjhgomlfiaaGreatDoor
open Go.RowKit Go.Proofs.YtmjedjhgomlfiaaGreatDoorW.PrintWords Go.Lib

theorem spn_append (a b : List UInt8) : spn (a ++ 10 :: b) = spn a ++ spn b := by
  induction a with
  | nil => rw [List.nil_append, spn_end]; rfl
  | cons c a ih =>
    by_cases hc : c = 10
    · subst hc
      rw [List.cons_append, spn_end, spn_end, ih, List.cons_append]
    · obtain ⟨h, t, he⟩ := spn_ne a
      rw [List.cons_append, spn_cons hc (h := h) (t := t ++ spn b) (by rw [ih, he, List.cons_append]), spn_cons hc he, List.cons_append]
theorem rl_any (a b : List UInt8) : rl (a ++ 10 :: b) = spn a ++ rl b := by
  rw [rl, if_neg (by simp)]
  by_cases hb : b = []
  · subst hb
    rw [trim_snoc, rl_nil, List.append_nil]
  · rw [trim_cut a b hb, spn_append, rl, if_neg hb]
/-- Lines, each with its end. -/
def endsL (l : List (List UInt8)) : List UInt8 := (l.map (· ++ [10])).flatten
theorem rl_ends (b : List UInt8) : ∀ l : List (List UInt8), (∀ t ∈ l, spn t = [t]) → rl (endsL l ++ b) = l ++ rl b
  | [], _ => rfl
  | t :: l, h => by
    have e : endsL (t :: l) ++ b = t ++ 10 :: (endsL l ++ b) := by simp [endsL]
    rw [e, rl_any, h t (by simp), rl_ends b l (fun x hx => h x (by simp [hx]))]
    rfl
end Go.Proofs.YtmjedjhgomlfiaaGreatDoor
