/- The rows' laws: an entry, opened; the tables. -/
import Derived.Test.YtmjedjhgomlfiaaDoorLaysO
import Derived.Test.YtmjedjhgomlfiaaDoorOpens
import Derived.Test.YtmjedjhgomlfiaaDoorRowsAll
namespace Go.Proofs.YtmjedjhgomlfiaaDoor
open Go.RowKit Go.Proofs.YtmjedjhgomlfiaaDoorW.PrintWords Go.Lib

theorem layR_of_laid {l : List (String × DataW Unit)} {W : World} (h : laidMet Tryd.prog l W)
    (h1 : l.filter (fun x => x.1 == "internal/strconv.uint64pow10") = [("internal/strconv.uint64pow10", Rows.laid_internal_strconv_uint64pow10)])
    (h4 : l.filter (fun x => x.1 == "towncrier/op.names") = [("towncrier/op.names", Rows.laid_towncrier_op_names)]) : LayR W := by
  refine ⟨?_, names_of_laid h h4⟩
  have k1 := h.filter (fun x => x.1 == "internal/strconv.uint64pow10")
  rw [h1, powData] at k1
  exact Lib.tabIs_of_head gP gPT Tryd.underlying149 Tryd.underlying137 (by kernel_rfl) (by kernel_rfl) k1

theorem cells3E : Tryd.prog.cellsOf 3 = 1 := by kernel_rfl
theorem cells4E : Tryd.prog.cellsOf 4 = 1 := by kernel_rfl
theorem cells29E : Tryd.prog.cellsOf 29 = 1 := by kernel_rfl
theorem cells31E : Tryd.prog.cellsOf 31 = 8 := by kernel_rfl
theorem cells32E : Tryd.prog.cellsOf 32 = 1 := by kernel_rfl
theorem cells34E : Tryd.prog.cellsOf 34 = 19 := by kernel_rfl
theorem in64_of_wf {n : Int} (h : (Lit.int .i64 n).wf = true) : In64 n := by
  have e1 : IntKind.i64.min = -9223372036854775808 := rfl
  have e2 : IntKind.i64.max = 9223372036854775807 := rfl
  simp [Lit.wf, e1, e2] at h
  exact ⟨by omega, by omega⟩
theorem fields_consP {α β : Type} {P : Program} {f : Field} {fs : List Field} {k : Kd α} {k' : Kd β} {I : α → Prop} {J : β → Prop} (start c total : Nat) (h : Opens P f.type k I) (hs : f.offset = start) (hc : P.cellsOf f.type = c) (hf : FieldsOpen P fs (start + c) total k' J)
    (ho : ∀ g ∈ fs, start + c ≤ g.offset) : FieldsOpen P (f :: fs) start (c + total) (Kd.pair k k') (fun p => I p.1 ∧ J p.2) := fields_cons h hs hc hf ho
theorem fields_consQ {α β : Type} {P : Program} {f : Field} {fs : List Field} {k : Kd α} {k' : Kd β} (start total : Nat) (h : Opens P f.type k (fun _ => True)) (hs : f.offset = start) (hc : P.cellsOf f.type = 1) (hf : FieldsOpen P fs (start + 1) total k' (fun _ => True))
    (ho : ∀ g ∈ fs, start + 1 ≤ g.offset) : FieldsOpen P (f :: fs) start (1 + total) (Kd.pair k k') (fun _ => True) := by
  intro H enc w base spare held n cs hl hx
  obtain ⟨v, hv, _⟩ := fields_cons h hs hc hf ho H enc w base spare held n cs hl hx
  exact ⟨v, hv, trivial⟩
def FlagV.tup (f : FlagV) : Bool × Bool × Bool × Bool × Bool × Bool × Bool × Bool := (f.b0, f.b1, f.b2, f.b3, f.b4, f.b5, f.b6, f.b7)
def FlagV.ofTup (t : Bool × Bool × Bool × Bool × Bool × Bool × Bool × Bool) : FlagV := ⟨t.1, t.2.1, t.2.2.1, t.2.2.2.1, t.2.2.2.2.1, t.2.2.2.2.2.1, t.2.2.2.2.2.2.1, t.2.2.2.2.2.2.2⟩
def kFlag : Kd FlagV := Kd.iso (Kd.pair Kd.bool (Kd.pair Kd.bool (Kd.pair Kd.bool (Kd.pair Kd.bool (Kd.pair Kd.bool (Kd.pair Kd.bool (Kd.pair Kd.bool Kd.bool))))))) FlagV.tup
set_option maxRecDepth 100000 in
theorem opens_flag : Opens Tryd.prog 31 kFlag (fun _ => True) := by
  have ob : Opens Tryd.prog 4 Kd.bool (fun _ => True) := opens_bool Tryd.underlying4
  refine opens_imp (opens_struct (I := fun _ => True) Tryd.underlying31 cells31E ?_ FlagV.tup FlagV.ofTup (fun _ => rfl)) (fun _ h => h)
  refine fields_consQ 0 7 ob rfl cells4E ?_ (by simp)
  refine fields_consQ 1 6 ob rfl cells4E ?_ (by simp)
  refine fields_consQ 2 5 ob rfl cells4E ?_ (by simp)
  refine fields_consQ 3 4 ob rfl cells4E ?_ (by simp)
  refine fields_consQ 4 3 ob rfl cells4E ?_ (by simp)
  refine fields_consQ 5 2 ob rfl cells4E ?_ (by simp)
  refine fields_consQ 6 1 ob rfl cells4E ?_ (by simp)
  exact fields_one ob rfl cells4E
def EntV.tup (x : EntV) : Int × Int × Int × Int × Int × Int × Int × List Int × FlagV × Int × Int × Int := (x.l, x.cb, x.d, x.cur, x.ph, x.tgt, x.rel, x.path, x.f, x.code, x.err, x.ans)
def EntV.ofTup (t : Int × Int × Int × Int × Int × Int × Int × List Int × FlagV × Int × Int × Int) : EntV := ⟨t.1, t.2.1, t.2.2.1, t.2.2.2.1, t.2.2.2.2.1, t.2.2.2.2.2.1, t.2.2.2.2.2.2.1, t.2.2.2.2.2.2.2.1, t.2.2.2.2.2.2.2.2.1, t.2.2.2.2.2.2.2.2.2.1, t.2.2.2.2.2.2.2.2.2.2.1, t.2.2.2.2.2.2.2.2.2.2.2⟩
abbrev wf64 (n : Int) : Prop := (Lit.int .i64 n).wf = true
set_option maxRecDepth 100000 in
theorem opens_ent : Opens Tryd.prog 34 (Kd.iso (Kd.pair (Kd.int .i64) (Kd.pair (Kd.int .i64) (Kd.pair (Kd.int .i64) (Kd.pair (Kd.int .i64) (Kd.pair (Kd.int .i64) (Kd.pair (Kd.int .i64) (Kd.pair (Kd.int .i64) (Kd.pair (Kd.slice 3 (Kd.int .i64)) (Kd.pair kFlag (Kd.pair (Kd.int .i64) (Kd.pair (Kd.int .i64) (Kd.int .i64)))))))))))) EntV.tup) (fun x => (wf64 x.l ∧ wf64 x.cb ∧ wf64 x.d ∧ wf64 x.cur ∧ wf64 x.ph ∧ wf64 x.tgt ∧ wf64 x.rel) ∧ (∀ n ∈ x.path, wf64 n) ∧ wf64 x.err ∧ wf64 x.ans) := by
  have oi : Opens Tryd.prog 3 (Kd.int .i64) wf64 := opens_int Tryd.underlying3
  have oe : Opens Tryd.prog 32 (Kd.int .i64) wf64 := opens_int Tryd.underlying32
  have op : Opens Tryd.prog 29 (Kd.slice 3 (Kd.int .i64)) (fun l => ∀ n ∈ l, wf64 n) := opens_imp (opens_slice Tryd.underlying29 cells3E oi) (fun l h n hn => by
    obtain ⟨i, hi⟩ := List.mem_iff_getElem?.1 hn
    exact h i n hi)
  have h := opens_struct Tryd.underlying34 cells34E (fields_consP 0 1 18 oi rfl cells3E (fields_consP 1 1 17 oi rfl cells3E (fields_consP 2 1 16 oi rfl cells3E (fields_consP 3 1 15 oi rfl cells3E (fields_consP 4 1 14 oi rfl cells3E (fields_consP 5 1 13 oi rfl cells3E (fields_consP 6 1 12 oi rfl cells3E
    (fields_consP 7 1 11 op rfl cells29E (fields_consP 8 8 3 opens_flag rfl cells31E (fields_consP 16 1 2 oi rfl cells3E (fields_consP 17 1 1 oe rfl cells32E (fields_one oi rfl cells3E) (by simp)) (by simp)) (by simp)) (by simp)) (by simp)) (by simp)) (by simp)) (by simp)) (by simp)) (by simp)) (by simp)) EntV.tup EntV.ofTup (fun _ => rfl)
  refine opens_imp h (fun x hx => ?_)
  obtain ⟨h0, h1, h2, h3, h4, h5, h6, h7, _, h9, h10, h11⟩ := hx
  exact ⟨⟨h0, h1, h2, h3, h4, h5, h6⟩, h7, h10, h11⟩
theorem flag_cells {w : World} {f : FlagV} {cs : List Value} (h : kFlag.K w f cs) : cs = [.bool f.b0, .bool f.b1, .bool f.b2, .bool f.b3, .bool f.b4, .bool f.b5, .bool f.b6, .bool f.b7] := by
  obtain ⟨c0, r0, rfl, h0, c1, r1, rfl, h1, c2, r2, rfl, h2, c3, r3, rfl, h3, c4, r4, rfl, h4, c5, r5, rfl, h5, c6, r6, rfl, h6, h7⟩ := h
  have e0 : c0 = [.bool f.b0] := h0
  have e1 : c1 = [.bool f.b1] := h1
  have e2 : c2 = [.bool f.b2] := h2
  have e3 : c3 = [.bool f.b3] := h3
  have e4 : c4 = [.bool f.b4] := h4
  have e5 : c5 = [.bool f.b5] := h5
  have e6 : c6 = [.bool f.b6] := h6
  have e7 : r6 = [.bool f.b7] := h7
  rw [e0, e1, e2, e3, e4, e5, e6, e7]
  rfl
theorem ent_of_trod {H : Type} {enc : TypeId × Value → H} {w : World} {base : Nat} {spare : Nat → Bool} {held : Bool} {fuel : Nat} {cs : List Value} {y : DataW H × List MemPlace} (h : DataW.trod enc Tryd.prog w base spare held fuel 34 cs = some y) :
    ∃ (x : EntV) (A : Option Addr) (cap : Nat), cs = (x.val A cap).cells.toList ∧ x.path.length ≤ cap ∧ (Kd.int .i64).C w A x.path.length x.path ∧ x.In := by
  obtain ⟨v, hv, hI⟩ := opens_ent H enc w base spare held fuel cs y h
  obtain ⟨c0, r0, rfl, h0, c1, r1, rfl, h1, c2, r2, rfl, h2, c3, r3, rfl, h3, c4, r4, rfl, h4, c5, r5, rfl, h5, c6, r6, rfl, h6, c7, r7, rfl, h7, c8, r8, rfl, h8, c9, r9, rfl, h9, c10, r10, rfl, h10, h11⟩ := hv
  obtain ⟨A, cap, e7, hcap, hC⟩ := h7
  have e8 := flag_cells h8
  have e0 : c0 = [.int .i64 v.l] := h0
  have e1 : c1 = [.int .i64 v.cb] := h1
  have e2 : c2 = [.int .i64 v.d] := h2
  have e3 : c3 = [.int .i64 v.cur] := h3
  have e4 : c4 = [.int .i64 v.ph] := h4
  have e5 : c5 = [.int .i64 v.tgt] := h5
  have e6 : c6 = [.int .i64 v.rel] := h6
  have e9 : c9 = [.int .i64 v.code] := h9
  have e10 : c10 = [.int .i64 v.err] := h10
  have e11 : r10 = [.int .i64 v.ans] := h11
  refine ⟨v, A, cap, ?_, hcap, hC, ?_⟩
  · rw [e0, e1, e2, e3, e4, e5, e6, e7, e8, e9, e10, e11]
    rfl
  · obtain ⟨⟨i0, i1, i2, i3, i4, i5, i6⟩, ip, ie, ia⟩ := hI
    refine ⟨fun n hn => ?_, fun n hn => in64_of_wf (ip n hn), in64_of_wf ie, in64_of_wf ia⟩
    simp only [EntV.seven, List.mem_cons, List.not_mem_nil, or_false] at hn
    rcases hn with rfl | rfl | rfl | rfl | rfl | rfl | rfl
    · exact in64_of_wf i0
    · exact in64_of_wf i1
    · exact in64_of_wf i2
    · exact in64_of_wf i3
    · exact in64_of_wf i4
    · exact in64_of_wf i5
    · exact in64_of_wf i6
end Go.Proofs.YtmjedjhgomlfiaaDoor
