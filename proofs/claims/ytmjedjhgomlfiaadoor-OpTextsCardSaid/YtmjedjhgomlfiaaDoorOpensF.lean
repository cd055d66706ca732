/- Arguments of the door seat's laws, opened. -/
import Derived.Test.YtmjedjhgomlfiaaDoorOpens
import Derived.Test.YtmjedjhgomlfiaaDoorProg
import Derived.Test.YtmjedjhgomlfiaaDoorOpParse
namespace Go.Proofs.YtmjedjhgomlfiaaDoor
open Go.RowKit Go.Proofs.YtmjedjhgomlfiaaDoorW.PrintWords
theorem cells9F : Tryd.prog.cellsOf 9 = 1 := by kernel_rfl
theorem opens_textsF : Opens Tryd.prog 22 (Kd.slice 9 Kd.string) (fun _ => True) := opens_imp (opens_slice Tryd.underlying22 cells9F (opens_string Tryd.underlying9)) (fun _ _ => trivial)
theorem cells3F : Tryd.prog.cellsOf 3 = 1 := by kernel_rfl
theorem cells39F : Tryd.prog.cellsOf 39 = 6 := by kernel_rfl
def OpV.tup (x : OpV) : Int × Int × Int × Int × Int × ByteArray := (x.code, x.a, x.b, x.c, x.d, x.s)
def OpV.ofTup (t : Int × Int × Int × Int × Int × ByteArray) : OpV := ⟨t.1, t.2.1, t.2.2.1, t.2.2.2.1, t.2.2.2.2.1, t.2.2.2.2.2⟩
theorem fields_consT {α β : Type} {P : Program} {f : Field} {fs : List Field} {k : Kd α} {k' : Kd β} (start total : Nat) (h : Opens P f.type k (fun _ => True)) (hs : f.offset = start) (hc : P.cellsOf f.type = 1) (hf : FieldsOpen P fs (start + 1) total k' (fun _ => True))
    (ho : ∀ g ∈ fs, start + 1 ≤ g.offset) : FieldsOpen P (f :: fs) start (1 + total) (Kd.pair k k') (fun _ => True) := by
  intro H enc w base spare held n cs hl hx
  obtain ⟨v, hv, _⟩ := fields_cons h hs hc hf ho H enc w base spare held n cs hl hx
  exact ⟨v, hv, trivial⟩
set_option maxRecDepth 100000 in
theorem opens_op : Opens Tryd.prog 39 (Kd.iso (Kd.pair (Kd.int .i64) (Kd.pair (Kd.int .i64) (Kd.pair (Kd.int .i64) (Kd.pair (Kd.int .i64) (Kd.pair (Kd.int .i64) Kd.string))))) OpV.tup) (fun _ => True) := by
  have oi : Opens Tryd.prog 3 (Kd.int .i64) (fun _ => True) := opens_imp (opens_int Tryd.underlying3) (fun _ _ => trivial)
  have os : Opens Tryd.prog 9 Kd.string (fun _ => True) := opens_imp (opens_string Tryd.underlying9) (fun _ _ => trivial)
  refine opens_struct (I := fun _ => True) Tryd.underlying39 cells39F ?_ OpV.tup OpV.ofTup (fun _ => rfl)
  refine fields_consT 0 5 oi rfl cells3F ?_ (by simp)
  refine fields_consT 1 4 oi rfl cells3F ?_ (by simp)
  refine fields_consT 2 3 oi rfl cells3F ?_ (by simp)
  refine fields_consT 3 2 oi rfl cells3F ?_ (by simp)
  refine fields_consT 4 1 oi rfl cells3F ?_ (by simp)
  exact fields_one os rfl cells9F
set_option maxRecDepth 100000 in
theorem op_of_trod {H : Type} {enc : TypeId × Value → H} {w : World} {base : Nat} {spare : Nat → Bool} {held : Bool} {fuel : Nat} {cs : List Value} {x : DataW H × List MemPlace} (h : DataW.trod enc Tryd.prog w base spare held fuel 39 cs = some x) : ∃ x : OpV, cs = x.val.cells.toList := by
  obtain ⟨v, hv, _⟩ := opens_op H enc w base spare held fuel cs x h
  refine ⟨v, ?_⟩
  obtain ⟨c0, r0, rfl, h0, c1, r1, rfl, h1, c2, r2, rfl, h2, c3, r3, rfl, h3, c4, r4, rfl, h4, h5⟩ := hv
  have e0 : c0 = [.int .i64 v.code] := h0
  have e1 : c1 = [.int .i64 v.a] := h1
  have e2 : c2 = [.int .i64 v.b] := h2
  have e3 : c3 = [.int .i64 v.c] := h3
  have e4 : c4 = [.int .i64 v.d] := h4
  have e5 : r4 = [.string v.s] := h5
  rw [e0, e1, e2, e3, e4, e5]
  rfl
end Go.Proofs.YtmjedjhgomlfiaaDoor
