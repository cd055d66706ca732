/- Entries and steps, opened. -/
import Derived.Test.YtmjedjhgomlfiaaOpens
import Derived.Test.YtmjedjhgomlfiaaPAuditTellsx0
namespace Go.Proofs.Ytmjedjhgomlfiaa
open Go.RowKit Go.Proofs.YtmjedjhgomlfiaaW.PrintWords Go.Proofs.Ytmjedjhgomlfiaa.PAuditTells

theorem cellsE3 : Try.prog.cellsOf 3 = 1 := by kernel_rfl
theorem cellsE4 : Try.prog.cellsOf 4 = 1 := by kernel_rfl
theorem cellsE29 : Try.prog.cellsOf 29 = 1 := by kernel_rfl
theorem cellsE31 : Try.prog.cellsOf 31 = 8 := by kernel_rfl
theorem cellsE32 : Try.prog.cellsOf 32 = 1 := by kernel_rfl
theorem cellsE34 : Try.prog.cellsOf 34 = 19 := by kernel_rfl
theorem cellsE57 : Try.prog.cellsOf 57 = 5 := by kernel_rfl
/-- A field of one cell, of which nothing is kept. -/
theorem fields_consQ {α β : Type} {P : Program} {f : Field} {fs : List Field} {k : Kd α} {k' : Kd β} (start c total : Nat) (h : Opens P f.type k (fun _ => True)) (hs : f.offset = start) (hc : P.cellsOf f.type = c) (hf : FieldsOpen P fs (start + c) total k' (fun _ => True))
    (ho : ∀ g ∈ fs, start + c ≤ g.offset) : FieldsOpen P (f :: fs) start (c + total) (Kd.pair k k') (fun _ => True) := by
  intro H enc w base spare held n cs hl hx
  obtain ⟨v, hv, _⟩ := fields_cons h hs hc hf ho H enc w base spare held n cs hl hx
  exact ⟨v, hv, trivial⟩
theorem opensT_int : Opens Try.prog 3 (Kd.int .i64) (fun _ => True) := opens_imp (opens_int Try.underlying3) (fun _ _ => trivial)
theorem opensT_int32 : Opens Try.prog 32 (Kd.int .i64) (fun _ => True) := opens_imp (opens_int Try.underlying32) (fun _ _ => trivial)
theorem opensT_bool : Opens Try.prog 4 Kd.bool (fun _ => True) := opens_bool Try.underlying4
theorem opensT_ints : Opens Try.prog 29 (Kd.slice 3 (Kd.int .i64)) (fun _ => True) := opens_imp (opens_slice Try.underlying29 cellsE3 opensT_int) (fun _ _ => trivial)
def tup31 (x : S31) : Bool × Bool × Bool × Bool × Bool × Bool × Bool × Bool := (x.f0, x.f1, x.f2, x.f3, x.f4, x.f5, x.f6, x.f7)
def of31 (t : Bool × Bool × Bool × Bool × Bool × Bool × Bool × Bool) : S31 := ⟨t.1, t.2.1, t.2.2.1, t.2.2.2.1, t.2.2.2.2.1, t.2.2.2.2.2.1, t.2.2.2.2.2.2.1, t.2.2.2.2.2.2.2⟩
set_option maxRecDepth 100000 in
theorem opens_31 : Opens Try.prog 31 k31 (fun _ => True) := by
  refine opens_imp (opens_struct (I := fun _ => True) Try.underlying31 cellsE31 ?_ tup31 of31 (fun _ => rfl)) (fun _ h => h)
  have ob := opensT_bool
  refine fields_consQ 0 1 7 ob rfl cellsE4 ?_ (by simp)
  refine fields_consQ 1 1 6 ob rfl cellsE4 ?_ (by simp)
  refine fields_consQ 2 1 5 ob rfl cellsE4 ?_ (by simp)
  refine fields_consQ 3 1 4 ob rfl cellsE4 ?_ (by simp)
  refine fields_consQ 4 1 3 ob rfl cellsE4 ?_ (by simp)
  refine fields_consQ 5 1 2 ob rfl cellsE4 ?_ (by simp)
  refine fields_consQ 6 1 1 ob rfl cellsE4 ?_ (by simp)
  exact fields_one ob rfl cellsE4
def tup57 (x : S57) : Int × Int × Int × Bool × Bool := (x.f0, x.f1, x.f2, x.f3, x.f4)
def of57 (t : Int × Int × Int × Bool × Bool) : S57 := ⟨t.1, t.2.1, t.2.2.1, t.2.2.2.1, t.2.2.2.2⟩
set_option maxRecDepth 100000 in
theorem opens_57 : Opens Try.prog 57 k57 (fun _ => True) := by
  refine opens_imp (opens_struct (I := fun _ => True) Try.underlying57 cellsE57 ?_ tup57 of57 (fun _ => rfl)) (fun _ h => h)
  refine fields_consQ 0 1 4 opensT_int rfl cellsE3 ?_ (by simp)
  refine fields_consQ 1 1 3 opensT_int rfl cellsE3 ?_ (by simp)
  refine fields_consQ 2 1 2 opensT_int rfl cellsE3 ?_ (by simp)
  refine fields_consQ 3 1 1 opensT_bool rfl cellsE4 ?_ (by simp)
  exact fields_one opensT_bool rfl cellsE4
def tup34 (x : S34) : Int × Int × Int × Int × Int × Int × Int × List Int × S31 × Int × Int × Int := (x.f0, x.f1, x.f2, x.f3, x.f4, x.f5, x.f6, x.f7, x.f8, x.f9, x.f10, x.f11)
def of34 (t : Int × Int × Int × Int × Int × Int × Int × List Int × S31 × Int × Int × Int) : S34 := ⟨t.1, t.2.1, t.2.2.1, t.2.2.2.1, t.2.2.2.2.1, t.2.2.2.2.2.1, t.2.2.2.2.2.2.1, t.2.2.2.2.2.2.2.1, t.2.2.2.2.2.2.2.2.1, t.2.2.2.2.2.2.2.2.2.1, t.2.2.2.2.2.2.2.2.2.2.1, t.2.2.2.2.2.2.2.2.2.2.2⟩
set_option maxRecDepth 100000 in
theorem opens_34 : Opens Try.prog 34 k34 (fun _ => True) := by
  refine opens_imp (opens_struct (I := fun _ => True) Try.underlying34 cellsE34 ?_ tup34 of34 (fun _ => rfl)) (fun _ h => h)
  refine fields_consQ 0 1 18 opensT_int rfl cellsE3 ?_ (by simp)
  refine fields_consQ 1 1 17 opensT_int rfl cellsE3 ?_ (by simp)
  refine fields_consQ 2 1 16 opensT_int rfl cellsE3 ?_ (by simp)
  refine fields_consQ 3 1 15 opensT_int rfl cellsE3 ?_ (by simp)
  refine fields_consQ 4 1 14 opensT_int rfl cellsE3 ?_ (by simp)
  refine fields_consQ 5 1 13 opensT_int rfl cellsE3 ?_ (by simp)
  refine fields_consQ 6 1 12 opensT_int rfl cellsE3 ?_ (by simp)
  refine fields_consQ 7 1 11 opensT_ints rfl cellsE29 ?_ (by simp)
  refine fields_consQ 8 8 3 opens_31 rfl cellsE31 ?_ (by simp)
  refine fields_consQ 16 1 2 opensT_int rfl cellsE3 ?_ (by simp)
  refine fields_consQ 17 1 1 opensT_int32 rfl cellsE32 ?_ (by simp)
  exact fields_one opensT_int rfl cellsE3
theorem opens_34s : Opens Try.prog 27 (Kd.slice 34 k34) (fun _ => True) := opens_imp (opens_slice Try.underlying27 cellsE34 opens_34) (fun _ _ => trivial)
theorem opens_57s : Opens Try.prog 28 (Kd.slice 57 k57) (fun _ => True) := opens_imp (opens_slice Try.underlying28 cellsE57 opens_57) (fun _ _ => trivial)
end Go.Proofs.Ytmjedjhgomlfiaa
