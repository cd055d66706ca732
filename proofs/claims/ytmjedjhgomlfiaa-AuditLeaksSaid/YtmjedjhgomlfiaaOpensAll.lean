/- Arguments, opened. -/
import Derived.Deep.Slices
import Derived.Deep.Fields
import Derived.OpenShut
import Derived.ProofKit
import Derived.Test.YtmjedjhgomlfiaaWWords
import Derived.Test.YtmjedjhgomlfiaaPAuditTellsx0
import Derived.Test.YtmjedjhgomlfiaaPAuditLeaksx0
namespace Go.Proofs.Ytmjedjhgomlfiaa
open Go.RowKit Go.ChangeShapes Go.WideShapes Go.Deep Go.Proofs.YtmjedjhgomlfiaaW.PrintWords

/-- Whatever can be read at the type t is of the kind k, and has the property I. -/
def Opens {α : Type} (P : Program) (t : TypeId) (k : Kd α) (I : α → Prop) : Prop :=
  ∀ (H : Type) (enc : TypeId × Value → H) (w : World) (base : Nat) (spare : Nat → Bool) (held : Bool) (fuel : Nat) (cs : List Value) (x : DataW H × List MemPlace),
    DataW.trod enc P w base spare held fuel t cs = some x → ∃ v, k.K w v cs ∧ I v

section
variable {P : Program} {t e : TypeId} {α β : Type}
theorem opens_int {k : IntKind} (ht : P.underlying t = some (.int k)) : Opens P t (Kd.int k) (fun n => (Lit.int k n).wf = true) := by
  intro H enc w base spare held fuel cs x h
  obtain ⟨n, rfl, _, hw⟩ := DataW.trod_int ht h
  exact ⟨n, rfl, hw⟩
theorem opens_bool (ht : P.underlying t = some .bool) : Opens P t Kd.bool (fun _ => True) := by
  intro H enc w base spare held fuel cs x h
  obtain ⟨b, rfl, _⟩ := DataW.trod_bool ht h
  exact ⟨b, rfl, trivial⟩
theorem opens_string (ht : P.underlying t = some .string) : Opens P t Kd.string (fun s => s.size ≤ maxLen) := by
  intro H enc w base spare held fuel cs x h
  obtain ⟨s, rfl, _, hs⟩ := DataW.trod_string ht h
  exact ⟨s, rfl, hs⟩
theorem opens_imp {k : Kd α} {I J : α → Prop} (h : Opens P t k I) (hI : ∀ x, I x → J x) : Opens P t k J := by
  intro H enc w base spare held fuel cs x hx
  obtain ⟨v, hv, hi⟩ := h H enc w base spare held fuel cs x hx
  exact ⟨v, hv, hI v hi⟩

theorem choose_below {n : Nat} {p : Nat → α → Prop} (h : ∀ i, i < n → ∃ x, p i x) : ∃ xs : List α, xs.length = n ∧ ∀ i x, xs[i]? = some x → p i x := by
  induction n with
  | zero => exact ⟨[], rfl, fun i x hx => by simp at hx⟩
  | succ n ih =>
    obtain ⟨xs, hl, hx⟩ := ih (fun i hi => h i (by omega))
    obtain ⟨y, hy⟩ := h n (by omega)
    refine ⟨xs ++ [y], by simp [hl], fun i x hi => ?_⟩
    rcases Nat.lt_or_ge i xs.length with hlt | hge
    · rw [List.getElem?_append_left hlt] at hi
      exact hx i x hi
    · rw [List.getElem?_append_right hge] at hi
      have h0 : i - xs.length = 0 := by
        rcases Nat.eq_zero_or_pos (i - xs.length) with h0 | h0
        · exact h0
        · rw [List.getElem?_eq_none (by simp; omega)] at hi
          cases hi
      rw [h0] at hi
      have he : y = x := by simpa using hi
      subst he
      have : i = n := by omega
      subst this
      exact hy

theorem opens_slice {d : Kd α} {I : α → Prop} (ht : P.underlying t = some (.slice e)) (hc : P.cellsOf e = d.sz) (h : Opens P e d I) : Opens P t (Kd.slice e d) (fun xs => ∀ (i : Nat) (x : α), xs[i]? = some x → I x) := by
  intro H enc w base spare held fuel cs x hx
  rcases open_slice ht hx with ⟨rfl, _⟩ | ⟨a, len, cap, m, n, D, Pl, rfl, hb, hl, hcap, hmm, rfl, hi⟩
  · refine ⟨[], ⟨none, 0, rfl, Nat.le_refl _, ⟨rfl, by simp, fun h => absurd h (by simp)⟩⟩, fun i x hx => by simp at hx⟩
  · have hlm : len ≤ m := by rw [hmm]; split <;> omega
    obtain ⟨xs, hlen, hxs⟩ := choose_below (α := α) (n := len) (p := fun i v => I v ∧ ∃ c, c.length = d.sz ∧ d.K w v c ∧ ∀ j u, c[j]? = some u → w.cell? (a.add (i * d.sz + j)) = some u) (fun i hil => by
      obtain ⟨cs', h1, h2⟩ := hi i (by omega)
      obtain ⟨v, hv, hI⟩ := h H enc w base spare held n cs' _ h2
      obtain ⟨_, hlc, hcell⟩ := World.cells?_some h1
      refine ⟨v, hI, cs', by rw [hlc, hc], hv, fun j u hu => ?_⟩
      have hj : j < P.cellsOf e := by rw [← hlc]; exact (List.getElem?_eq_some_iff.1 hu).1
      have := hcell j hj
      rw [Go.Deep.add_add, hc, hu] at this
      exact this)
    unfold maxLen at hcap
    refine ⟨xs, ⟨some a, cap, by rw [hlen], by omega, ⟨rfl, by omega, fun _ => ⟨a, rfl, fun j p hp => ?_⟩⟩⟩, fun i v hv => (hxs i v hv).1⟩
    obtain ⟨_, c, h1, h2, h3⟩ := hxs j p hp
    exact ⟨c, h1, h2, h3⟩

/-- The fields of a struct from a place on: `start` is the first one's offset, `total` how many cells they have. -/
def FieldsOpen (P : Program) (fs : List Field) (start total : Nat) (k : Kd β) (I : β → Prop) : Prop :=
  ∀ (H : Type) (enc : TypeId × Value → H) (w : World) (base : Nat) (spare : Nat → Bool) (held : Bool) (n : Nat) (cs : List Value), cs.length = total →
    (∀ (i : Nat) (f : Field), fs[i]? = some f → ∃ x, DataW.trod enc P w base spare held n f.type ((cs.drop (f.offset - start)).take (P.cellsOf f.type)) = some x ∧ start ≤ f.offset) → ∃ v, k.K w v cs ∧ I v
theorem fields_one {f : Field} {k : Kd α} {I : α → Prop} {start total : Nat} (h : Opens P f.type k I) (hs : f.offset = start) (ht : P.cellsOf f.type = total) : FieldsOpen P [f] start total k I := by
  intro H enc w base spare held n cs hl hf
  obtain ⟨x, hx, _⟩ := hf 0 f rfl
  rw [hs, Nat.sub_self, List.drop_zero, ht, List.take_of_length_le (by omega)] at hx
  exact h H enc w base spare held n cs x hx
theorem fields_cons {f : Field} {fs : List Field} {k : Kd α} {k' : Kd β} {I : α → Prop} {J : β → Prop} {start c total : Nat} (h : Opens P f.type k I) (hs : f.offset = start) (hc : P.cellsOf f.type = c) (hf : FieldsOpen P fs (start + c) total k' J)
    (ho : ∀ g ∈ fs, start + c ≤ g.offset) : FieldsOpen P (f :: fs) start (c + total) (Kd.pair k k') (fun p => I p.1 ∧ J p.2) := by
  intro H enc w base spare held n cs hl hx
  obtain ⟨x, h0, _⟩ := hx 0 f rfl
  rw [hs, Nat.sub_self, List.drop_zero, hc] at h0
  obtain ⟨v, hv, hI⟩ := h H enc w base spare held n _ x h0
  obtain ⟨v', hv', hJ⟩ := hf H enc w base spare held n (cs.drop c) (by rw [List.length_drop]; omega) (fun i g hg => by
    obtain ⟨y, hy, _⟩ := hx (i + 1) g (by simpa using hg)
    have hle := ho g (List.mem_of_getElem? hg)
    refine ⟨y, ?_, hle⟩
    rw [List.drop_drop, show c + (g.offset - (start + c)) = g.offset - start from by omega]
    exact hy)
  exact ⟨(v, v'), ⟨cs.take c, cs.drop c, (List.take_append_drop c cs).symm, hv, hv'⟩, hI, hJ⟩
theorem opens_struct {fs : Array Field} {k : Kd β} {I : β → Prop} {total : Nat} (ht : P.underlying t = some (.struct fs)) (hc : P.cellsOf t = total) (hf : FieldsOpen P fs.toList 0 total k I) (f : α → β) (g : β → α) (hfg : ∀ v, f (g v) = v) :
    Opens P t (Kd.iso k f) (fun x => I (f x)) := by
  intro H enc w base spare held fuel cs x hx
  obtain ⟨xs, n, _, _, hlen, hl, hi⟩ := DataW.trod_struct ht hx
  obtain ⟨v, hv, hI⟩ := hf H enc w base spare held n cs (by rw [hlen, hc]) (fun i fd hfd => by
    have hfd' : fs[i]? = some fd := by simpa using hfd
    have h1 := hi i fd hfd'
    have hlt : i < xs.length := by rw [hl]; exact (Array.getElem?_eq_some_iff.1 hfd').1
    rw [List.getElem?_eq_getElem hlt] at h1
    exact ⟨_, h1, Nat.zero_le _⟩)
  refine ⟨g v, ?_, ?_⟩
  · show k.K w (f (g v)) cs
    rw [hfg]
    exact hv
  · show I (f (g v))
    rw [hfg]
    exact hI
end
end Go.Proofs.Ytmjedjhgomlfiaa

namespace Go.Proofs.Ytmjedjhgomlfiaa
open Go.RowKit Go.Proofs.YtmjedjhgomlfiaaW.PrintWords Go.Proofs.Ytmjedjhgomlfiaa.PAuditTells

theorem cellsE3 : Try.prog.cellsOf 3 = 1 := by kernel_rfl
theorem cellsE4 : Try.prog.cellsOf 4 = 1 := by kernel_rfl
theorem cellsE29 : Try.prog.cellsOf 29 = 1 := by kernel_rfl
theorem cellsE31 : Try.prog.cellsOf 31 = 8 := by kernel_rfl
theorem cellsE32 : Try.prog.cellsOf 32 = 1 := by kernel_rfl
theorem cellsE34 : Try.prog.cellsOf 34 = 19 := by kernel_rfl
/-- A field of one cell, of which nothing is kept. -/
theorem fields_consQ {α β : Type} {P : Program} {f : Field} {fs : List Field} {k : Kd α} {k' : Kd β} (start c total : Nat) (h : Opens P f.type k (fun _ => True)) (hs : f.offset = start) (hc : P.cellsOf f.type = c) (hf : FieldsOpen P fs (start + c) total k' (fun _ => True))
    (ho : ∀ g ∈ fs, start + c ≤ g.offset) : FieldsOpen P (f :: fs) start (c + total) (Kd.pair k k') (fun _ => True) := by
  intro H enc w base spare held n cs hl hx
  obtain ⟨v, hv, _⟩ := fields_cons h hs hc hf ho H enc w base spare held n cs hl hx
  exact ⟨v, hv, trivial⟩
theorem opensT_int : Opens Try.prog 3 (Kd.int .i64) (fun _ => True) := opens_imp (opens_int Try.underlying3) (fun _ _ => trivial)
theorem opensT_int32 : Opens Try.prog 32 (Kd.int .i64) (fun _ => True) := opens_imp (opens_int Try.underlying32) (fun _ _ => trivial)
theorem opensT_bool : Opens Try.prog 4 Kd.bool (fun _ => True) := opens_bool Try.underlying4
theorem opensT_ints : Opens Try.prog 29 (Kd.slice 3 (Kd.int .i64)) (fun _ => True) := opens_imp (opens_slice Try.underlying29 cellsE3 opensT_int) (fun _ _ => trivial)
def tup31 (x : S31) : Bool × Bool × Bool × Bool × Bool × Bool × Bool × Bool := (x.f0, x.f1, x.f2, x.f3, x.f4, x.f5, x.f6, x.f7)
def of31 (t : Bool × Bool × Bool × Bool × Bool × Bool × Bool × Bool) : S31 := ⟨t.1, t.2.1, t.2.2.1, t.2.2.2.1, t.2.2.2.2.1, t.2.2.2.2.2.1, t.2.2.2.2.2.2.1, t.2.2.2.2.2.2.2⟩
set_option maxRecDepth 100000 in
theorem opens_31 : Opens Try.prog 31 k31 (fun _ => True) := by
  refine opens_imp (opens_struct (I := fun _ => True) Try.underlying31 cellsE31 ?_ tup31 of31 (fun _ => rfl)) (fun _ h => h)
  have ob := opensT_bool
  refine fields_consQ 0 1 7 ob rfl cellsE4 ?_ (by simp)
  refine fields_consQ 1 1 6 ob rfl cellsE4 ?_ (by simp)
  refine fields_consQ 2 1 5 ob rfl cellsE4 ?_ (by simp)
  refine fields_consQ 3 1 4 ob rfl cellsE4 ?_ (by simp)
  refine fields_consQ 4 1 3 ob rfl cellsE4 ?_ (by simp)
  refine fields_consQ 5 1 2 ob rfl cellsE4 ?_ (by simp)
  refine fields_consQ 6 1 1 ob rfl cellsE4 ?_ (by simp)
  exact fields_one ob rfl cellsE4
def tup34 (x : S34) : Int × Int × Int × Int × Int × Int × Int × List Int × S31 × Int × Int × Int := (x.f0, x.f1, x.f2, x.f3, x.f4, x.f5, x.f6, x.f7, x.f8, x.f9, x.f10, x.f11)
def of34 (t : Int × Int × Int × Int × Int × Int × Int × List Int × S31 × Int × Int × Int) : S34 := ⟨t.1, t.2.1, t.2.2.1, t.2.2.2.1, t.2.2.2.2.1, t.2.2.2.2.2.1, t.2.2.2.2.2.2.1, t.2.2.2.2.2.2.2.1, t.2.2.2.2.2.2.2.2.1, t.2.2.2.2.2.2.2.2.2.1, t.2.2.2.2.2.2.2.2.2.2.1, t.2.2.2.2.2.2.2.2.2.2.2⟩
set_option maxRecDepth 100000 in
theorem opens_34 : Opens Try.prog 34 k34 (fun _ => True) := by
  refine opens_imp (opens_struct (I := fun _ => True) Try.underlying34 cellsE34 ?_ tup34 of34 (fun _ => rfl)) (fun _ h => h)
  refine fields_consQ 0 1 18 opensT_int rfl cellsE3 ?_ (by simp)
  refine fields_consQ 1 1 17 opensT_int rfl cellsE3 ?_ (by simp)
  refine fields_consQ 2 1 16 opensT_int rfl cellsE3 ?_ (by simp)
  refine fields_consQ 3 1 15 opensT_int rfl cellsE3 ?_ (by simp)
  refine fields_consQ 4 1 14 opensT_int rfl cellsE3 ?_ (by simp)
  refine fields_consQ 5 1 13 opensT_int rfl cellsE3 ?_ (by simp)
  refine fields_consQ 6 1 12 opensT_int rfl cellsE3 ?_ (by simp)
  refine fields_consQ 7 1 11 opensT_ints rfl cellsE29 ?_ (by simp)
  refine fields_consQ 8 8 3 opens_31 rfl cellsE31 ?_ (by simp)
  refine fields_consQ 16 1 2 opensT_int rfl cellsE3 ?_ (by simp)
  refine fields_consQ 17 1 1 opensT_int32 rfl cellsE32 ?_ (by simp)
  exact fields_one opensT_int rfl cellsE3
end Go.Proofs.Ytmjedjhgomlfiaa

namespace Go.Proofs.Ytmjedjhgomlfiaa
open Go.RowKit Go.Proofs.YtmjedjhgomlfiaaW.PrintWords Go.Proofs.Ytmjedjhgomlfiaa.PAuditLeaks

theorem cellsE9 : Try.prog.cellsOf 9 = 1 := by kernel_rfl
theorem cellsE61 : Try.prog.cellsOf 61 = 9 := by kernel_rfl
theorem cellsE63 : Try.prog.cellsOf 63 = 14 := by kernel_rfl
theorem opensT_string : Opens Try.prog 9 Kd.string (fun _ => True) := opens_imp (opens_string Try.underlying9) (fun _ _ => trivial)
def tup61 (x : S61) : Int × Int × Int × Int × Int × Bool × ByteArray × ByteArray × List Int := (x.f0, x.f1, x.f2, x.f3, x.f4, x.f5, x.f6, x.f7, x.f8)
def of61 (t : Int × Int × Int × Int × Int × Bool × ByteArray × ByteArray × List Int) : S61 := ⟨t.1, t.2.1, t.2.2.1, t.2.2.2.1, t.2.2.2.2.1, t.2.2.2.2.2.1, t.2.2.2.2.2.2.1, t.2.2.2.2.2.2.2.1, t.2.2.2.2.2.2.2.2⟩
set_option maxRecDepth 100000 in
theorem opens_61 : Opens Try.prog 61 k61 (fun _ => True) := by
  refine opens_imp (opens_struct (I := fun _ => True) Try.underlying61 cellsE61 ?_ tup61 of61 (fun _ => rfl)) (fun _ h => h)
  refine fields_consQ 0 1 8 opensT_int rfl cellsE3 ?_ (by simp)
  refine fields_consQ 1 1 7 opensT_int rfl cellsE3 ?_ (by simp)
  refine fields_consQ 2 1 6 opensT_int rfl cellsE3 ?_ (by simp)
  refine fields_consQ 3 1 5 opensT_int rfl cellsE3 ?_ (by simp)
  refine fields_consQ 4 1 4 opensT_int rfl cellsE3 ?_ (by simp)
  refine fields_consQ 5 1 3 opensT_bool rfl cellsE4 ?_ (by simp)
  refine fields_consQ 6 1 2 opensT_string rfl cellsE9 ?_ (by simp)
  refine fields_consQ 7 1 1 opensT_string rfl cellsE9 ?_ (by simp)
  exact fields_one opensT_ints rfl cellsE29
def tup63 (x : S63) : Int × Int × Int × ByteArray × S61 × List Int := (x.f0, x.f1, x.f2, x.f3, x.f4, x.f5)
def of63 (t : Int × Int × Int × ByteArray × S61 × List Int) : S63 := ⟨t.1, t.2.1, t.2.2.1, t.2.2.2.1, t.2.2.2.2.1, t.2.2.2.2.2⟩
set_option maxRecDepth 100000 in
theorem opens_63 : Opens Try.prog 63 k63 (fun _ => True) := by
  refine opens_imp (opens_struct (I := fun _ => True) Try.underlying63 cellsE63 ?_ tup63 of63 (fun _ => rfl)) (fun _ h => h)
  refine fields_consQ 0 1 13 opensT_int rfl cellsE3 ?_ (by simp)
  refine fields_consQ 1 1 12 opensT_int rfl cellsE3 ?_ (by simp)
  refine fields_consQ 2 1 11 opensT_int rfl cellsE3 ?_ (by simp)
  refine fields_consQ 3 1 10 opensT_string rfl cellsE9 ?_ (by simp)
  refine fields_consQ 4 9 1 opens_61 rfl cellsE61 ?_ (by simp)
  exact fields_one opensT_ints rfl cellsE29
theorem opens_63s : Opens Try.prog 41 (Kd.slice 63 k63) (fun _ => True) := opens_imp (opens_slice Try.underlying41 cellsE63 opens_63) (fun _ _ => trivial)
end Go.Proofs.Ytmjedjhgomlfiaa
