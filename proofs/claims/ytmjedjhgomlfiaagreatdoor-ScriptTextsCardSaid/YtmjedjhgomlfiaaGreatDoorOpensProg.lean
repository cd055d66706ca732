/- A program as an argument, opened. -/
import Derived.Deep.Slices
import Derived.Deep.Fields
import Derived.OpenShut
import Derived.ProofKit
import Derived.Test.YtmjedjhgomlfiaaGreatDoorWWords
import Derived.Test.YtmjedjhgomlfiaaGreatDoorScAll
namespace Go.Proofs.YtmjedjhgomlfiaaGreatDoor
open Go.RowKit Go.ChangeShapes Go.WideShapes Go.Deep Go.Proofs.YtmjedjhgomlfiaaGreatDoorW.PrintWords

/-- Whatever can be read at the type t is of the kind k, and has the property I. -/
def Opens {α : Type} (P : Program) (t : TypeId) (k : Kd α) (I : α → Prop) : Prop :=
  ∀ (H : Type) (enc : TypeId × Value → H) (w : World) (base : Nat) (spare : Nat → Bool) (held : Bool) (fuel : Nat) (cs : List Value) (x : DataW H × List MemPlace),
    DataW.trod enc P w base spare held fuel t cs = some x → ∃ v, k.K w v cs ∧ I v

section
variable {P : Program} {t e : TypeId} {α β : Type}
theorem opens_int {k : IntKind} (ht : P.underlying t = some (.int k)) : Opens P t (Kd.int k) (fun n => (Lit.int k n).wf = true) := by
  intro H enc w base spare held fuel cs x h
  obtain ⟨n, rfl, _, hw⟩ := DataW.trod_int ht h
  exact ⟨n, rfl, hw⟩
theorem opens_string (ht : P.underlying t = some .string) : Opens P t Kd.string (fun s => s.size ≤ maxLen) := by
  intro H enc w base spare held fuel cs x h
  obtain ⟨s, rfl, _, hs⟩ := DataW.trod_string ht h
  exact ⟨s, rfl, hs⟩
theorem opens_imp {k : Kd α} {I J : α → Prop} (h : Opens P t k I) (hI : ∀ x, I x → J x) : Opens P t k J := by
  intro H enc w base spare held fuel cs x hx
  obtain ⟨v, hv, hi⟩ := h H enc w base spare held fuel cs x hx
  exact ⟨v, hv, hI v hi⟩

theorem choose_below {n : Nat} {p : Nat → α → Prop} (h : ∀ i, i < n → ∃ x, p i x) : ∃ xs : List α, xs.length = n ∧ ∀ i x, xs[i]? = some x → p i x := by
  induction n with
  | zero => exact ⟨[], rfl, fun i x hx => by simp at hx⟩
  | succ n ih =>
    obtain ⟨xs, hl, hx⟩ := ih (fun i hi => h i (by omega))
    obtain ⟨y, hy⟩ := h n (by omega)
    refine ⟨xs ++ [y], by simp [hl], fun i x hi => ?_⟩
    rcases Nat.lt_or_ge i xs.length with hlt | hge
    · rw [List.getElem?_append_left hlt] at hi
      exact hx i x hi
    · rw [List.getElem?_append_right hge] at hi
      have h0 : i - xs.length = 0 := by
        rcases Nat.eq_zero_or_pos (i - xs.length) with h0 | h0
        · exact h0
        · rw [List.getElem?_eq_none (by simp; omega)] at hi
          cases hi
      rw [h0] at hi
      have he : y = x := by simpa using hi
      subst he
      have : i = n := by omega
      subst this
      exact hy

/-- The fields of a struct from a place on: `start` is the first one's offset, `total` how many cells they have. -/
def FieldsOpen (P : Program) (fs : List Field) (start total : Nat) (k : Kd β) (I : β → Prop) : Prop :=
  ∀ (H : Type) (enc : TypeId × Value → H) (w : World) (base : Nat) (spare : Nat → Bool) (held : Bool) (n : Nat) (cs : List Value), cs.length = total →
    (∀ (i : Nat) (f : Field), fs[i]? = some f → ∃ x, DataW.trod enc P w base spare held n f.type ((cs.drop (f.offset - start)).take (P.cellsOf f.type)) = some x ∧ start ≤ f.offset) → ∃ v, k.K w v cs ∧ I v
theorem fields_one {f : Field} {k : Kd α} {I : α → Prop} {start total : Nat} (h : Opens P f.type k I) (hs : f.offset = start) (ht : P.cellsOf f.type = total) : FieldsOpen P [f] start total k I := by
  intro H enc w base spare held n cs hl hf
  obtain ⟨x, hx, _⟩ := hf 0 f rfl
  rw [hs, Nat.sub_self, List.drop_zero, ht, List.take_of_length_le (by omega)] at hx
  exact h H enc w base spare held n cs x hx
theorem fields_cons {f : Field} {fs : List Field} {k : Kd α} {k' : Kd β} {I : α → Prop} {J : β → Prop} {start c total : Nat} (h : Opens P f.type k I) (hs : f.offset = start) (hc : P.cellsOf f.type = c) (hf : FieldsOpen P fs (start + c) total k' J)
    (ho : ∀ g ∈ fs, start + c ≤ g.offset) : FieldsOpen P (f :: fs) start (c + total) (Kd.pair k k') (fun p => I p.1 ∧ J p.2) := by
  intro H enc w base spare held n cs hl hx
  obtain ⟨x, h0, _⟩ := hx 0 f rfl
  rw [hs, Nat.sub_self, List.drop_zero, hc] at h0
  obtain ⟨v, hv, hI⟩ := h H enc w base spare held n _ x h0
  obtain ⟨v', hv', hJ⟩ := hf H enc w base spare held n (cs.drop c) (by rw [List.length_drop]; omega) (fun i g hg => by
    obtain ⟨y, hy, _⟩ := hx (i + 1) g (by simpa using hg)
    have hle := ho g (List.mem_of_getElem? hg)
    refine ⟨y, ?_, hle⟩
    rw [List.drop_drop, show c + (g.offset - (start + c)) = g.offset - start from by omega]
    exact hy)
  exact ⟨(v, v'), ⟨cs.take c, cs.drop c, (List.take_append_drop c cs).symm, hv, hv'⟩, hI, hJ⟩
theorem opens_struct {fs : Array Field} {k : Kd β} {I : β → Prop} {total : Nat} (ht : P.underlying t = some (.struct fs)) (hc : P.cellsOf t = total) (hf : FieldsOpen P fs.toList 0 total k I) (f : α → β) (g : β → α) (hfg : ∀ v, f (g v) = v) :
    Opens P t (Kd.iso k f) (fun x => I (f x)) := by
  intro H enc w base spare held fuel cs x hx
  obtain ⟨xs, n, _, _, hlen, hl, hi⟩ := DataW.trod_struct ht hx
  obtain ⟨v, hv, hI⟩ := hf H enc w base spare held n cs (by rw [hlen, hc]) (fun i fd hfd => by
    have hfd' : fs[i]? = some fd := by simpa using hfd
    have h1 := hi i fd hfd'
    have hlt : i < xs.length := by rw [hl]; exact (Array.getElem?_eq_some_iff.1 hfd').1
    rw [List.getElem?_eq_getElem hlt] at h1
    exact ⟨_, h1, Nat.zero_le _⟩)
  refine ⟨g v, ?_, ?_⟩
  · show k.K w (f (g v)) cs
    rw [hfg]
    exact hv
  · show I (f (g v))
    rw [hfg]
    exact hI
end
end Go.Proofs.YtmjedjhgomlfiaaGreatDoor

namespace Go.Proofs.YtmjedjhgomlfiaaGreatDoor
open Go.RowKit Go.ChangeShapes Go.WideShapes Go.Deep Go.Proofs.YtmjedjhgomlfiaaGreatDoorW.PrintWords

/-- None of the strings, slices and maps of a datum is greater than the form's reach. -/
def Light {H : Type} (P : Program) (t : TypeId) (d : DataW H) : Prop := (d.weights P t).all (· ≤ reachBytes) = true
def OpensW {α : Type} (P : Program) (t : TypeId) (k : Kd α) (I : α → Prop) : Prop :=
  ∀ (H : Type) (enc : TypeId × Value → H) (w : World) (base : Nat) (spare : Nat → Bool) (held : Bool) (fuel : Nat) (cs : List Value) (x : DataW H × List MemPlace),
    DataW.trod enc P w base spare held fuel t cs = some x → Light P t x.1 → ∃ v, k.K w v cs ∧ I v
theorem OpensW.of {α : Type} {P : Program} {t : TypeId} {k : Kd α} {I : α → Prop} (h : Opens P t k I) : OpensW P t k I := fun H enc w base spare held fuel cs x hx _ => h H enc w base spare held fuel cs x hx
theorem light_all {H : Type} {P : Program} {e : TypeId} : ∀ {l : List (DataW H)}, (DataW.weightsAll P e l).all (· ≤ reachBytes) = true → ∀ d ∈ l, Light P e d
  | [], _, d, hd => by cases hd
  | a :: r, h, d, hd => by
    rw [DataW.weightsAll, List.all_append, Bool.and_eq_true] at h
    rcases List.mem_cons.1 hd with e1 | hd
    · subst e1; exact h.1
    · exact light_all h.2 d hd
theorem light_slice {H : Type} {P : Program} {t e : TypeId} (ht : P.underlying t = some (.slice e)) {l s : List (DataW H)} (h : Light P t (.slice l s)) : (l.length + s.length) * P.bytesOf e ≤ reachBytes ∧ ∀ d ∈ l, Light P e d := by
  rw [Light, DataW.weights, ht] at h
  simp only [List.all_cons, List.all_append, Bool.and_eq_true, decide_eq_true_eq] at h
  exact ⟨h.1, light_all h.2.1⟩
theorem opens_sliceW {α : Type} {P : Program} {t e : TypeId} {d : Kd α} {I : α → Prop} (ht : P.underlying t = some (.slice e)) (hc : P.cellsOf e = d.sz) (hb : 0 < P.bytesOf e) (h : OpensW P e d I) :
    OpensW P t (Kd.slice e d) (fun xs => xs.length ≤ reachBytes ∧ ∀ (i : Nat) (x : α), xs[i]? = some x → I x) := by
  intro H enc w base spare held fuel cs x hx hw
  rcases open_slice ht hx with ⟨rfl, _⟩ | ⟨a, len, cap, m, n, D, Pl, rfl, hbb, hl, hcap, hmm, rfl, hi⟩
  · refine ⟨[], ⟨none, 0, rfl, Nat.le_refl _, ⟨rfl, by simp, fun h => absurd h (by simp)⟩⟩, Nat.zero_le _, fun i x hx => by simp at hx⟩
  · have hlm : len ≤ m := by rw [hmm]; split <;> omega
    obtain ⟨hwl, hwd⟩ := light_slice ht hw
    obtain ⟨xs, hlen, hxs⟩ := choose_below (α := α) (n := len) (p := fun i v => I v ∧ ∃ c, c.length = d.sz ∧ d.K w v c ∧ ∀ j u, c[j]? = some u → w.cell? (a.add (i * d.sz + j)) = some u) (fun i hil => by
      obtain ⟨cs', h1, h2⟩ := hi i (by omega)
      obtain ⟨v, hv, hI⟩ := h H enc w base spare held n cs' _ h2 (hwd _ (List.mem_map.2 ⟨i, List.mem_range.2 hil, rfl⟩))
      obtain ⟨_, hlc, hcell⟩ := World.cells?_some h1
      refine ⟨v, hI, cs', by rw [hlc, hc], hv, fun j u hu => ?_⟩
      have hj : j < P.cellsOf e := by rw [← hlc]; exact (List.getElem?_eq_some_iff.1 hu).1
      have := hcell j hj
      rw [Go.Deep.add_add, hc, hu] at this
      exact this)
    unfold maxLen at hcap
    have hll : len ≤ reachBytes := by
      rw [List.length_map, List.length_range] at hwl
      refine Nat.le_trans ?_ hwl
      exact Nat.le_trans (Nat.le_add_right len _) (Nat.le_mul_of_pos_right _ hb)
    refine ⟨xs, ⟨some a, cap, by rw [hlen], by omega, ⟨rfl, by omega, fun _ => ⟨a, rfl, fun j p hp => ?_⟩⟩⟩, by rw [hlen]; exact hll, fun i v hv => (hxs i v hv).1⟩
    obtain ⟨_, c, h1, h2, h3⟩ := hxs j p hp
    exact ⟨c, h1, h2, h3⟩
theorem cells3P : Tryz.prog.cellsOf 3 = 1 := by kernel_rfl
theorem cells9P : Tryz.prog.cellsOf 9 = 1 := by kernel_rfl
theorem cells39P : Tryz.prog.cellsOf 38 = 6 := by kernel_rfl
theorem cells57P : Tryz.prog.cellsOf 22 = 1 := by kernel_rfl
theorem cells60P : Tryz.prog.cellsOf 25 = 2 := by kernel_rfl
theorem bytes39P : 0 < Tryz.prog.bytesOf 38 := of_decide_eq_true (by kernel_rfl)
theorem bytes57P : 0 < Tryz.prog.bytesOf 22 := of_decide_eq_true (by kernel_rfl)
def OpV.ofTup (t : Int × Int × Int × Int × Int × ByteArray) : OpV := ⟨t.1, t.2.1, t.2.2.1, t.2.2.2.1, t.2.2.2.2.1, t.2.2.2.2.2⟩
theorem fields_consT {α β : Type} {P : Program} {f : Field} {fs : List Field} {k : Kd α} {k' : Kd β} (start total : Nat) (h : Opens P f.type k (fun _ => True)) (hs : f.offset = start) (hc : P.cellsOf f.type = 1) (hf : FieldsOpen P fs (start + 1) total k' (fun _ => True))
    (ho : ∀ g ∈ fs, start + 1 ≤ g.offset) : FieldsOpen P (f :: fs) start (1 + total) (Kd.pair k k') (fun _ => True) := by
  intro H enc w base spare held n cs hl hx
  obtain ⟨v, hv, _⟩ := fields_cons h hs hc hf ho H enc w base spare held n cs hl hx
  exact ⟨v, hv, trivial⟩
set_option maxRecDepth 100000 in
theorem opens_kOp : Opens Tryz.prog 38 kOp (fun _ => True) := by
  have oi : Opens Tryz.prog 3 (Kd.int .i64) (fun _ => True) := opens_imp (opens_int Tryz.underlying3) (fun _ _ => trivial)
  have os : Opens Tryz.prog 9 Kd.string (fun _ => True) := opens_imp (opens_string Tryz.underlying9) (fun _ _ => trivial)
  refine opens_imp (opens_struct (I := fun _ => True) Tryz.underlying38 cells39P ?_ OpV.tup OpV.ofTup (fun _ => rfl)) (fun _ h => h)
  refine fields_consT 0 5 oi rfl cells3P ?_ (by simp)
  refine fields_consT 1 4 oi rfl cells3P ?_ (by simp)
  refine fields_consT 2 3 oi rfl cells3P ?_ (by simp)
  refine fields_consT 3 2 oi rfl cells3P ?_ (by simp)
  refine fields_consT 4 1 oi rfl cells3P ?_ (by simp)
  exact fields_one os rfl cells9P
theorem opens_ops : OpensW Tryz.prog 22 kCalls (fun xs => xs.length ≤ reachBytes) := fun H enc w base spare held fuel cs x hx hw => by
  obtain ⟨v, hv, h, _⟩ := opens_sliceW Tryz.underlying22 cells39P bytes39P (OpensW.of opens_kOp) H enc w base spare held fuel cs x hx hw
  exact ⟨v, hv, h⟩
theorem opens_calls : OpensW Tryz.prog 23 (Kd.slice 22 kCalls) (fun xs => xs.length ≤ reachBytes ∧ ∀ (i : Nat) (x : List OpV), xs[i]? = some x → x.length ≤ reachBytes) := opens_sliceW Tryz.underlying23 cells57P bytes57P opens_ops
set_option maxRecDepth 100000 in
theorem prog_of_trod {H : Type} {enc : TypeId × Value → H} {w : World} {base : Nat} {spare : Nat → Bool} {held : Bool} {fuel : Nat} {cs : List Value} {x : DataW H × List MemPlace} (h : DataW.trod enc Tryz.prog w base spare held fuel 25 cs = some x) (hw : Light Tryz.prog 25 x.1) :
    ∃ (p : ProgV) (vm vc : Value), cs = [vm, vc] ∧ ReadsP w vm vc p ∧ p.main.length ≤ 140737488355328 ∧ ∀ l ∈ p.calls, l.length ≤ 140737488355328 := by
  obtain ⟨xs, n, _, hxe, hlen, hl, hi⟩ := DataW.trod_struct Tryz.underlying25 h
  rw [cells60P] at hlen
  match cs, hlen with
  | [vm, vc], _ =>
    match xs, hl with
    | [y, z], _ =>
      have h0 := hi 0 _ rfl
      have h1 := hi 1 _ rfl
      have hw2 : (DataW.weightsEach Tryz.prog [22, 23] [y.1, z.1]).all (· ≤ reachBytes) = true := by
        rw [hxe, Light, DataW.weights, Tryz.underlying25] at hw
        exact hw
      rw [DataW.weightsEach, DataW.weightsEach, List.all_append, List.all_append, Bool.and_eq_true, Bool.and_eq_true] at hw2
      obtain ⟨m, hm, hml⟩ := opens_ops H enc w base spare held n [vm] y h0 hw2.1
      obtain ⟨cl, hc, hcl, hcx⟩ := opens_calls H enc w base spare held n [vc] z h1 hw2.2.1
      obtain ⟨A, c, e1, hle1, hC1⟩ := hm
      obtain ⟨B, d, e2, hle2, hC2⟩ := hc
      have hr : reachBytes ≤ 140737488355328 := by decide
      injection e1 with e1 _
      injection e2 with e2 _
      refine ⟨⟨m, cl⟩, vm, vc, rfl, ⟨A, c, B, d, e1, e2, hC1, hC2⟩, Nat.le_trans hml hr, fun l hl => ?_⟩
      obtain ⟨k, hk⟩ := List.getElem?_of_mem hl
      exact Nat.le_trans (hcx k l hk) hr
theorem light_head {H : Type} {P : Program} {t : TypeId} {ts : List TypeId} {d : DataW H} {r : List (DataW H)} (h : (DataW.weightsEach P (t :: ts) (d :: r)).all (· ≤ reachBytes) = true) : Light P t d := by
  rw [DataW.weightsEach, List.all_append, Bool.and_eq_true] at h
  exact h.1
end Go.Proofs.YtmjedjhgomlfiaaGreatDoor
