/- An entry, a step, a turn of a row that is read: by a natural index and a name of its own. -/
import Derived.Deep.Slices
import Derived.Test.YtmjedjhgomlfiaaPAuditTellsx0
namespace Go.Proofs.Ytmjedjhgomlfiaa.PAuditTells
open Go.RowKit Go.Proofs.YtmjedjhgomlfiaaW.PrintWords

theorem row_T34 {w : World} {A : Option Addr} {m : Nat} {xs : List S34} (h : Kd.C k34 w A m xs) (j : Nat) (hj : j < m) :
    ∃ (ad : Addr) (e : S34) (cs : List Value) (A7 : Option Addr) (c7 : Nat), A = some ad ∧ Hid (xs[j]? = some e) ∧ (∀ i v, cs[i]? = some v → w.cell? ((ad.add (j * 19)).add i) = some v) ∧ cs.length = 19 ∧ (∀ u ∈ cs, u.oneCell' = true) ∧ cs[0]? = some (.int .i64 e.f0) ∧ cs[1]? = some (.int .i64 e.f1) ∧ cs[2]? = some (.int .i64 e.f2) ∧ cs[3]? = some (.int .i64 e.f3) ∧ cs[4]? = some (.int .i64 e.f4) ∧ cs[5]? = some (.int .i64 e.f5) ∧ cs[6]? = some (.int .i64 e.f6) ∧ cs[7]? = some (.slice A7 e.f7.length c7) ∧ cs[8]? = some (.bool e.f8.f0) ∧ cs[9]? = some (.bool e.f8.f1) ∧ cs[10]? = some (.bool e.f8.f2) ∧ cs[11]? = some (.bool e.f8.f3) ∧ cs[12]? = some (.bool e.f8.f4) ∧ cs[13]? = some (.bool e.f8.f5) ∧ cs[14]? = some (.bool e.f8.f6) ∧ cs[15]? = some (.bool e.f8.f7) ∧ cs[16]? = some (.int .i64 e.f9) ∧ cs[17]? = some (.int .i64 e.f10) ∧ cs[18]? = some (.int .i64 e.f11) ∧ e.f7.length ≤ c7 ∧ (Kd.int .i64).C w A7 e.f7.length e.f7 := by
  obtain ⟨ad, c, hA, hl, hK, hc⟩ := Kd.C_get h z34 (j : Int) (by omega) (by omega)
  have hx : xs[j]? = some (xs.getD (j : Int).toNat z34) := by
    have hl : xs.length = m := h.1
    rw [Int.toNat_natCast, List.getD_eq_getElem?_getD, List.getElem?_eq_getElem (by omega)]
    rfl
  have h1 := Kd.K_one k34 hK
  obtain ⟨A7, c7, rfl, r0, r1⟩ := k34_open hK
  refine ⟨ad, _, _, _, _, hA, hx, fun i v hv => by rw [Go.Deep.add_add]; exact hc i v hv, rfl, h1, rfl, rfl, rfl, rfl, rfl, rfl, rfl, rfl, rfl, rfl, rfl, rfl, rfl, rfl, rfl, rfl, rfl, rfl, rfl, r0, r1⟩

theorem row_T57 {w : World} {A : Option Addr} {m : Nat} {xs : List S57} (h : Kd.C k57 w A m xs) (j : Nat) (hj : j < m) :
    ∃ (ad : Addr) (e : S57) (cs : List Value), A = some ad ∧ Hid (xs[j]? = some e) ∧ (∀ i v, cs[i]? = some v → w.cell? ((ad.add (j * 5)).add i) = some v) ∧ cs.length = 5 ∧ (∀ u ∈ cs, u.oneCell' = true) ∧ cs[0]? = some (.int .i64 e.f0) ∧ cs[1]? = some (.int .i64 e.f1) ∧ cs[2]? = some (.int .i64 e.f2) ∧ cs[3]? = some (.bool e.f3) ∧ cs[4]? = some (.bool e.f4) := by
  obtain ⟨ad, c, hA, hl, hK, hc⟩ := Kd.C_get h z57 (j : Int) (by omega) (by omega)
  have hx : xs[j]? = some (xs.getD (j : Int).toNat z57) := by
    have hl : xs.length = m := h.1
    rw [Int.toNat_natCast, List.getD_eq_getElem?_getD, List.getElem?_eq_getElem (by omega)]
    rfl
  have h1 := Kd.K_one k57 hK
  have hcs := k57_open hK
  subst hcs
  exact ⟨ad, _, _, hA, hx, fun i v hv => by rw [Go.Deep.add_add]; exact hc i v hv, rfl, h1, rfl, rfl, rfl, rfl, rfl⟩

theorem row_T55 {w : World} {A : Option Addr} {m : Nat} {xs : List S55} (h : Kd.C k55 w A m xs) (j : Nat) (hj : j < m) :
    ∃ (ad : Addr) (e : S55) (cs : List Value), A = some ad ∧ Hid (xs[j]? = some e) ∧ (∀ i v, cs[i]? = some v → w.cell? ((ad.add (j * 3)).add i) = some v) ∧ cs.length = 3 ∧ (∀ u ∈ cs, u.oneCell' = true) ∧ cs[0]? = some (.int .i64 e.f0) ∧ cs[1]? = some (.int .i64 e.f1) ∧ cs[2]? = some (.bool e.f2) := by
  obtain ⟨ad, c, hA, hl, hK, hc⟩ := Kd.C_get h z55 (j : Int) (by omega) (by omega)
  have hx : xs[j]? = some (xs.getD (j : Int).toNat z55) := by
    have hl : xs.length = m := h.1
    rw [Int.toNat_natCast, List.getD_eq_getElem?_getD, List.getElem?_eq_getElem (by omega)]
    rfl
  have h1 := Kd.K_one k55 hK
  have hcs := k55_open hK
  subst hcs
  exact ⟨ad, _, _, hA, hx, fun i v hv => by rw [Go.Deep.add_add]; exact hc i v hv, rfl, h1, rfl, rfl, rfl⟩

theorem el_T57 {w : World} {A : Option Addr} {n : Nat} {xs : List S57} (h : Kd.C k57 w A n xs) (j : Nat) (hj : j < n) :
    ∃ ad  e, A = some ad ∧ Hid (xs[j]? = some e) ∧ w.cell? (ad.add (j * 5)) = some (.int .i64 e.f0) ∧ w.cell? ⟨(ad.add (j * 5)).block, (ad.add (j * 5)).off + 1, none⟩ = some (.int .i64 e.f1) ∧ w.cell? ⟨(ad.add (j * 5)).block, (ad.add (j * 5)).off + 2, none⟩ = some (.int .i64 e.f2) ∧ w.cell? ⟨(ad.add (j * 5)).block, (ad.add (j * 5)).off + 3, none⟩ = some (.bool e.f3) ∧ w.cell? ⟨(ad.add (j * 5)).block, (ad.add (j * 5)).off + 4, none⟩ = some (.bool e.f4) := by
  have h1 := at_T57 h (j : Int) (by omega) (by omega)
  simp only [Int.toNat_natCast] at h1
  obtain ⟨ad, hA, rest⟩ := h1
  have hl : xs.length = n := h.1
  refine ⟨ad, rd_T57 xs (j : Int), hA, ?_, rest⟩
  show xs[j]? = some (xs.getD (j : Int).toNat _)
  rw [Int.toNat_natCast, List.getD_eq_getElem?_getD, List.getElem?_eq_getElem (by omega)]
  rfl

theorem el_T55 {w : World} {A : Option Addr} {n : Nat} {xs : List S55} (h : Kd.C k55 w A n xs) (j : Nat) (hj : j < n) :
    ∃ ad  e, A = some ad ∧ Hid (xs[j]? = some e) ∧ w.cell? (ad.add (j * 3)) = some (.int .i64 e.f0) ∧ w.cell? ⟨(ad.add (j * 3)).block, (ad.add (j * 3)).off + 1, none⟩ = some (.int .i64 e.f1) ∧ w.cell? ⟨(ad.add (j * 3)).block, (ad.add (j * 3)).off + 2, none⟩ = some (.bool e.f2) := by
  have h1 := at_T55 h (j : Int) (by omega) (by omega)
  simp only [Int.toNat_natCast] at h1
  obtain ⟨ad, hA, rest⟩ := h1
  have hl : xs.length = n := h.1
  refine ⟨ad, rd_T55 xs (j : Int), hA, ?_, rest⟩
  show xs[j]? = some (xs.getD (j : Int).toNat _)
  rw [Int.toNat_natCast, List.getD_eq_getElem?_getD, List.getElem?_eq_getElem (by omega)]
  rfl

end Go.Proofs.Ytmjedjhgomlfiaa.PAuditTells
