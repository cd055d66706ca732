-- PRINTED BY print.sh 35421559b90ae4d0a3588c463048766b98c2df88dd9212a6774a882060cdf62d: not written by this session
import Derived.Test.YtmjedjhgomlfiaaProg
import Derived.Below
import Derived.Deep.Draws
import Derived.Deep.AppendLies
import Derived.Maps.AppendAt
import Derived.OwnWalk
import Derived.Laws.BytesArg
import Derived.Laws.MakeOwn
import Derived.Laws.OwnMore
import Derived.Deep.OwnRows
import Derived.Tactics
import Derived.Lib.ConvBytes
import Derived.Laws.Slices
import Derived.WalkKit
import Derived.KernelRfl
import Derived.RowKit3
import Derived.Deep.LoopGhost
import Derived.Deep.QuietTactic
import Derived.BigQuiet
import Derived.WideLaws
import Derived.Deep.DeepCutAuto
import Derived.Deep.CutBlock
import Derived.Deep.RegionHeld3
import Derived.Laws.Rows
import Derived.Lib.AppendStr
import Derived.ArgAppend
import Derived.Laws.IdiomCopy
import Derived.OrdersHeld
import Derived.Laws.BitsLemmas
import Derived.RowKit
import Derived.Test.YtmjedjhgomlfiaaWWords
import Derived.Test.YtmjedjhgomlfiaaWLast
import Derived.Test.YtmjedjhgomlfiaaWTab
import Derived.Test.YtmjedjhgomlfiaaWFour
import Derived.Test.YtmjedjhgomlfiaaWQPut
import Derived.Test.YtmjedjhgomlfiaaWApart
import Derived.Test.YtmjedjhgomlfiaaWArr
import Derived.Test.YtmjedjhgomlfiaaWZeros
import Derived.Test.YtmjedjhgomlfiaaWFoot
import Derived.Test.YtmjedjhgomlfiaaWKept
import Derived.Test.YtmjedjhgomlfiaaWShare
import Derived.Test.YtmjedjhgomlfiaaWN
import Derived.Test.YtmjedjhgomlfiaaWFootNe
import Derived.Test.YtmjedjhgomlfiaaWAt
import Derived.Test.YtmjedjhgomlfiaaWEqStruct
import Derived.Test.YtmjedjhgomlfiaaWRepsOne
import Derived.Test.YtmjedjhgomlfiaaWInv
import Derived.Test.YtmjedjhgomlfiaaWInvWords
import Derived.Test.YtmjedjhgomlfiaaWGuard
import Derived.Test.YtmjedjhgomlfiaaWNEv
import Derived.Test.YtmjedjhgomlfiaaWMore
namespace Go.Proofs.Ytmjedjhgomlfiaa.PAuditTells
open Go.RowKit Go.Proofs.YtmjedjhgomlfiaaW.PrintWords Go.Proofs.YtmjedjhgomlfiaaW.PrintLast Go.Proofs.YtmjedjhgomlfiaaW.PrintMore
attribute [local go_sem] max2_int min2_int max_two min_two max_three min_three max_four min_four   -- for this text's walks alone
set_option linter.unusedVariables false
set_option linter.unusedSimpArgs false



def errW : Option Int → Value
  | none => .nilIface
  | some c => .iface 0 (.int .i64 c)
theorem errW_none : errW none = .nilIface := rfl
theorem errW_some (c : Int) : errW (some c) = .iface 0 (.int .i64 c) := rfl

theorem info55 : (Try.prog.info? 55).map (fun i => (i.zero, i.size, i.bytes)) = some (some (.agg #[(.int .i64 0), (.int .i64 0), (.bool false)]), 3, 24) := by kernel_rfl
-- the values' own types
/-! #### struct type 57 -/
structure S57 where
  f0 : Int
  f1 : Int
  f2 : Int
  f3 : Bool
  f4 : Bool
def z57 : S57 := ⟨(0 : Int), (0 : Int), (0 : Int), false, false⟩
def k57 : Kd S57 := Kd.iso (Kd.pair (Kd.int .i64) (Kd.pair (Kd.int .i64) (Kd.pair (Kd.int .i64) (Kd.pair Kd.bool Kd.bool)))) (fun x : S57 => (x.f0, x.f1, x.f2, x.f3, x.f4))
theorem k57_open {w : World} {x : S57} {cs : List Value} (h : k57.K w x cs) : cs = [.int .i64 x.f0, .int .i64 x.f1, .int .i64 x.f2, .bool x.f3, .bool x.f4] := by
  obtain ⟨_, _, rfl, rfl, ⟨_, _, rfl, rfl, ⟨_, _, rfl, rfl, ⟨_, _, rfl, rfl, rfl⟩⟩⟩⟩ := h
  exact rfl
theorem k57_openM {w : World} {base : Nat} {ok : Nat → Prop} {x : S57} {cs : List Value} (h : k57.M w base ok x cs) : cs = [.int .i64 x.f0, .int .i64 x.f1, .int .i64 x.f2, .bool x.f3, .bool x.f4] := by
  obtain ⟨_, _, rfl, rfl, ⟨_, _, rfl, rfl, ⟨_, _, rfl, rfl, ⟨_, _, rfl, rfl, rfl⟩⟩⟩⟩ := h
  exact rfl
theorem k57_mk (w : World) (x : S57)  : k57.K w x [.int .i64 x.f0, .int .i64 x.f1, .int .i64 x.f2, .bool x.f3, .bool x.f4] := ⟨[.int .i64 x.f0], [.int .i64 x.f1, .int .i64 x.f2, .bool x.f3, .bool x.f4], rfl, rfl, ⟨[.int .i64 x.f1], [.int .i64 x.f2, .bool x.f3, .bool x.f4], rfl, rfl, ⟨[.int .i64 x.f2], [.bool x.f3, .bool x.f4], rfl, rfl, ⟨[.bool x.f3], [.bool x.f4], rfl, rfl, rfl⟩⟩⟩⟩
theorem k57_mkM (w : World) (base : Nat) (ok : Nat → Prop) (x : S57)  : k57.M w base ok x [.int .i64 x.f0, .int .i64 x.f1, .int .i64 x.f2, .bool x.f3, .bool x.f4] := ⟨[.int .i64 x.f0], [.int .i64 x.f1, .int .i64 x.f2, .bool x.f3, .bool x.f4], rfl, rfl, ⟨[.int .i64 x.f1], [.int .i64 x.f2, .bool x.f3, .bool x.f4], rfl, rfl, ⟨[.int .i64 x.f2], [.bool x.f3, .bool x.f4], rfl, rfl, ⟨[.bool x.f3], [.bool x.f4], rfl, rfl, rfl⟩⟩⟩⟩
def rd_T57 (xs : List S57) (i : Int) : S57 := xs.getD i.toNat z57
theorem at_T57 {w : World} {A : Option Addr} {n : Nat} {xs : List S57} (h : Kd.C k57 w A n xs) (i : Int) (h0 : 0 ≤ i) (h1 : i < n) : ∃ ad , A = some ad ∧ w.cell? (ad.add (i.toNat * 5)) = some (.int .i64 (rd_T57 xs i).f0) ∧ w.cell? ⟨(ad.add (i.toNat * 5)).block, (ad.add (i.toNat * 5)).off + 1, none⟩ = some (.int .i64 (rd_T57 xs i).f1) ∧ w.cell? ⟨(ad.add (i.toNat * 5)).block, (ad.add (i.toNat * 5)).off + 2, none⟩ = some (.int .i64 (rd_T57 xs i).f2) ∧ w.cell? ⟨(ad.add (i.toNat * 5)).block, (ad.add (i.toNat * 5)).off + 3, none⟩ = some (.bool (rd_T57 xs i).f3) ∧ w.cell? ⟨(ad.add (i.toNat * 5)).block, (ad.add (i.toNat * 5)).off + 4, none⟩ = some (.bool (rd_T57 xs i).f4) := by
  obtain ⟨ad, c, e, _, hK, hc0⟩ := Kd.C_get h z57 i h0 h1
  have hc : ∀ j u, c[j]? = some u → w.cell? (ad.add (i.toNat * 5 + j)) = some u := hc0
  obtain rfl := k57_open hK
  exact ⟨ad, e, hc 0 _ rfl, by rw [← add_field _ _ 1 (by omega)]; exact hc 1 _ rfl, by rw [← add_field _ _ 2 (by omega)]; exact hc 2 _ rfl, by rw [← add_field _ _ 3 (by omega)]; exact hc 3 _ rfl, by rw [← add_field _ _ 4 (by omega)]; exact hc 4 _ rfl⟩

/-! #### struct type 55 -/
structure S55 where
  f0 : Int
  f1 : Int
  f2 : Bool
def z55 : S55 := ⟨(0 : Int), (0 : Int), false⟩
def k55 : Kd S55 := Kd.iso (Kd.pair (Kd.int .i64) (Kd.pair (Kd.int .i64) Kd.bool)) (fun x : S55 => (x.f0, x.f1, x.f2))
theorem k55_open {w : World} {x : S55} {cs : List Value} (h : k55.K w x cs) : cs = [.int .i64 x.f0, .int .i64 x.f1, .bool x.f2] := by
  obtain ⟨_, _, rfl, rfl, ⟨_, _, rfl, rfl, rfl⟩⟩ := h
  exact rfl
theorem k55_openM {w : World} {base : Nat} {ok : Nat → Prop} {x : S55} {cs : List Value} (h : k55.M w base ok x cs) : cs = [.int .i64 x.f0, .int .i64 x.f1, .bool x.f2] := by
  obtain ⟨_, _, rfl, rfl, ⟨_, _, rfl, rfl, rfl⟩⟩ := h
  exact rfl
theorem k55_mk (w : World) (x : S55)  : k55.K w x [.int .i64 x.f0, .int .i64 x.f1, .bool x.f2] := ⟨[.int .i64 x.f0], [.int .i64 x.f1, .bool x.f2], rfl, rfl, ⟨[.int .i64 x.f1], [.bool x.f2], rfl, rfl, rfl⟩⟩
theorem k55_mkM (w : World) (base : Nat) (ok : Nat → Prop) (x : S55)  : k55.M w base ok x [.int .i64 x.f0, .int .i64 x.f1, .bool x.f2] := ⟨[.int .i64 x.f0], [.int .i64 x.f1, .bool x.f2], rfl, rfl, ⟨[.int .i64 x.f1], [.bool x.f2], rfl, rfl, rfl⟩⟩
def rd_T55 (xs : List S55) (i : Int) : S55 := xs.getD i.toNat z55
theorem at_T55 {w : World} {A : Option Addr} {n : Nat} {xs : List S55} (h : Kd.C k55 w A n xs) (i : Int) (h0 : 0 ≤ i) (h1 : i < n) : ∃ ad , A = some ad ∧ w.cell? (ad.add (i.toNat * 3)) = some (.int .i64 (rd_T55 xs i).f0) ∧ w.cell? ⟨(ad.add (i.toNat * 3)).block, (ad.add (i.toNat * 3)).off + 1, none⟩ = some (.int .i64 (rd_T55 xs i).f1) ∧ w.cell? ⟨(ad.add (i.toNat * 3)).block, (ad.add (i.toNat * 3)).off + 2, none⟩ = some (.bool (rd_T55 xs i).f2) := by
  obtain ⟨ad, c, e, _, hK, hc0⟩ := Kd.C_get h z55 i h0 h1
  have hc : ∀ j u, c[j]? = some u → w.cell? (ad.add (i.toNat * 3 + j)) = some u := hc0
  obtain rfl := k55_open hK
  exact ⟨ad, e, hc 0 _ rfl, by rw [← add_field _ _ 1 (by omega)]; exact hc 1 _ rfl, by rw [← add_field _ _ 2 (by omega)]; exact hc 2 _ rfl⟩

def rd_L4 (xs : List (List Int)) (i : Int) : (List Int) := xs.getD i.toNat ([] : List Int)
theorem at_L4 {w : World} {A : Option Addr} {n : Nat} {xs : List (List Int)} (h : Kd.C (Kd.slice 3 (Kd.int .i64)) w A n xs) (i : Int) (h0 : 0 ≤ i) (h1 : i < n) : ∃ ad A0 c0, A = some ad ∧ w.cell? (ad.add i.toNat) = some (.slice A0 (rd_L4 xs i).length c0) ∧ (rd_L4 xs i).length ≤ c0 ∧ (Kd.int .i64).C w A0 (rd_L4 xs i).length (rd_L4 xs i) := by
  obtain ⟨ad, c, e, _, hK, hc0⟩ := Kd.C_get h ([] : List Int) i h0 h1
  have hc : ∀ j u, c[j]? = some u → w.cell? (ad.add (i.toNat * 1 + j)) = some u := hc0
  obtain ⟨A0, c0, rfl, l0, g0⟩ := hK
  exact ⟨ad, A0, c0, e, by have hq := hc 0 _ rfl; rwa [Nat.mul_one, Nat.add_zero] at hq, l0, g0⟩

/-! #### struct type 31 -/
structure S31 where
  f0 : Bool
  f1 : Bool
  f2 : Bool
  f3 : Bool
  f4 : Bool
  f5 : Bool
  f6 : Bool
  f7 : Bool
def z31 : S31 := ⟨false, false, false, false, false, false, false, false⟩
def k31 : Kd S31 := Kd.iso (Kd.pair Kd.bool (Kd.pair Kd.bool (Kd.pair Kd.bool (Kd.pair Kd.bool (Kd.pair Kd.bool (Kd.pair Kd.bool (Kd.pair Kd.bool Kd.bool))))))) (fun x : S31 => (x.f0, x.f1, x.f2, x.f3, x.f4, x.f5, x.f6, x.f7))
theorem k31_open {w : World} {x : S31} {cs : List Value} (h : k31.K w x cs) : cs = [.bool x.f0, .bool x.f1, .bool x.f2, .bool x.f3, .bool x.f4, .bool x.f5, .bool x.f6, .bool x.f7] := by
  obtain ⟨_, _, rfl, rfl, ⟨_, _, rfl, rfl, ⟨_, _, rfl, rfl, ⟨_, _, rfl, rfl, ⟨_, _, rfl, rfl, ⟨_, _, rfl, rfl, ⟨_, _, rfl, rfl, rfl⟩⟩⟩⟩⟩⟩⟩ := h
  exact rfl
theorem k31_openM {w : World} {base : Nat} {ok : Nat → Prop} {x : S31} {cs : List Value} (h : k31.M w base ok x cs) : cs = [.bool x.f0, .bool x.f1, .bool x.f2, .bool x.f3, .bool x.f4, .bool x.f5, .bool x.f6, .bool x.f7] := by
  obtain ⟨_, _, rfl, rfl, ⟨_, _, rfl, rfl, ⟨_, _, rfl, rfl, ⟨_, _, rfl, rfl, ⟨_, _, rfl, rfl, ⟨_, _, rfl, rfl, ⟨_, _, rfl, rfl, rfl⟩⟩⟩⟩⟩⟩⟩ := h
  exact rfl
theorem k31_mk (w : World) (x : S31)  : k31.K w x [.bool x.f0, .bool x.f1, .bool x.f2, .bool x.f3, .bool x.f4, .bool x.f5, .bool x.f6, .bool x.f7] := ⟨[.bool x.f0], [.bool x.f1, .bool x.f2, .bool x.f3, .bool x.f4, .bool x.f5, .bool x.f6, .bool x.f7], rfl, rfl, ⟨[.bool x.f1], [.bool x.f2, .bool x.f3, .bool x.f4, .bool x.f5, .bool x.f6, .bool x.f7], rfl, rfl, ⟨[.bool x.f2], [.bool x.f3, .bool x.f4, .bool x.f5, .bool x.f6, .bool x.f7], rfl, rfl, ⟨[.bool x.f3], [.bool x.f4, .bool x.f5, .bool x.f6, .bool x.f7], rfl, rfl, ⟨[.bool x.f4], [.bool x.f5, .bool x.f6, .bool x.f7], rfl, rfl, ⟨[.bool x.f5], [.bool x.f6, .bool x.f7], rfl, rfl, ⟨[.bool x.f6], [.bool x.f7], rfl, rfl, rfl⟩⟩⟩⟩⟩⟩⟩
theorem k31_mkM (w : World) (base : Nat) (ok : Nat → Prop) (x : S31)  : k31.M w base ok x [.bool x.f0, .bool x.f1, .bool x.f2, .bool x.f3, .bool x.f4, .bool x.f5, .bool x.f6, .bool x.f7] := ⟨[.bool x.f0], [.bool x.f1, .bool x.f2, .bool x.f3, .bool x.f4, .bool x.f5, .bool x.f6, .bool x.f7], rfl, rfl, ⟨[.bool x.f1], [.bool x.f2, .bool x.f3, .bool x.f4, .bool x.f5, .bool x.f6, .bool x.f7], rfl, rfl, ⟨[.bool x.f2], [.bool x.f3, .bool x.f4, .bool x.f5, .bool x.f6, .bool x.f7], rfl, rfl, ⟨[.bool x.f3], [.bool x.f4, .bool x.f5, .bool x.f6, .bool x.f7], rfl, rfl, ⟨[.bool x.f4], [.bool x.f5, .bool x.f6, .bool x.f7], rfl, rfl, ⟨[.bool x.f5], [.bool x.f6, .bool x.f7], rfl, rfl, ⟨[.bool x.f6], [.bool x.f7], rfl, rfl, rfl⟩⟩⟩⟩⟩⟩⟩
def rd_T31 (xs : List S31) (i : Int) : S31 := xs.getD i.toNat z31
theorem at_T31 {w : World} {A : Option Addr} {n : Nat} {xs : List S31} (h : Kd.C k31 w A n xs) (i : Int) (h0 : 0 ≤ i) (h1 : i < n) : ∃ ad , A = some ad ∧ w.cell? (ad.add (i.toNat * 8)) = some (.bool (rd_T31 xs i).f0) ∧ w.cell? ⟨(ad.add (i.toNat * 8)).block, (ad.add (i.toNat * 8)).off + 1, none⟩ = some (.bool (rd_T31 xs i).f1) ∧ w.cell? ⟨(ad.add (i.toNat * 8)).block, (ad.add (i.toNat * 8)).off + 2, none⟩ = some (.bool (rd_T31 xs i).f2) ∧ w.cell? ⟨(ad.add (i.toNat * 8)).block, (ad.add (i.toNat * 8)).off + 3, none⟩ = some (.bool (rd_T31 xs i).f3) ∧ w.cell? ⟨(ad.add (i.toNat * 8)).block, (ad.add (i.toNat * 8)).off + 4, none⟩ = some (.bool (rd_T31 xs i).f4) ∧ w.cell? ⟨(ad.add (i.toNat * 8)).block, (ad.add (i.toNat * 8)).off + 5, none⟩ = some (.bool (rd_T31 xs i).f5) ∧ w.cell? ⟨(ad.add (i.toNat * 8)).block, (ad.add (i.toNat * 8)).off + 6, none⟩ = some (.bool (rd_T31 xs i).f6) ∧ w.cell? ⟨(ad.add (i.toNat * 8)).block, (ad.add (i.toNat * 8)).off + 7, none⟩ = some (.bool (rd_T31 xs i).f7) := by
  obtain ⟨ad, c, e, _, hK, hc0⟩ := Kd.C_get h z31 i h0 h1
  have hc : ∀ j u, c[j]? = some u → w.cell? (ad.add (i.toNat * 8 + j)) = some u := hc0
  obtain rfl := k31_open hK
  exact ⟨ad, e, hc 0 _ rfl, by rw [← add_field _ _ 1 (by omega)]; exact hc 1 _ rfl, by rw [← add_field _ _ 2 (by omega)]; exact hc 2 _ rfl, by rw [← add_field _ _ 3 (by omega)]; exact hc 3 _ rfl, by rw [← add_field _ _ 4 (by omega)]; exact hc 4 _ rfl, by rw [← add_field _ _ 5 (by omega)]; exact hc 5 _ rfl, by rw [← add_field _ _ 6 (by omega)]; exact hc 6 _ rfl, by rw [← add_field _ _ 7 (by omega)]; exact hc 7 _ rfl⟩

/-! #### struct type 34 -/
structure S34 where
  f0 : Int
  f1 : Int
  f2 : Int
  f3 : Int
  f4 : Int
  f5 : Int
  f6 : Int
  f7 : (List Int)
  f8 : S31
  f9 : Int
  f10 : Int
  f11 : Int
def z34 : S34 := ⟨(0 : Int), (0 : Int), (0 : Int), (0 : Int), (0 : Int), (0 : Int), (0 : Int), ([] : List Int), z31, (0 : Int), (0 : Int), (0 : Int)⟩
def k34 : Kd S34 := Kd.iso (Kd.pair (Kd.int .i64) (Kd.pair (Kd.int .i64) (Kd.pair (Kd.int .i64) (Kd.pair (Kd.int .i64) (Kd.pair (Kd.int .i64) (Kd.pair (Kd.int .i64) (Kd.pair (Kd.int .i64) (Kd.pair (Kd.slice 3 (Kd.int .i64)) (Kd.pair k31 (Kd.pair (Kd.int .i64) (Kd.pair (Kd.int .i64) (Kd.int .i64)))))))))))) (fun x : S34 => (x.f0, x.f1, x.f2, x.f3, x.f4, x.f5, x.f6, x.f7, x.f8, x.f9, x.f10, x.f11))
theorem k34_open {w : World} {x : S34} {cs : List Value} (h : k34.K w x cs) : ∃ A7 c7, cs = [.int .i64 x.f0, .int .i64 x.f1, .int .i64 x.f2, .int .i64 x.f3, .int .i64 x.f4, .int .i64 x.f5, .int .i64 x.f6, .slice A7 x.f7.length c7, .bool x.f8.f0, .bool x.f8.f1, .bool x.f8.f2, .bool x.f8.f3, .bool x.f8.f4, .bool x.f8.f5, .bool x.f8.f6, .bool x.f8.f7, .int .i64 x.f9, .int .i64 x.f10, .int .i64 x.f11] ∧ x.f7.length ≤ c7 ∧ (Kd.int .i64).C w A7 x.f7.length x.f7 := by
  obtain ⟨_, _, rfl, rfl, ⟨_, _, rfl, rfl, ⟨_, _, rfl, rfl, ⟨_, _, rfl, rfl, ⟨_, _, rfl, rfl, ⟨_, _, rfl, rfl, ⟨_, _, rfl, rfl, ⟨_, _, rfl, ⟨A7, c7, rfl, l7, g7⟩, ⟨_, _, rfl, s8, ⟨_, _, rfl, rfl, ⟨_, _, rfl, rfl, rfl⟩⟩⟩⟩⟩⟩⟩⟩⟩⟩⟩ := h
  obtain rfl := k31_open s8
  exact ⟨A7, c7, rfl, l7, g7⟩
theorem k34_openM {w : World} {base : Nat} {ok : Nat → Prop} {x : S34} {cs : List Value} (h : k34.M w base ok x cs) : ∃ v7, cs = [.int .i64 x.f0, .int .i64 x.f1, .int .i64 x.f2, .int .i64 x.f3, .int .i64 x.f4, .int .i64 x.f5, .int .i64 x.f6, v7, .bool x.f8.f0, .bool x.f8.f1, .bool x.f8.f2, .bool x.f8.f3, .bool x.f8.f4, .bool x.f8.f5, .bool x.f8.f6, .bool x.f8.f7, .int .i64 x.f9, .int .i64 x.f10, .int .i64 x.f11] ∧ (Kd.int .i64).R 3 w base ok v7 x.f7 := by
  obtain ⟨_, _, rfl, rfl, ⟨_, _, rfl, rfl, ⟨_, _, rfl, rfl, ⟨_, _, rfl, rfl, ⟨_, _, rfl, rfl, ⟨_, _, rfl, rfl, ⟨_, _, rfl, rfl, ⟨_, _, rfl, ⟨v7, rfl, g7⟩, ⟨_, _, rfl, s8, ⟨_, _, rfl, rfl, ⟨_, _, rfl, rfl, rfl⟩⟩⟩⟩⟩⟩⟩⟩⟩⟩⟩ := h
  obtain rfl := k31_openM s8
  exact ⟨v7, rfl, g7⟩
theorem k34_mk (w : World) (x : S34) {A7 : Option Addr} {c7 : Nat} (l7 : x.f7.length ≤ c7) (g7 : (Kd.int .i64).C w A7 x.f7.length x.f7) : k34.K w x [.int .i64 x.f0, .int .i64 x.f1, .int .i64 x.f2, .int .i64 x.f3, .int .i64 x.f4, .int .i64 x.f5, .int .i64 x.f6, .slice A7 x.f7.length c7, .bool x.f8.f0, .bool x.f8.f1, .bool x.f8.f2, .bool x.f8.f3, .bool x.f8.f4, .bool x.f8.f5, .bool x.f8.f6, .bool x.f8.f7, .int .i64 x.f9, .int .i64 x.f10, .int .i64 x.f11] := ⟨[.int .i64 x.f0], [.int .i64 x.f1, .int .i64 x.f2, .int .i64 x.f3, .int .i64 x.f4, .int .i64 x.f5, .int .i64 x.f6, .slice A7 x.f7.length c7, .bool x.f8.f0, .bool x.f8.f1, .bool x.f8.f2, .bool x.f8.f3, .bool x.f8.f4, .bool x.f8.f5, .bool x.f8.f6, .bool x.f8.f7, .int .i64 x.f9, .int .i64 x.f10, .int .i64 x.f11], rfl, rfl, ⟨[.int .i64 x.f1], [.int .i64 x.f2, .int .i64 x.f3, .int .i64 x.f4, .int .i64 x.f5, .int .i64 x.f6, .slice A7 x.f7.length c7, .bool x.f8.f0, .bool x.f8.f1, .bool x.f8.f2, .bool x.f8.f3, .bool x.f8.f4, .bool x.f8.f5, .bool x.f8.f6, .bool x.f8.f7, .int .i64 x.f9, .int .i64 x.f10, .int .i64 x.f11], rfl, rfl, ⟨[.int .i64 x.f2], [.int .i64 x.f3, .int .i64 x.f4, .int .i64 x.f5, .int .i64 x.f6, .slice A7 x.f7.length c7, .bool x.f8.f0, .bool x.f8.f1, .bool x.f8.f2, .bool x.f8.f3, .bool x.f8.f4, .bool x.f8.f5, .bool x.f8.f6, .bool x.f8.f7, .int .i64 x.f9, .int .i64 x.f10, .int .i64 x.f11], rfl, rfl, ⟨[.int .i64 x.f3], [.int .i64 x.f4, .int .i64 x.f5, .int .i64 x.f6, .slice A7 x.f7.length c7, .bool x.f8.f0, .bool x.f8.f1, .bool x.f8.f2, .bool x.f8.f3, .bool x.f8.f4, .bool x.f8.f5, .bool x.f8.f6, .bool x.f8.f7, .int .i64 x.f9, .int .i64 x.f10, .int .i64 x.f11], rfl, rfl, ⟨[.int .i64 x.f4], [.int .i64 x.f5, .int .i64 x.f6, .slice A7 x.f7.length c7, .bool x.f8.f0, .bool x.f8.f1, .bool x.f8.f2, .bool x.f8.f3, .bool x.f8.f4, .bool x.f8.f5, .bool x.f8.f6, .bool x.f8.f7, .int .i64 x.f9, .int .i64 x.f10, .int .i64 x.f11], rfl, rfl, ⟨[.int .i64 x.f5], [.int .i64 x.f6, .slice A7 x.f7.length c7, .bool x.f8.f0, .bool x.f8.f1, .bool x.f8.f2, .bool x.f8.f3, .bool x.f8.f4, .bool x.f8.f5, .bool x.f8.f6, .bool x.f8.f7, .int .i64 x.f9, .int .i64 x.f10, .int .i64 x.f11], rfl, rfl, ⟨[.int .i64 x.f6], [.slice A7 x.f7.length c7, .bool x.f8.f0, .bool x.f8.f1, .bool x.f8.f2, .bool x.f8.f3, .bool x.f8.f4, .bool x.f8.f5, .bool x.f8.f6, .bool x.f8.f7, .int .i64 x.f9, .int .i64 x.f10, .int .i64 x.f11], rfl, rfl, ⟨[.slice A7 x.f7.length c7], [.bool x.f8.f0, .bool x.f8.f1, .bool x.f8.f2, .bool x.f8.f3, .bool x.f8.f4, .bool x.f8.f5, .bool x.f8.f6, .bool x.f8.f7, .int .i64 x.f9, .int .i64 x.f10, .int .i64 x.f11], rfl, ⟨A7, c7, rfl, l7, g7⟩, ⟨[.bool x.f8.f0, .bool x.f8.f1, .bool x.f8.f2, .bool x.f8.f3, .bool x.f8.f4, .bool x.f8.f5, .bool x.f8.f6, .bool x.f8.f7], [.int .i64 x.f9, .int .i64 x.f10, .int .i64 x.f11], rfl, (k31_mk w x.f8 ), ⟨[.int .i64 x.f9], [.int .i64 x.f10, .int .i64 x.f11], rfl, rfl, ⟨[.int .i64 x.f10], [.int .i64 x.f11], rfl, rfl, rfl⟩⟩⟩⟩⟩⟩⟩⟩⟩⟩⟩
theorem k34_mkM (w : World) (base : Nat) (ok : Nat → Prop) (x : S34) {v7 : Value} (g7 : (Kd.int .i64).R 3 w base ok v7 x.f7) : k34.M w base ok x [.int .i64 x.f0, .int .i64 x.f1, .int .i64 x.f2, .int .i64 x.f3, .int .i64 x.f4, .int .i64 x.f5, .int .i64 x.f6, v7, .bool x.f8.f0, .bool x.f8.f1, .bool x.f8.f2, .bool x.f8.f3, .bool x.f8.f4, .bool x.f8.f5, .bool x.f8.f6, .bool x.f8.f7, .int .i64 x.f9, .int .i64 x.f10, .int .i64 x.f11] := ⟨[.int .i64 x.f0], [.int .i64 x.f1, .int .i64 x.f2, .int .i64 x.f3, .int .i64 x.f4, .int .i64 x.f5, .int .i64 x.f6, v7, .bool x.f8.f0, .bool x.f8.f1, .bool x.f8.f2, .bool x.f8.f3, .bool x.f8.f4, .bool x.f8.f5, .bool x.f8.f6, .bool x.f8.f7, .int .i64 x.f9, .int .i64 x.f10, .int .i64 x.f11], rfl, rfl, ⟨[.int .i64 x.f1], [.int .i64 x.f2, .int .i64 x.f3, .int .i64 x.f4, .int .i64 x.f5, .int .i64 x.f6, v7, .bool x.f8.f0, .bool x.f8.f1, .bool x.f8.f2, .bool x.f8.f3, .bool x.f8.f4, .bool x.f8.f5, .bool x.f8.f6, .bool x.f8.f7, .int .i64 x.f9, .int .i64 x.f10, .int .i64 x.f11], rfl, rfl, ⟨[.int .i64 x.f2], [.int .i64 x.f3, .int .i64 x.f4, .int .i64 x.f5, .int .i64 x.f6, v7, .bool x.f8.f0, .bool x.f8.f1, .bool x.f8.f2, .bool x.f8.f3, .bool x.f8.f4, .bool x.f8.f5, .bool x.f8.f6, .bool x.f8.f7, .int .i64 x.f9, .int .i64 x.f10, .int .i64 x.f11], rfl, rfl, ⟨[.int .i64 x.f3], [.int .i64 x.f4, .int .i64 x.f5, .int .i64 x.f6, v7, .bool x.f8.f0, .bool x.f8.f1, .bool x.f8.f2, .bool x.f8.f3, .bool x.f8.f4, .bool x.f8.f5, .bool x.f8.f6, .bool x.f8.f7, .int .i64 x.f9, .int .i64 x.f10, .int .i64 x.f11], rfl, rfl, ⟨[.int .i64 x.f4], [.int .i64 x.f5, .int .i64 x.f6, v7, .bool x.f8.f0, .bool x.f8.f1, .bool x.f8.f2, .bool x.f8.f3, .bool x.f8.f4, .bool x.f8.f5, .bool x.f8.f6, .bool x.f8.f7, .int .i64 x.f9, .int .i64 x.f10, .int .i64 x.f11], rfl, rfl, ⟨[.int .i64 x.f5], [.int .i64 x.f6, v7, .bool x.f8.f0, .bool x.f8.f1, .bool x.f8.f2, .bool x.f8.f3, .bool x.f8.f4, .bool x.f8.f5, .bool x.f8.f6, .bool x.f8.f7, .int .i64 x.f9, .int .i64 x.f10, .int .i64 x.f11], rfl, rfl, ⟨[.int .i64 x.f6], [v7, .bool x.f8.f0, .bool x.f8.f1, .bool x.f8.f2, .bool x.f8.f3, .bool x.f8.f4, .bool x.f8.f5, .bool x.f8.f6, .bool x.f8.f7, .int .i64 x.f9, .int .i64 x.f10, .int .i64 x.f11], rfl, rfl, ⟨[v7], [.bool x.f8.f0, .bool x.f8.f1, .bool x.f8.f2, .bool x.f8.f3, .bool x.f8.f4, .bool x.f8.f5, .bool x.f8.f6, .bool x.f8.f7, .int .i64 x.f9, .int .i64 x.f10, .int .i64 x.f11], rfl, ⟨v7, rfl, g7⟩, ⟨[.bool x.f8.f0, .bool x.f8.f1, .bool x.f8.f2, .bool x.f8.f3, .bool x.f8.f4, .bool x.f8.f5, .bool x.f8.f6, .bool x.f8.f7], [.int .i64 x.f9, .int .i64 x.f10, .int .i64 x.f11], rfl, (k31_mkM w base ok x.f8 ), ⟨[.int .i64 x.f9], [.int .i64 x.f10, .int .i64 x.f11], rfl, rfl, ⟨[.int .i64 x.f10], [.int .i64 x.f11], rfl, rfl, rfl⟩⟩⟩⟩⟩⟩⟩⟩⟩⟩⟩
def rd_T34 (xs : List S34) (i : Int) : S34 := xs.getD i.toNat z34
theorem at_T34 {w : World} {A : Option Addr} {n : Nat} {xs : List S34} (h : Kd.C k34 w A n xs) (i : Int) (h0 : 0 ≤ i) (h1 : i < n) : ∃ ad A7 c7, A = some ad ∧ w.cell? (ad.add (i.toNat * 19)) = some (.int .i64 (rd_T34 xs i).f0) ∧ w.cell? ⟨(ad.add (i.toNat * 19)).block, (ad.add (i.toNat * 19)).off + 1, none⟩ = some (.int .i64 (rd_T34 xs i).f1) ∧ w.cell? ⟨(ad.add (i.toNat * 19)).block, (ad.add (i.toNat * 19)).off + 2, none⟩ = some (.int .i64 (rd_T34 xs i).f2) ∧ w.cell? ⟨(ad.add (i.toNat * 19)).block, (ad.add (i.toNat * 19)).off + 3, none⟩ = some (.int .i64 (rd_T34 xs i).f3) ∧ w.cell? ⟨(ad.add (i.toNat * 19)).block, (ad.add (i.toNat * 19)).off + 4, none⟩ = some (.int .i64 (rd_T34 xs i).f4) ∧ w.cell? ⟨(ad.add (i.toNat * 19)).block, (ad.add (i.toNat * 19)).off + 5, none⟩ = some (.int .i64 (rd_T34 xs i).f5) ∧ w.cell? ⟨(ad.add (i.toNat * 19)).block, (ad.add (i.toNat * 19)).off + 6, none⟩ = some (.int .i64 (rd_T34 xs i).f6) ∧ w.cell? ⟨(ad.add (i.toNat * 19)).block, (ad.add (i.toNat * 19)).off + 7, none⟩ = some (.slice A7 (rd_T34 xs i).f7.length c7) ∧ w.cell? ⟨(ad.add (i.toNat * 19)).block, (ad.add (i.toNat * 19)).off + 8, none⟩ = some (.bool (rd_T34 xs i).f8.f0) ∧ w.cell? ⟨(ad.add (i.toNat * 19)).block, (ad.add (i.toNat * 19)).off + 9, none⟩ = some (.bool (rd_T34 xs i).f8.f1) ∧ w.cell? ⟨(ad.add (i.toNat * 19)).block, (ad.add (i.toNat * 19)).off + 10, none⟩ = some (.bool (rd_T34 xs i).f8.f2) ∧ w.cell? ⟨(ad.add (i.toNat * 19)).block, (ad.add (i.toNat * 19)).off + 11, none⟩ = some (.bool (rd_T34 xs i).f8.f3) ∧ w.cell? ⟨(ad.add (i.toNat * 19)).block, (ad.add (i.toNat * 19)).off + 12, none⟩ = some (.bool (rd_T34 xs i).f8.f4) ∧ w.cell? ⟨(ad.add (i.toNat * 19)).block, (ad.add (i.toNat * 19)).off + 13, none⟩ = some (.bool (rd_T34 xs i).f8.f5) ∧ w.cell? ⟨(ad.add (i.toNat * 19)).block, (ad.add (i.toNat * 19)).off + 14, none⟩ = some (.bool (rd_T34 xs i).f8.f6) ∧ w.cell? ⟨(ad.add (i.toNat * 19)).block, (ad.add (i.toNat * 19)).off + 15, none⟩ = some (.bool (rd_T34 xs i).f8.f7) ∧ w.cell? ⟨(ad.add (i.toNat * 19)).block, (ad.add (i.toNat * 19)).off + 16, none⟩ = some (.int .i64 (rd_T34 xs i).f9) ∧ w.cell? ⟨(ad.add (i.toNat * 19)).block, (ad.add (i.toNat * 19)).off + 17, none⟩ = some (.int .i64 (rd_T34 xs i).f10) ∧ w.cell? ⟨(ad.add (i.toNat * 19)).block, (ad.add (i.toNat * 19)).off + 18, none⟩ = some (.int .i64 (rd_T34 xs i).f11) ∧ (rd_T34 xs i).f7.length ≤ c7 ∧ (Kd.int .i64).C w A7 (rd_T34 xs i).f7.length (rd_T34 xs i).f7 := by
  obtain ⟨ad, c, e, _, hK, hc0⟩ := Kd.C_get h z34 i h0 h1
  have hc : ∀ j u, c[j]? = some u → w.cell? (ad.add (i.toNat * 19 + j)) = some u := hc0
  obtain ⟨A7, c7, rfl, l7, g7⟩ := k34_open hK
  exact ⟨ad, A7, c7, e, hc 0 _ rfl, by rw [← add_field _ _ 1 (by omega)]; exact hc 1 _ rfl, by rw [← add_field _ _ 2 (by omega)]; exact hc 2 _ rfl, by rw [← add_field _ _ 3 (by omega)]; exact hc 3 _ rfl, by rw [← add_field _ _ 4 (by omega)]; exact hc 4 _ rfl, by rw [← add_field _ _ 5 (by omega)]; exact hc 5 _ rfl, by rw [← add_field _ _ 6 (by omega)]; exact hc 6 _ rfl, by rw [← add_field _ _ 7 (by omega)]; exact hc 7 _ rfl, by rw [← add_field _ _ 8 (by omega)]; exact hc 8 _ rfl, by rw [← add_field _ _ 9 (by omega)]; exact hc 9 _ rfl, by rw [← add_field _ _ 10 (by omega)]; exact hc 10 _ rfl, by rw [← add_field _ _ 11 (by omega)]; exact hc 11 _ rfl, by rw [← add_field _ _ 12 (by omega)]; exact hc 12 _ rfl, by rw [← add_field _ _ 13 (by omega)]; exact hc 13 _ rfl, by rw [← add_field _ _ 14 (by omega)]; exact hc 14 _ rfl, by rw [← add_field _ _ 15 (by omega)]; exact hc 15 _ rfl, by rw [← add_field _ _ 16 (by omega)]; exact hc 16 _ rfl, by rw [← add_field _ _ 17 (by omega)]; exact hc 17 _ rfl, by rw [← add_field _ _ 18 (by omega)]; exact hc 18 _ rfl, l7, g7⟩

end Go.Proofs.Ytmjedjhgomlfiaa.PAuditTells
