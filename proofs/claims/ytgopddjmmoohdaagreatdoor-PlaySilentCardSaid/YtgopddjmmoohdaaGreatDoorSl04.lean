/- The texts of this seat, joined: part 4 of 25. -/
import Derived.Test.YtgopddjmmoohdaaGreatDoorProg
import Derived.Below
import Derived.Deep.Draws
import Derived.Deep.AppendLies
import Derived.Maps.AppendAt
import Derived.OwnWalk
import Derived.Laws.BytesArg
import Derived.Laws.MakeOwn
import Derived.Laws.OwnMore
import Derived.Deep.OwnRows
import Derived.Tactics
import Derived.Lib.ConvBytes
import Derived.Laws.Slices
import Derived.WalkKit
import Derived.KernelRfl
import Derived.RowKit3
import Derived.Deep.LoopGhost
import Derived.Deep.QuietTactic
import Derived.BigQuiet
import Derived.WideLaws
import Derived.Deep.DeepCutAuto
import Derived.Deep.CutBlock
import Derived.Deep.RegionHeld3
import Derived.Laws.Rows
import Derived.Lib.AppendStr
import Derived.ArgAppend
import Derived.Laws.IdiomCopy
import Derived.OrdersHeld
import Derived.Laws.BitsLemmas
import Derived.RowKit
import Derived.Test.YtgopddjmmoohdaaGreatDoorSl02
import Derived.Test.YtgopddjmmoohdaaGreatDoorSl01
import Derived.Test.YtgopddjmmoohdaaGreatDoorSl03
import Derived.Deep.WholeRow
import Derived.Shelf.Slices.Turned
import Derived.Ground.Names2Prog
import Derived.Shelf.Slices.Clone
import Derived.Ground.SlgnProg
import Derived.Shelf.SlicesE.Clone
import Derived.IntWalk
import Derived.Laws.CopyOwn
import Derived.Laws.RangeAny
namespace Go.Proofs.YtgopddjmmoohdaaGreatDoor.PPlaySilent
open Go.RowKit Go.Proofs.YtgopddjmmoohdaaGreatDoorW.PrintWords Go.Proofs.YtgopddjmmoohdaaGreatDoorW.PrintLast Go.Proofs.YtgopddjmmoohdaaGreatDoorW.PrintMore
attribute [local go_sem] max2_int min2_int max_two min_two max_three min_three max_four min_four   -- for this text's walks alone
set_option linter.unusedVariables false
set_option linter.unusedSimpArgs false



/-! #### struct type 39 -/
structure S39 where
  f0 : Int
  f1 : Int
  f2 : Int
  f3 : Int
  f4 : Int
  f5 : ByteArray
def z39 : S39 := ⟨(0 : Int), (0 : Int), (0 : Int), (0 : Int), (0 : Int), (⟨#[]⟩ : ByteArray)⟩
def k39 : Kd S39 := Kd.iso (Kd.pair (Kd.int .i64) (Kd.pair (Kd.int .i64) (Kd.pair (Kd.int .i64) (Kd.pair (Kd.int .i64) (Kd.pair (Kd.int .i64) Kd.string))))) (fun x : S39 => (x.f0, x.f1, x.f2, x.f3, x.f4, x.f5))
theorem k39_open {w : World} {x : S39} {cs : List Value} (h : k39.K w x cs) : cs = [.int .i64 x.f0, .int .i64 x.f1, .int .i64 x.f2, .int .i64 x.f3, .int .i64 x.f4, .string x.f5] := by
  obtain ⟨_, _, rfl, rfl, ⟨_, _, rfl, rfl, ⟨_, _, rfl, rfl, ⟨_, _, rfl, rfl, ⟨_, _, rfl, rfl, rfl⟩⟩⟩⟩⟩ := h
  exact rfl
theorem k39_mk (w : World) (x : S39)  : k39.K w x [.int .i64 x.f0, .int .i64 x.f1, .int .i64 x.f2, .int .i64 x.f3, .int .i64 x.f4, .string x.f5] := ⟨[.int .i64 x.f0], [.int .i64 x.f1, .int .i64 x.f2, .int .i64 x.f3, .int .i64 x.f4, .string x.f5], rfl, rfl, ⟨[.int .i64 x.f1], [.int .i64 x.f2, .int .i64 x.f3, .int .i64 x.f4, .string x.f5], rfl, rfl, ⟨[.int .i64 x.f2], [.int .i64 x.f3, .int .i64 x.f4, .string x.f5], rfl, rfl, ⟨[.int .i64 x.f3], [.int .i64 x.f4, .string x.f5], rfl, rfl, ⟨[.int .i64 x.f4], [.string x.f5], rfl, rfl, rfl⟩⟩⟩⟩⟩
theorem k39_mkM (w : World) (base : Nat) (ok : Nat → Prop) (x : S39)  : k39.M w base ok x [.int .i64 x.f0, .int .i64 x.f1, .int .i64 x.f2, .int .i64 x.f3, .int .i64 x.f4, .string x.f5] := ⟨[.int .i64 x.f0], [.int .i64 x.f1, .int .i64 x.f2, .int .i64 x.f3, .int .i64 x.f4, .string x.f5], rfl, rfl, ⟨[.int .i64 x.f1], [.int .i64 x.f2, .int .i64 x.f3, .int .i64 x.f4, .string x.f5], rfl, rfl, ⟨[.int .i64 x.f2], [.int .i64 x.f3, .int .i64 x.f4, .string x.f5], rfl, rfl, ⟨[.int .i64 x.f3], [.int .i64 x.f4, .string x.f5], rfl, rfl, ⟨[.int .i64 x.f4], [.string x.f5], rfl, rfl, rfl⟩⟩⟩⟩⟩
/-! #### struct type 115 -/
structure S115 where
  f0 : Int
  f1 : Int
  f2 : Int
  f3 : Int
  f4 : Int
  f5 : Bool
  f6 : ByteArray
  f7 : ByteArray
  f8 : (List Int)
def z115 : S115 := ⟨(0 : Int), (0 : Int), (0 : Int), (0 : Int), (0 : Int), false, (⟨#[]⟩ : ByteArray), (⟨#[]⟩ : ByteArray), ([] : List Int)⟩
def k115 : Kd S115 := Kd.iso (Kd.pair (Kd.int .i64) (Kd.pair (Kd.int .i64) (Kd.pair (Kd.int .i64) (Kd.pair (Kd.int .i64) (Kd.pair (Kd.int .i64) (Kd.pair Kd.bool (Kd.pair Kd.string (Kd.pair Kd.string (Kd.slice 3 (Kd.int .i64)))))))))) (fun x : S115 => (x.f0, x.f1, x.f2, x.f3, x.f4, x.f5, x.f6, x.f7, x.f8))
theorem k115_open {w : World} {x : S115} {cs : List Value} (h : k115.K w x cs) : ∃ A8 c8, cs = [.int .i64 x.f0, .int .i64 x.f1, .int .i64 x.f2, .int .i64 x.f3, .int .i64 x.f4, .bool x.f5, .string x.f6, .string x.f7, .slice A8 x.f8.length c8] ∧ x.f8.length ≤ c8 ∧ (Kd.int .i64).C w A8 x.f8.length x.f8 := by
  obtain ⟨_, _, rfl, rfl, ⟨_, _, rfl, rfl, ⟨_, _, rfl, rfl, ⟨_, _, rfl, rfl, ⟨_, _, rfl, rfl, ⟨_, _, rfl, rfl, ⟨_, _, rfl, rfl, ⟨_, _, rfl, rfl, ⟨A8, c8, rfl, l8, g8⟩⟩⟩⟩⟩⟩⟩⟩⟩ := h
  exact ⟨A8, c8, rfl, l8, g8⟩
theorem k115_mk (w : World) (x : S115) {A8 : Option Addr} {c8 : Nat} (l8 : x.f8.length ≤ c8) (g8 : (Kd.int .i64).C w A8 x.f8.length x.f8) : k115.K w x [.int .i64 x.f0, .int .i64 x.f1, .int .i64 x.f2, .int .i64 x.f3, .int .i64 x.f4, .bool x.f5, .string x.f6, .string x.f7, .slice A8 x.f8.length c8] := ⟨[.int .i64 x.f0], [.int .i64 x.f1, .int .i64 x.f2, .int .i64 x.f3, .int .i64 x.f4, .bool x.f5, .string x.f6, .string x.f7, .slice A8 x.f8.length c8], rfl, rfl, ⟨[.int .i64 x.f1], [.int .i64 x.f2, .int .i64 x.f3, .int .i64 x.f4, .bool x.f5, .string x.f6, .string x.f7, .slice A8 x.f8.length c8], rfl, rfl, ⟨[.int .i64 x.f2], [.int .i64 x.f3, .int .i64 x.f4, .bool x.f5, .string x.f6, .string x.f7, .slice A8 x.f8.length c8], rfl, rfl, ⟨[.int .i64 x.f3], [.int .i64 x.f4, .bool x.f5, .string x.f6, .string x.f7, .slice A8 x.f8.length c8], rfl, rfl, ⟨[.int .i64 x.f4], [.bool x.f5, .string x.f6, .string x.f7, .slice A8 x.f8.length c8], rfl, rfl, ⟨[.bool x.f5], [.string x.f6, .string x.f7, .slice A8 x.f8.length c8], rfl, rfl, ⟨[.string x.f6], [.string x.f7, .slice A8 x.f8.length c8], rfl, rfl, ⟨[.string x.f7], [.slice A8 x.f8.length c8], rfl, rfl, ⟨A8, c8, rfl, l8, g8⟩⟩⟩⟩⟩⟩⟩⟩⟩
theorem k115_openF {W : World} {ok : Nat → Prop} {x : S115} {cs : List Value} (h : Kd.FK k115 W ok x cs) : ∃ A8 c8, cs = [.int .i64 x.f0, .int .i64 x.f1, .int .i64 x.f2, .int .i64 x.f3, .int .i64 x.f4, .bool x.f5, .string x.f6, .string x.f7, .slice A8 x.f8.length c8] ∧ x.f8.length ≤ c8 ∧ Kd.F (Kd.int .i64) W ok A8 x.f8.length x.f8 := by
  obtain ⟨A8, c8, rfl, l8, _⟩ := k115_open (Kd.FK_now h)
  exact ⟨A8, c8, rfl, l8, (fun W' hW => by obtain ⟨A8_, c8_, he, l8_, g8_⟩ := k115_open (h W' hW); injection (Option.some.inj (show some (Value.slice A8 x.f8.length c8) = some (Value.slice A8_ x.f8.length c8_) from congrArg (fun l => l[8]?) he)) with ha_ _ _; rw [ha_]; exact g8_)⟩
theorem k115_mkF (W : World) (ok : Nat → Prop) (x : S115) {A8 : Option Addr} {c8 : Nat} (l8 : x.f8.length ≤ c8) (g8 : Kd.F (Kd.int .i64) W ok A8 x.f8.length x.f8) : Kd.FK k115 W ok x [.int .i64 x.f0, .int .i64 x.f1, .int .i64 x.f2, .int .i64 x.f3, .int .i64 x.f4, .bool x.f5, .string x.f6, .string x.f7, .slice A8 x.f8.length c8] := fun W2 hW => k115_mk W2 x l8 (g8 W2 hW)
/-! #### struct type 34 -/
structure S34 where
  f0 : Bool
  f1 : Bool
  f2 : Bool
  f3 : Bool
  f4 : Bool
  f5 : Bool
  f6 : Bool
  f7 : Bool
def z34 : S34 := ⟨false, false, false, false, false, false, false, false⟩
def k34 : Kd S34 := Kd.iso (Kd.pair Kd.bool (Kd.pair Kd.bool (Kd.pair Kd.bool (Kd.pair Kd.bool (Kd.pair Kd.bool (Kd.pair Kd.bool (Kd.pair Kd.bool Kd.bool))))))) (fun x : S34 => (x.f0, x.f1, x.f2, x.f3, x.f4, x.f5, x.f6, x.f7))
theorem k34_open {w : World} {x : S34} {cs : List Value} (h : k34.K w x cs) : cs = [.bool x.f0, .bool x.f1, .bool x.f2, .bool x.f3, .bool x.f4, .bool x.f5, .bool x.f6, .bool x.f7] := by
  obtain ⟨_, _, rfl, rfl, ⟨_, _, rfl, rfl, ⟨_, _, rfl, rfl, ⟨_, _, rfl, rfl, ⟨_, _, rfl, rfl, ⟨_, _, rfl, rfl, ⟨_, _, rfl, rfl, rfl⟩⟩⟩⟩⟩⟩⟩ := h
  exact rfl
theorem k34_mk (w : World) (x : S34)  : k34.K w x [.bool x.f0, .bool x.f1, .bool x.f2, .bool x.f3, .bool x.f4, .bool x.f5, .bool x.f6, .bool x.f7] := ⟨[.bool x.f0], [.bool x.f1, .bool x.f2, .bool x.f3, .bool x.f4, .bool x.f5, .bool x.f6, .bool x.f7], rfl, rfl, ⟨[.bool x.f1], [.bool x.f2, .bool x.f3, .bool x.f4, .bool x.f5, .bool x.f6, .bool x.f7], rfl, rfl, ⟨[.bool x.f2], [.bool x.f3, .bool x.f4, .bool x.f5, .bool x.f6, .bool x.f7], rfl, rfl, ⟨[.bool x.f3], [.bool x.f4, .bool x.f5, .bool x.f6, .bool x.f7], rfl, rfl, ⟨[.bool x.f4], [.bool x.f5, .bool x.f6, .bool x.f7], rfl, rfl, ⟨[.bool x.f5], [.bool x.f6, .bool x.f7], rfl, rfl, ⟨[.bool x.f6], [.bool x.f7], rfl, rfl, rfl⟩⟩⟩⟩⟩⟩⟩
theorem k34_mkM (w : World) (base : Nat) (ok : Nat → Prop) (x : S34)  : k34.M w base ok x [.bool x.f0, .bool x.f1, .bool x.f2, .bool x.f3, .bool x.f4, .bool x.f5, .bool x.f6, .bool x.f7] := ⟨[.bool x.f0], [.bool x.f1, .bool x.f2, .bool x.f3, .bool x.f4, .bool x.f5, .bool x.f6, .bool x.f7], rfl, rfl, ⟨[.bool x.f1], [.bool x.f2, .bool x.f3, .bool x.f4, .bool x.f5, .bool x.f6, .bool x.f7], rfl, rfl, ⟨[.bool x.f2], [.bool x.f3, .bool x.f4, .bool x.f5, .bool x.f6, .bool x.f7], rfl, rfl, ⟨[.bool x.f3], [.bool x.f4, .bool x.f5, .bool x.f6, .bool x.f7], rfl, rfl, ⟨[.bool x.f4], [.bool x.f5, .bool x.f6, .bool x.f7], rfl, rfl, ⟨[.bool x.f5], [.bool x.f6, .bool x.f7], rfl, rfl, ⟨[.bool x.f6], [.bool x.f7], rfl, rfl, rfl⟩⟩⟩⟩⟩⟩⟩
/-! #### struct type 37 -/
structure S37 where
  f0 : Int
  f1 : Int
  f2 : Int
  f3 : Int
  f4 : Int
  f5 : Int
  f6 : Int
  f7 : (List Int)
  f8 : S34
  f9 : Int
  f10 : Int
  f11 : Int
def z37 : S37 := ⟨(0 : Int), (0 : Int), (0 : Int), (0 : Int), (0 : Int), (0 : Int), (0 : Int), ([] : List Int), z34, (0 : Int), (0 : Int), (0 : Int)⟩
def k37 : Kd S37 := Kd.iso (Kd.pair (Kd.int .i64) (Kd.pair (Kd.int .i64) (Kd.pair (Kd.int .i64) (Kd.pair (Kd.int .i64) (Kd.pair (Kd.int .i64) (Kd.pair (Kd.int .i64) (Kd.pair (Kd.int .i64) (Kd.pair (Kd.slice 3 (Kd.int .i64)) (Kd.pair k34 (Kd.pair (Kd.int .i64) (Kd.pair (Kd.int .i64) (Kd.int .i64)))))))))))) (fun x : S37 => (x.f0, x.f1, x.f2, x.f3, x.f4, x.f5, x.f6, x.f7, x.f8, x.f9, x.f10, x.f11))
theorem k37_open {w : World} {x : S37} {cs : List Value} (h : k37.K w x cs) : ∃ A7 c7, cs = [.int .i64 x.f0, .int .i64 x.f1, .int .i64 x.f2, .int .i64 x.f3, .int .i64 x.f4, .int .i64 x.f5, .int .i64 x.f6, .slice A7 x.f7.length c7, .bool x.f8.f0, .bool x.f8.f1, .bool x.f8.f2, .bool x.f8.f3, .bool x.f8.f4, .bool x.f8.f5, .bool x.f8.f6, .bool x.f8.f7, .int .i64 x.f9, .int .i64 x.f10, .int .i64 x.f11] ∧ x.f7.length ≤ c7 ∧ (Kd.int .i64).C w A7 x.f7.length x.f7 := by
  obtain ⟨_, _, rfl, rfl, ⟨_, _, rfl, rfl, ⟨_, _, rfl, rfl, ⟨_, _, rfl, rfl, ⟨_, _, rfl, rfl, ⟨_, _, rfl, rfl, ⟨_, _, rfl, rfl, ⟨_, _, rfl, ⟨A7, c7, rfl, l7, g7⟩, ⟨_, _, rfl, s8, ⟨_, _, rfl, rfl, ⟨_, _, rfl, rfl, rfl⟩⟩⟩⟩⟩⟩⟩⟩⟩⟩⟩ := h
  obtain rfl := k34_open s8
  exact ⟨A7, c7, rfl, l7, g7⟩
theorem k37_mk (w : World) (x : S37) {A7 : Option Addr} {c7 : Nat} (l7 : x.f7.length ≤ c7) (g7 : (Kd.int .i64).C w A7 x.f7.length x.f7) : k37.K w x [.int .i64 x.f0, .int .i64 x.f1, .int .i64 x.f2, .int .i64 x.f3, .int .i64 x.f4, .int .i64 x.f5, .int .i64 x.f6, .slice A7 x.f7.length c7, .bool x.f8.f0, .bool x.f8.f1, .bool x.f8.f2, .bool x.f8.f3, .bool x.f8.f4, .bool x.f8.f5, .bool x.f8.f6, .bool x.f8.f7, .int .i64 x.f9, .int .i64 x.f10, .int .i64 x.f11] := ⟨[.int .i64 x.f0], [.int .i64 x.f1, .int .i64 x.f2, .int .i64 x.f3, .int .i64 x.f4, .int .i64 x.f5, .int .i64 x.f6, .slice A7 x.f7.length c7, .bool x.f8.f0, .bool x.f8.f1, .bool x.f8.f2, .bool x.f8.f3, .bool x.f8.f4, .bool x.f8.f5, .bool x.f8.f6, .bool x.f8.f7, .int .i64 x.f9, .int .i64 x.f10, .int .i64 x.f11], rfl, rfl, ⟨[.int .i64 x.f1], [.int .i64 x.f2, .int .i64 x.f3, .int .i64 x.f4, .int .i64 x.f5, .int .i64 x.f6, .slice A7 x.f7.length c7, .bool x.f8.f0, .bool x.f8.f1, .bool x.f8.f2, .bool x.f8.f3, .bool x.f8.f4, .bool x.f8.f5, .bool x.f8.f6, .bool x.f8.f7, .int .i64 x.f9, .int .i64 x.f10, .int .i64 x.f11], rfl, rfl, ⟨[.int .i64 x.f2], [.int .i64 x.f3, .int .i64 x.f4, .int .i64 x.f5, .int .i64 x.f6, .slice A7 x.f7.length c7, .bool x.f8.f0, .bool x.f8.f1, .bool x.f8.f2, .bool x.f8.f3, .bool x.f8.f4, .bool x.f8.f5, .bool x.f8.f6, .bool x.f8.f7, .int .i64 x.f9, .int .i64 x.f10, .int .i64 x.f11], rfl, rfl, ⟨[.int .i64 x.f3], [.int .i64 x.f4, .int .i64 x.f5, .int .i64 x.f6, .slice A7 x.f7.length c7, .bool x.f8.f0, .bool x.f8.f1, .bool x.f8.f2, .bool x.f8.f3, .bool x.f8.f4, .bool x.f8.f5, .bool x.f8.f6, .bool x.f8.f7, .int .i64 x.f9, .int .i64 x.f10, .int .i64 x.f11], rfl, rfl, ⟨[.int .i64 x.f4], [.int .i64 x.f5, .int .i64 x.f6, .slice A7 x.f7.length c7, .bool x.f8.f0, .bool x.f8.f1, .bool x.f8.f2, .bool x.f8.f3, .bool x.f8.f4, .bool x.f8.f5, .bool x.f8.f6, .bool x.f8.f7, .int .i64 x.f9, .int .i64 x.f10, .int .i64 x.f11], rfl, rfl, ⟨[.int .i64 x.f5], [.int .i64 x.f6, .slice A7 x.f7.length c7, .bool x.f8.f0, .bool x.f8.f1, .bool x.f8.f2, .bool x.f8.f3, .bool x.f8.f4, .bool x.f8.f5, .bool x.f8.f6, .bool x.f8.f7, .int .i64 x.f9, .int .i64 x.f10, .int .i64 x.f11], rfl, rfl, ⟨[.int .i64 x.f6], [.slice A7 x.f7.length c7, .bool x.f8.f0, .bool x.f8.f1, .bool x.f8.f2, .bool x.f8.f3, .bool x.f8.f4, .bool x.f8.f5, .bool x.f8.f6, .bool x.f8.f7, .int .i64 x.f9, .int .i64 x.f10, .int .i64 x.f11], rfl, rfl, ⟨[.slice A7 x.f7.length c7], [.bool x.f8.f0, .bool x.f8.f1, .bool x.f8.f2, .bool x.f8.f3, .bool x.f8.f4, .bool x.f8.f5, .bool x.f8.f6, .bool x.f8.f7, .int .i64 x.f9, .int .i64 x.f10, .int .i64 x.f11], rfl, ⟨A7, c7, rfl, l7, g7⟩, ⟨[.bool x.f8.f0, .bool x.f8.f1, .bool x.f8.f2, .bool x.f8.f3, .bool x.f8.f4, .bool x.f8.f5, .bool x.f8.f6, .bool x.f8.f7], [.int .i64 x.f9, .int .i64 x.f10, .int .i64 x.f11], rfl, (k34_mk w x.f8 ), ⟨[.int .i64 x.f9], [.int .i64 x.f10, .int .i64 x.f11], rfl, rfl, ⟨[.int .i64 x.f10], [.int .i64 x.f11], rfl, rfl, rfl⟩⟩⟩⟩⟩⟩⟩⟩⟩⟩⟩
theorem k37_mkM (w : World) (base : Nat) (ok : Nat → Prop) (x : S37) {v7 : Value} (g7 : (Kd.int .i64).R 3 w base ok v7 x.f7) : k37.M w base ok x [.int .i64 x.f0, .int .i64 x.f1, .int .i64 x.f2, .int .i64 x.f3, .int .i64 x.f4, .int .i64 x.f5, .int .i64 x.f6, v7, .bool x.f8.f0, .bool x.f8.f1, .bool x.f8.f2, .bool x.f8.f3, .bool x.f8.f4, .bool x.f8.f5, .bool x.f8.f6, .bool x.f8.f7, .int .i64 x.f9, .int .i64 x.f10, .int .i64 x.f11] := ⟨[.int .i64 x.f0], [.int .i64 x.f1, .int .i64 x.f2, .int .i64 x.f3, .int .i64 x.f4, .int .i64 x.f5, .int .i64 x.f6, v7, .bool x.f8.f0, .bool x.f8.f1, .bool x.f8.f2, .bool x.f8.f3, .bool x.f8.f4, .bool x.f8.f5, .bool x.f8.f6, .bool x.f8.f7, .int .i64 x.f9, .int .i64 x.f10, .int .i64 x.f11], rfl, rfl, ⟨[.int .i64 x.f1], [.int .i64 x.f2, .int .i64 x.f3, .int .i64 x.f4, .int .i64 x.f5, .int .i64 x.f6, v7, .bool x.f8.f0, .bool x.f8.f1, .bool x.f8.f2, .bool x.f8.f3, .bool x.f8.f4, .bool x.f8.f5, .bool x.f8.f6, .bool x.f8.f7, .int .i64 x.f9, .int .i64 x.f10, .int .i64 x.f11], rfl, rfl, ⟨[.int .i64 x.f2], [.int .i64 x.f3, .int .i64 x.f4, .int .i64 x.f5, .int .i64 x.f6, v7, .bool x.f8.f0, .bool x.f8.f1, .bool x.f8.f2, .bool x.f8.f3, .bool x.f8.f4, .bool x.f8.f5, .bool x.f8.f6, .bool x.f8.f7, .int .i64 x.f9, .int .i64 x.f10, .int .i64 x.f11], rfl, rfl, ⟨[.int .i64 x.f3], [.int .i64 x.f4, .int .i64 x.f5, .int .i64 x.f6, v7, .bool x.f8.f0, .bool x.f8.f1, .bool x.f8.f2, .bool x.f8.f3, .bool x.f8.f4, .bool x.f8.f5, .bool x.f8.f6, .bool x.f8.f7, .int .i64 x.f9, .int .i64 x.f10, .int .i64 x.f11], rfl, rfl, ⟨[.int .i64 x.f4], [.int .i64 x.f5, .int .i64 x.f6, v7, .bool x.f8.f0, .bool x.f8.f1, .bool x.f8.f2, .bool x.f8.f3, .bool x.f8.f4, .bool x.f8.f5, .bool x.f8.f6, .bool x.f8.f7, .int .i64 x.f9, .int .i64 x.f10, .int .i64 x.f11], rfl, rfl, ⟨[.int .i64 x.f5], [.int .i64 x.f6, v7, .bool x.f8.f0, .bool x.f8.f1, .bool x.f8.f2, .bool x.f8.f3, .bool x.f8.f4, .bool x.f8.f5, .bool x.f8.f6, .bool x.f8.f7, .int .i64 x.f9, .int .i64 x.f10, .int .i64 x.f11], rfl, rfl, ⟨[.int .i64 x.f6], [v7, .bool x.f8.f0, .bool x.f8.f1, .bool x.f8.f2, .bool x.f8.f3, .bool x.f8.f4, .bool x.f8.f5, .bool x.f8.f6, .bool x.f8.f7, .int .i64 x.f9, .int .i64 x.f10, .int .i64 x.f11], rfl, rfl, ⟨[v7], [.bool x.f8.f0, .bool x.f8.f1, .bool x.f8.f2, .bool x.f8.f3, .bool x.f8.f4, .bool x.f8.f5, .bool x.f8.f6, .bool x.f8.f7, .int .i64 x.f9, .int .i64 x.f10, .int .i64 x.f11], rfl, ⟨v7, rfl, g7⟩, ⟨[.bool x.f8.f0, .bool x.f8.f1, .bool x.f8.f2, .bool x.f8.f3, .bool x.f8.f4, .bool x.f8.f5, .bool x.f8.f6, .bool x.f8.f7], [.int .i64 x.f9, .int .i64 x.f10, .int .i64 x.f11], rfl, (k34_mkM w base ok x.f8 ), ⟨[.int .i64 x.f9], [.int .i64 x.f10, .int .i64 x.f11], rfl, rfl, ⟨[.int .i64 x.f10], [.int .i64 x.f11], rfl, rfl, rfl⟩⟩⟩⟩⟩⟩⟩⟩⟩⟩⟩
end Go.Proofs.YtgopddjmmoohdaaGreatDoor.PPlaySilent

/- Laws of the walk on whole structs, over any program: a struct is loaded from its cells, or stored into a block that was just made, without being written out. -/
namespace Go.Proofs.YtgopddjmmoohdaaGreatDoor
open Go.RowKit Go.Proofs.YtgopddjmmoohdaaGreatDoorW.PrintWords

theorem hide_ {p : Prop} (h : p) : Hid p := h

section
variable {P : Program}
theorem run_loadVar_list (w : World) (ad : Addr) (ty : TypeId) (cs : List Value) (d : TypeDesc) (hc : ∀ j v, cs[j]? = some v → w.cell? (ad.add j) = some v)
    (hu : P.underlying ty = some d) (hd : (match d with | .struct _ | .array _ _ => true | _ => false) = true) (hi : (P.info? ty).map (·.size) = some cs.length) :
    (loadVar ty ad).run P w = .ok (.agg cs.toArray) w := by
  have hl : (loadCells ad cs.length).run P w = .ok cs.toArray w := run_loadCells_list (P := P) w ad cs hc
  cases hq : P.info? ty with
  | none => simp [hq] at hi
  | some i =>
    have hs : i.size = cs.length := by simpa [hq] using hi
    have hagg : (isAgg ty).run P w = .ok true w := by
      unfold isAgg
      rw [Sem.run_bind, run_underlying hu w]
      cases d <;> simp_all
    simp [loadVar, Sem.run_bind, hagg, sizeOf, typeInfo, hq, hs, hl]

/-- A whole struct or array is loaded. -/
theorem wpList_load_list {ops : Array Oper} {rest : List Oper} {o : Oper} {a : Act} {w : World} {Q : Exit → Act → World → Prop} (hgd : o.guard = none) (ty : TypeId) (x : Operand) (ho : o.op = .load ty x)
    (ad : Addr) (hx : a.eval x = .pointer (some ad)) (cs : List Value) (d : TypeDesc) (hc : ∀ j v, cs[j]? = some v → w.cell? (ad.add j) = some v)
    (hu : P.underlying ty = some d) (hd : (match d with | .struct _ | .array _ _ => true | _ => false) = true) (hi : (P.info? ty).map (·.size) = some cs.length)
    (h : wpList P ops Q rest (a.put o.dst (.agg cs.toArray)) w) : wpList P ops Q (o :: rest) a w :=
  wpList_plain hgd fun _ hK => by
    unfold Oper.wp execOp
    simp only [ho, hx, Instr.loadAt, Instr.sureAddr, Sem.run_bind, Sem.run_pure, Result.andThen_ok, run_loadVar_list w ad ty cs d hc hu hd hi]
    exact hK _ _ h

end
end Go.Proofs.YtgopddjmmoohdaaGreatDoor

/- Two arrays of two whole numbers are equal just if both numbers are. -/
namespace Go.Proofs.YtgopddjmmoohdaaGreatDoor
open Go.RowKit

end Go.Proofs.YtgopddjmmoohdaaGreatDoor

/- The Go function audit.Within answers whether one list of pairs comes of another one by leaving out, and writes nothing that was there. -/
namespace Go.Proofs.YtgopddjmmoohdaaGreatDoor
open Go.RowKit Go.Proofs.YtgopddjmmoohdaaGreatDoorW.PrintWords

end Go.Proofs.YtgopddjmmoohdaaGreatDoor

/- The Go function towncrierlaw25.AuditParts answers true at every input, and writes nothing that was there. -/
namespace Go.Proofs.YtgopddjmmoohdaaGreatDoor
open Go.RowKit Go.Proofs.YtgopddjmmoohdaaGreatDoorW.PrintWords

end Go.Proofs.YtgopddjmmoohdaaGreatDoor

/-
  DERIVED: THE SHELF's CONTRACTS AT THIS DUMP, IN PLAIN WORDS (tools/lay-plain.mjs out of 'YtgopddjmmoohdaaGreatDoorShelf.lean', which tools/lay-shelf.mjs wrote): THE SAME DECLARATIONS UNDER THE SAME NAMES: 'import', 'namespace', 'open', 'def', 'theorem' AND NOTHING ELSE: no command of the shelf's: FOR A HAND-IN. Each laying: the table of numbers ('.._ren') and one theorem, a field a fact of the dump's own or the kernel's comparison; each contract: ONE APPLICATION.
-/
namespace Go.Proofs
open Go.Shelf
open Go.Lib in
def Tryz.lays107_ren : Go.Shelf.Ren := ⟨fun | 107 => 118 | 108 => 70 | n => n, fun | 28 => 32 | 3 => 3 | 4 => 4 | 0 => 0 | n => n, fun | n => n⟩
theorem Tryz.lays107 : Go.Proofs.Lays.n107 Tryz.prog Tryz.lays107_ren := {
  mixed := by kernel_rfl
  f107 := Tryz.func118.trans (congrArg some (by kernel_rfl))
  f108 := Tryz.func70.trans (congrArg some (by kernel_rfl))
  t0 := Tryz.underlying0
  a0 := Tryz.isAgg0
  z0 := Tryz.sizeOf0
  v0 := Tryz.zeroValue0
  t3 := Tryz.underlying3
  a3 := Tryz.isAgg3
  z3 := Tryz.sizeOf3
  v3 := Tryz.zeroValue3
  t4 := Tryz.underlying4
  a4 := Tryz.isAgg4
  z4 := Tryz.sizeOf4
  v4 := Tryz.zeroValue4
  t28 := Tryz.underlying32
  a28 := Tryz.isAgg32
  z28 := Tryz.sizeOf32
  v28 := Tryz.zeroValue32 }
open Go.Lib in
/-- slices.Contains at []int: "Contains reports whether v is present in s.": IT RETURNS 'elements.contains v'; the world is as it was. ITS CALLEE slices.Index IS MET BY ITS OWN CONTRACT OFF THE SHELF (lay that first): no loop is walked here. (LAID: no walk: one application.) -/
theorem Tryz.slices_Contains_int (b off n c : Nat) (zs : List Int) (x : Int) (w : World) (hz : n ≤ zs.length) (hbig : n ≤ 9223372036854775807) (hc : ∀ j, j < zs.length → w.cell? ⟨b, off + j, none⟩ = some (.int .i64 (zs.getD j 0))) :
    Calls Tryz.prog 118 #[.slice (some ⟨b, off, none⟩) n c, .int .i64 x] w fun e w' => e = .returned (.bool ((zs.take n).contains x)) ∧ w' = w := Any.slices_Contains_int Tryz.lays107 b off n c zs x w hz hbig hc
open Go.Lib in
/-- The same at a slice of length 0, a nil one too. (LAID: no walk: one application.) -/
theorem Tryz.slices_Contains_int_empty (a : Option Addr) (c : Nat) (x : Int) (w : World) :
    Calls Tryz.prog 118 #[.slice a 0 c, .int .i64 x] w fun e w' => e = .returned (.bool false) ∧ w' = w := Any.slices_Contains_int_empty Tryz.lays107 a c x w
def Tryz.laysNm215_ren : Go.Shelf.Ren := ⟨fun | 15 => 74 | n => n, fun | 22 => 32 | 3 => 3 | 4 => 4 | n => n, fun | n => n⟩
theorem Tryz.laysNm215 : Go.Proofs.Lays2.n15 Tryz.prog Tryz.laysNm215_ren := {
  mixed := by kernel_rfl
  f15 := Tryz.func74.trans (congrArg some (by kernel_rfl))
  t3 := Tryz.underlying3
  a3 := Tryz.isAgg3
  z3 := Tryz.sizeOf3
  v3 := Tryz.zeroValue3
  t4 := Tryz.underlying4
  a4 := Tryz.isAgg4
  z4 := Tryz.sizeOf4
  v4 := Tryz.zeroValue4
  t22 := Tryz.underlying32
  a22 := Tryz.isAgg32
  z22 := Tryz.sizeOf32
  v22 := Tryz.zeroValue32
  i3 := by kernel_rfl }
open Go.RowKit Go.Lib in
/-- slices.Clone at []int: "Clone returns a copy of the slice. The elements are copied using assignment, so this is a shallow clone. The result may have additional unused capacity. The result preserves the nilness of s.": OF A SLICE THAT IS NOT nil IT RETURNS A SLICE THAT IS NOT nil, OF THE SAME ELEMENTS, IN MEMORY OF THE CALL's OWN: in the how-to's words (6f): 'w'.ownsRow B e 1 v' n cells': v' begins at the head of a row among the blocks from B on (B: the heap's size at the call), not frozen, whose first cells are the elements · 'Below B w w'': below B all is as it was. The capacity is whatever the run-time gives. 'zs': what the cells behind the slice's address hold; 'zs.take n': its elements. (LAID: no walk: one application.) -/
theorem Tryz.slices_Clone_int (b off n c : Nat) (zs : List Int) (w : World) (hz : n ≤ zs.length) (hbig : n * 8 ≤ 140737488355328) (hc : ∀ j, j < zs.length → w.cell? ⟨b, off + j, none⟩ = some (.int .i64 (zs.getD j 0))) :
    Calls Tryz.prog 74 #[.slice (some ⟨b, off, none⟩) n c] w fun e w' => ∃ v', e = .returned v' ∧ w'.ownsRow w.heap.size 3 1 v' n ((zs.take n).map (Value.int .i64)) ∧ v' ≠ .slice none 0 0 ∧ Below w.heap.size w w' := Any.slices_Clone_int Tryz.laysNm215 b off n c zs w hz hbig hc
open Go.RowKit Go.Lib in
/-- The same at nil: nil comes back; the world is as it was. (LAID: no walk: one application.) -/
theorem Tryz.slices_Clone_int_nil (n c : Nat) (w : World) :
    Calls Tryz.prog 74 #[.slice none n c] w fun e w' => e = .returned (.slice none 0 0) ∧ w' = w := Any.slices_Clone_int_nil Tryz.laysNm215 n c w
open Go.RowKit Go.Lib in
/-- The same at a slice of length 0 that is not nil, WHATEVER ITS ADDRESS (no cell is asked for): a slice that is not nil and owns nothing comes back. (LAID: no walk: one application.) -/
theorem Tryz.slices_Clone_int_zero (a : Addr) (c : Nat) (w : World) :
    Calls Tryz.prog 74 #[.slice (some a) 0 c] w fun e w' => ∃ v', e = .returned v' ∧ w'.ownsRow w.heap.size 3 1 v' 0 [] ∧ v' ≠ .slice none 0 0 ∧ Below w.heap.size w w' := Any.slices_Clone_int_zero Tryz.laysNm215 a c w
end Go.Proofs

/- Forests that are read: at, Node, Len. -/
set_option linter.unusedSimpArgs false
namespace Go.Proofs.YtgopddjmmoohdaaGreatDoor
open Go.RowKit Go.Proofs.YtgopddjmmoohdaaGreatDoorW.PrintWords Go.Proofs.YtgopddjmmoohdaaGreatDoorW.PrintLast Go.Proofs.YtgopddjmmoohdaaGreatDoor.PPlaySilent

theorem alloc_new' {w : World} {k : Nat} {o : Obj} (h : w.heap.size = k) : (w.alloc o).heap[k]? = some o := h ▸ heap_alloc_new w o
theorem alloc_at {W : World} {k : Nat} {o : Obj} (h : W.heap[k]? = some o) (x : Obj) : (W.alloc x).heap[k]? = some o := blk_alloc h x
theorem cell_alloc_at {w : World} {a : Addr} {v : Value} (h : w.cell? a = some v) (o : Obj) : (w.alloc o).cell? a = some v := (World.cell?_alloc_lt _ _ _ (World.block_lt_of_cell? w a h)).trans h

/-- A forest that is read. -/
def FoR (w : World) (F : Nat) (l : List S115) : Prop := ∃ v base ok, w.heap[F]? = some (.cells #[v] 77 (0, 0)) ∧ Kd.N k115 115 w base ok v l ∧ l.length ≤ 128
theorem FoR.below {w w' : World} {F : Nat} {l : List S115} (h : FoR w F l) (hb : Below w.heap.size w w') : FoR w' F l := by
  obtain ⟨v, base, ok, h1, h2, h3⟩ := h
  exact ⟨v, base, ok, blk_below h1 hb, Kd.N_below h2 hb, h3⟩
/-- A node. -/
def nodeF (l : List S115) (id : Int) : Option S115 := if 1 ≤ id then l[(id - 1).toNat]? else none
theorem nodeF_some {l : List S115} {id : Int} {x : S115} (h : nodeF l id = some x) : ∃ j : Nat, id = ((j + 1 : Nat) : Int) ∧ j < l.length ∧ l[j]? = some x := by
  unfold nodeF at h
  split at h
  · obtain ⟨h1, _⟩ := List.getElem?_eq_some_iff.1 h
    exact ⟨(id - 1).toNat, by omega, h1, h⟩
  · cases h
theorem nodeF_none {l : List S115} {id : Int} (h : nodeF l id = none) : id < 1 ∨ (l.length : Int) < id := by
  unfold nodeF at h
  split at h
  · rw [List.getElem?_eq_none_iff] at h; omega
  · omega
theorem nodeF_at {l : List S115} {j : Nat} {x : S115} (h : l[j]? = some x) : nodeF l ((j + 1 : Nat) : Int) = some x := by
  unfold nodeF
  rw [if_pos (by omega), show (((j + 1 : Nat) : Int) - 1).toNat = j by omega, h]
/-- A node's cells. -/
theorem node_at {w : World} {F : Nat} {l : List S115} (h : FoR w F l) {j : Nat} {x : S115} (hx : l[j]? = some x) :
    ∃ g cap A8 c8, w.heap[F]? = some (.cells #[.slice (some ⟨g, 0, none⟩) l.length cap] 77 (0, 0)) ∧ w.cell? ⟨g, j * 9, none⟩ = some (.int .i64 x.f0) ∧ w.cell? ⟨g, j * 9 + 1, none⟩ = some (.int .i64 x.f1) ∧ w.cell? ⟨g, j * 9 + 2, none⟩ = some (.int .i64 x.f2) ∧ w.cell? ⟨g, j * 9 + 3, none⟩ = some (.int .i64 x.f3) ∧ w.cell? ⟨g, j * 9 + 4, none⟩ = some (.int .i64 x.f4) ∧
      w.cell? ⟨g, j * 9 + 5, none⟩ = some (.bool x.f5) ∧ w.cell? ⟨g, j * 9 + 6, none⟩ = some (.string x.f6) ∧ w.cell? ⟨g, j * 9 + 7, none⟩ = some (.string x.f7) ∧ w.cell? ⟨g, j * 9 + 8, none⟩ = some (.slice A8 x.f8.length c8) ∧ x.f8.length ≤ c8 ∧ (Kd.int .i64).C w A8 x.f8.length x.f8 := by
  obtain ⟨v, base, ok, h1, h2, h3⟩ := h
  have hj := (List.getElem?_eq_some_iff.1 hx).1
  obtain ⟨g, cap, rfl, _, _, _⟩ := Kd.N_form h2 (by omega)
  have hC := (Kd.N_reads' h2).2.2
  obtain ⟨ad, c, hA, hl, hK, hc0⟩ := Kd.C_get hC z115 (j : Int) (by omega) (by omega)
  obtain rfl := Option.some.inj hA
  rw [Int.toNat_natCast, List.getD_eq_getElem?_getD, hx] at hK
  rw [Int.toNat_natCast] at hc0
  have hK' : k115.K w x c := hK
  obtain ⟨A8, c8, rfl, l8, g8⟩ := k115_open hK'
  have hc : ∀ i u, ([.int .i64 x.f0, .int .i64 x.f1, .int .i64 x.f2, .int .i64 x.f3, .int .i64 x.f4, .bool x.f5, .string x.f6, .string x.f7, .slice A8 x.f8.length c8] : List Value)[i]? = some u → w.cell? ⟨g, j * 9 + i, none⟩ = some u := fun i u hi => by
    have := hc0 i u hi
    rwa [Go.Proofs.YtgopddjmmoohdaaGreatDoorW.PrintWords.add_plain] at this
  exact ⟨g, cap, A8, c8, h1, hc 0 _ rfl, hc 1 _ rfl, hc 2 _ rfl, hc 3 _ rfl, hc 4 _ rfl, hc 5 _ rfl, hc 6 _ rfl, hc 7 _ rfl, hc 8 _ rfl, l8, g8⟩

set_option maxRecDepth 100000 in
theorem at_none (F : Nat) (id : Int) (l : List S115) (w : World) (h : FoR w F l) (hn : nodeF l id = none) :
    Calls Tryz.prog 64 #[.pointer (some ⟨F, 0, none⟩), .int .i64 id] w fun e w' => e = .returned (.pointer none) ∧ w' = w := by
  obtain ⟨v, base, ok, h1, h2, h3⟩ := h
  obtain ⟨A, c, rfl⟩ := Kd.N_slice h2
  have z0 := blk_cell h1 0
  rcases nodeF_none hn with hi | hi
  · have q1 : id < 1 := hi
    clear hn h2
    go_enter Tryz.func64, Tryz.ntmps64
    go_wp2
    go_ret
    exact ⟨rfl, rfl⟩
  · have q1 : ¬ id < 1 := by omega
    have q2 : (l.length : Int) < id := hi
    clear hn h2
    go_enter Tryz.func64, Tryz.ntmps64
    go_wp2
    go_ret
    exact ⟨rfl, rfl⟩
set_option maxRecDepth 100000 in
theorem at_some (F j : Nat) (l : List S115) (w : World) (g cap : Nat) (h1 : w.heap[F]? = some (.cells #[.slice (some ⟨g, 0, none⟩) l.length cap] 77 (0, 0))) (hj : j < l.length) (h3 : l.length ≤ 128) :
    Calls Tryz.prog 64 #[.pointer (some ⟨F, 0, none⟩), .int .i64 ((j + 1 : Nat) : Int)] w fun e w' => e = .returned (.pointer (some ⟨g, j * 9, none⟩)) ∧ w' = w := by
  have z0 := blk_cell h1 0
  have q1 : ¬ ((j + 1 : Nat) : Int) < 1 := by omega
  have q2 : ¬ (l.length : Int) < ((j + 1 : Nat) : Int) := by omega
  go_enter Tryz.func64, Tryz.ntmps64
  go_wp2
  go_ret
  exact ⟨rfl, rfl⟩
end Go.Proofs.YtgopddjmmoohdaaGreatDoor

/- Forests that are read: Clone of numbers, Node. -/
set_option linter.unusedSimpArgs false
namespace Go.Proofs.YtgopddjmmoohdaaGreatDoor
open Go.RowKit Go.Proofs.YtgopddjmmoohdaaGreatDoorW.PrintWords Go.Proofs.YtgopddjmmoohdaaGreatDoorW.PrintLast Go.Proofs.YtgopddjmmoohdaaGreatDoor.PPlaySilent

section
variable {P : Program}
/-- A whole struct or array is stored into a block of its own. -/
theorem wpList_store_row {ops : Array Oper} {rest : List Oper} {o : Oper} {a : Act} {W : World} {Q : Exit → Act → World → Prop} (hgd : o.guard = none) (ty : TypeId) (x y : Operand) (ho : o.op = .store ty x y)
    (g : Nat) (t : TypeId) (cur E : Array Value) (hx : a.eval x = .pointer (some ⟨g, 0, none⟩)) (hy : a.eval y = .agg E) (hg : W.heap[g]? = some (.cells cur t (0, 0))) (hi : (P.info? ty).map (·.size) = some E.size) (hz : cur.size = E.size) (h1 : E.all (·.oneCell') = true)
    (h : ∀ w1, w1.heap[g]? = some (.cells E t (0, 0)) → (∀ k, k ≠ g → w1.heap[k]? = W.heap[k]?) → Below g W w1 → w1.heap.size = W.heap.size → wpList P ops Q rest (a.put o.dst undef) w1) :
    wpList P ops Q (o :: rest) a W :=
  wpList_plain hgd fun K hK => by
    have hst := run_storeVar_row (P := P) W g t ty cur E hg hi hz h1
    unfold Oper.wp execOp
    simp only [ho, hx, hy, Instr.storeAt, Instr.sureAddr, Sem.run_bind, Sem.run_pure, Result.andThen_ok, hst]
    exact hK _ _ (h _ (setRow_heap W g cur E t (0, 0) hg) (fun k hk => setRow_other W g k E hk) (below_setRow (Below.refl _ _) (Nat.le_refl _) E) (by simp))
end
theorem below_set_cell {w W : World} {base g : Nat} (h : Below base w W) (hg : base ≤ g) (j : Nat) (u : Value) : Below base w (W.setCell ⟨g, j, none⟩ u) := h.setCell hg u
theorem own_C {w : World} {base n : Nat} {v : Value} {xs : List Int} (h : w.ownsRow base 3 1 v n (xs.map (Value.int .i64))) (hl : xs.length = n) : ∃ A c, v = .slice A n c ∧ n ≤ c ∧ (Kd.int .i64).C w A n xs ∧ (Kd.int .i64).R 3 w base (fun _ => True) v xs := by
  have hR : (Kd.int .i64).R 3 w base (fun _ => True) v xs := by
    refine ⟨fun _ _ => trivial, xs.map (Value.int .i64), by rw [hl]; exact h, by simp [Kd.int, Kd.scalar], fun j p hj => ?_⟩
    show _ = _
    have hj' := (List.getElem?_eq_some_iff.1 hj)
    simp [Kd.int, Kd.scalar]
    rw [List.take_one]
    simp [hj]
  subst hl
  obtain ⟨A, c, rfl, hc, hC⟩ := Kd.R_reads hR
  exact ⟨A, c, rfl, hc, hC, hR⟩
theorem add_off (b o j : Nat) : (⟨b, o, none⟩ : Addr).add j = ⟨b, o + j, none⟩ := by unfold Addr.add; split <;> simp_all
theorem ints_cells {w : World} {ad : Addr} {xs : List Int} (h : (Kd.int .i64).C w (some ad) xs.length xs) (hp : 0 < xs.length) : ∃ b off, ad = ⟨b, off, none⟩ ∧ ∀ j, j < xs.length → w.cell? ⟨b, off + j, none⟩ = some (.int .i64 (xs.getD j 0)) := by
  have hx : ∀ j, j < xs.length → w.cell? (ad.add j) = some (.int .i64 (xs.getD j 0)) := fun j hj => by
    obtain ⟨ad', c, e, _, hK, hc⟩ := Kd.C_get h 0 (j : Int) (by omega) (by omega)
    obtain rfl := Option.some.inj e
    rw [Int.toNat_natCast] at hK hc
    have hK' : c = [.int .i64 (xs.getD j 0)] := hK
    have := hc 0 _ (by rw [hK']; rfl)
    rwa [show j * (Kd.int .i64).sz + 0 = j from Nat.mul_one j] at this
  have h0 := hx 0 hp
  rw [show ad.add 0 = ad from rfl] at h0
  obtain ⟨b, off, spot⟩ := ad
  obtain rfl : spot = none := World.cell?_spot h0
  refine ⟨b, off, rfl, fun j hj => ?_⟩
  have := hx j hj
  rwa [add_off] at this
theorem clone_any (xs : List Int) (A : Option Addr) (c : Nat) (w : World) (h : (Kd.int .i64).C w A xs.length xs) (hl : xs.length * 8 ≤ 140737488355328) :
    Calls Tryz.prog 74 #[.slice A xs.length c] w fun e w' => ∃ A' c', e = .returned (.slice A' xs.length c') ∧ xs.length ≤ c' ∧ (Kd.int .i64).C w' A' xs.length xs ∧ (Kd.int .i64).R 3 w' w.heap.size (fun _ => True) (.slice A' xs.length c') xs ∧ Below w.heap.size w w' := by
  rcases Nat.eq_zero_or_pos xs.length with h0 | h0
  · obtain rfl : xs = [] := List.eq_nil_of_length_eq_zero h0
    cases A with
    | none =>
      refine (Tryz.slices_Clone_int_nil 0 c w).mono ?_
      rintro e w' ⟨rfl, rfl⟩
      exact ⟨none, 0, rfl, Nat.le_refl _, Kd.C_nil _ _, Kd.R_nil _ _ _ _ _, Below.refl _ _⟩
    | some ad =>
      refine (Tryz.slices_Clone_int_zero ad c w).mono ?_
      rintro e w' ⟨v, rfl, ho, _, hb⟩
      obtain ⟨A', c', rfl, hc, hC, hR⟩ := own_C (xs := []) ho rfl
      exact ⟨A', c', rfl, hc, hC, hR, hb⟩
  · obtain ⟨ad, rfl, _⟩ := h.2.2 h0
    obtain ⟨b, off, rfl, hcells⟩ := ints_cells h h0
    refine (Tryz.slices_Clone_int b off xs.length c xs w (Nat.le_refl _) hl hcells).mono ?_
    rintro e w' ⟨v, rfl, ho, _, hb⟩
    rw [List.take_length] at ho
    obtain ⟨A', c', rfl, hc, hC, hR⟩ := own_C ho rfl
    exact ⟨A', c', rfl, hc, hC, hR, hb⟩
theorem contains_any (xs : List Int) (x : Int) (A : Option Addr) (c : Nat) (w : World) (h : (Kd.int .i64).C w A xs.length xs) (hl : xs.length ≤ 9223372036854775807) :
    Calls Tryz.prog 118 #[.slice A xs.length c, .int .i64 x] w fun e w' => e = .returned (.bool (xs.contains x)) ∧ w' = w := by
  rcases Nat.eq_zero_or_pos xs.length with h0 | h0
  · obtain rfl : xs = [] := List.eq_nil_of_length_eq_zero h0
    exact Tryz.slices_Contains_int_empty A c x w
  · obtain ⟨ad, rfl, _⟩ := h.2.2 h0
    obtain ⟨b, off, rfl, hcells⟩ := ints_cells h h0
    have := Tryz.slices_Contains_int b off xs.length c xs x w (Nat.le_refl _) hl hcells
    rwa [List.take_length] at this

theorem two_new {w w1 : World} {o o' : Obj} (h : Below ((w.alloc o).alloc o').heap.size ((w.alloc o).alloc o') w1) : w1.heap[w.heap.size]? = some o ∧ w1.heap[w.heap.size + 1]? = some o' ∧ Below w.heap.size w w1 :=
  ⟨blk_below (alloc_at (alloc_new' rfl) _) h, blk_below (alloc_new' (by simp)) h, below_then (below_alloc (below_alloc (Below.refl _ w) _) _) (below_alloc (below_alloc (Below.refl _ w) _) _).size h⟩
def zeroN : Value := .agg #[.int .i64 0, .int .i64 0, .int .i64 0, .int .i64 0, .int .i64 0, .bool false, .string ⟨#[]⟩, .string ⟨#[]⟩, .slice none 0 0]
def nodeV (x : S115) (A : Option Addr) (c : Nat) : Value := .agg #[.int .i64 x.f0, .int .i64 x.f1, .int .i64 x.f2, .int .i64 x.f3, .int .i64 x.f4, .bool x.f5, .string x.f6, .string x.f7, .slice A x.f8.length c]
theorem info115 : (Tryz.prog.info? 115).map (·.size) = some 9 := by kernel_rfl
theorem results_node {tmps : Array Value} {w : World} {g : Nat} {cs : Array Value} {b : Value} (hp : tmps.getD 4 undef = .pointer (some ⟨g, 0, none⟩)) (hg : w.heap[g]? = some (.cells cs 115 (0, 0))) (hs : cs.size = 9) (hb : tmps.getD 5 undef = b) :
    (results Tryz.f57 tmps).run Tryz.prog w = .ok (.tuple #[.agg cs, b]) w := by
  subst hb
  exact results_list (rs := [.cell 4 115, .tmp 5]) rfl (by simp) (.cell g 115 cs (0, 0) _ hp hg Tryz.underlying115 rfl (by rw [info115, hs]) (.tmp .nil))
set_option maxRecDepth 100000 in
theorem node_none (F : Nat) (id : Int) (l : List S115) (w : World) (h : FoR w F l) (hn : nodeF l id = none) :
    Calls Tryz.prog 57 #[.pointer (some ⟨F, 0, none⟩), .int .i64 id] w fun e w' => e = .returned (.tuple #[zeroN, .bool false]) ∧ Below w.heap.size w w' := by
  have hat := fun o => at_none F id l _ (h.below (below_alloc (Below.refl _ w) o)) hn
  go_enter Tryz.func57, Tryz.ntmps57
  go_wp2_with (go_at_call 64; refine (hat _).mono ?_; rintro e w1 ⟨rfl, rfl⟩)
  refine bodyPost_ret (results_node rfl (alloc_new' rfl) rfl rfl) rfl ?_
  exact ⟨rfl, below_alloc (Below.refl _ _) _⟩
set_option maxRecDepth 100000 in
set_option maxHeartbeats 1600000 in
theorem node_some (F j : Nat) (x : S115) (l : List S115) (w : World) (h : FoR w F l) (hx : l[j]? = some x) (hk : x.f8.length ≤ 100000) :
    Calls Tryz.prog 57 #[.pointer (some ⟨F, 0, none⟩), .int .i64 ((j + 1 : Nat) : Int)] w fun e w' => ∃ A c, e = .returned (.tuple #[nodeV x A c, .bool true]) ∧ x.f8.length ≤ c ∧ (Kd.int .i64).C w' A x.f8.length x.f8 ∧ Below w.heap.size w w' := by
  obtain ⟨g, cap, A8, c8, hF, k0, k1, k2, k3, k4, k5, k6, k7, k8, l8, g8⟩ := node_at h hx
  have hj := (List.getElem?_eq_some_iff.1 hx).1
  have h128 : l.length ≤ 128 := by obtain ⟨_, _, _, _, _, h3⟩ := h; exact h3
  have hat := fun o => at_some F j l (w.alloc o) g cap (alloc_at hF o) hj h128
  have HC : Hid (∀ i v, ([.int .i64 x.f0, .int .i64 x.f1, .int .i64 x.f2, .int .i64 x.f3, .int .i64 x.f4, .bool x.f5, .string x.f6, .string x.f7, .slice A8 x.f8.length c8] : List Value)[i]? = some v → w.cell? ((⟨g, j * 9, none⟩ : Addr).add i) = some v) := hide_ (by
    intro i v hi
    rw [add_off]
    have hlt : i < 9 := (List.getElem?_eq_some_iff.1 hi).1
    have : i = 0 ∨ i = 1 ∨ i = 2 ∨ i = 3 ∨ i = 4 ∨ i = 5 ∨ i = 6 ∨ i = 7 ∨ i = 8 := by omega
    rcases this with rfl | rfl | rfl | rfl | rfl | rfl | rfl | rfl | rfl
    all_goals (simp at hi; subst hi; assumption))
  have HB8 : Hid (w.cell? ⟨g, j * 9 + 8, none⟩ = some (.slice A8 x.f8.length c8)) := hide_ k8
  clear h hx k0 k1 k2 k3 k4 k5 k6 k7 k8
  go_enter Tryz.func57, Tryz.ntmps57
  go_wp2_with (first
    | (go_at_call 64; refine (hat _).mono ?_; rintro e w1 ⟨rfl, rfl⟩)
    | (refine gate_ (.load 115 (.tmp 15)) rfl ?_; refine wpList_load_list rfl 115 (.tmp 15) rfl _ rfl [.int .i64 x.f0, .int .i64 x.f1, .int .i64 x.f2, .int .i64 x.f3, .int .i64 x.f4, .bool x.f5, .string x.f6, .string x.f7, .slice A8 x.f8.length c8] _ (fun i v hi => cell_alloc_at (HC.out i v hi) _) Tryz.underlying115 rfl info115 ?_; have k8 := fun o o' => cell_alloc_at (cell_alloc_at HB8.out o) o')
    | (go_at_call 74; refine (clone_any x.f8 A8 c8 _ (Kd.C_below g8 (below_alloc (below_alloc (Below.refl _ w) _) _)) (by omega)).mono ?_; rintro e w4 ⟨A9, c9, rfl, l9, -, hR9, hB4⟩; obtain ⟨hX4, hX7, hBw⟩ := two_new hB4; have z8 := blk_cell hX7 8; have zf := blk_frozen hX7 8; have hX7' := blk_put hX7 8 (.slice A9 x.f8.length c9) (cs' := #[.int .i64 x.f0, .int .i64 x.f1, .int .i64 x.f2, .int .i64 x.f3, .int .i64 x.f4, .bool x.f5, .string x.f6, .string x.f7, .slice A9 x.f8.length c9]) rfl; have hX4' := (Below.heap_setCell w4 ⟨w.heap.size + 1, 8, none⟩ (.slice A9 x.f8.length c9) w.heap.size (by show w.heap.size ≠ w.heap.size + 1; omega)).trans hX4; clear k8)
    | (refine gate_ (.load 115 (.tmp 7)) rfl ?_; refine wpList_load_row rfl 115 (.tmp 7) rfl (w.heap.size + 1) rfl 115 _ (0, 0) _ hX7' Tryz.underlying115 rfl info115 ?_)
    | (refine gate_ (.store 115 (.tmp 4) (.tmp 23)) rfl ?_; refine wpList_store_row rfl 115 (.tmp 4) (.tmp 23) rfl w.heap.size 115 _ _ rfl rfl hX4' info115 rfl (by simp [Value.oneCell']) ?_; intro w5 hR5 hO5 hB5 _))
  refine bodyPost_ret (results_node rfl hR5 rfl rfl) rfl ?_
  have hR9' : (Kd.int .i64).R 3 w5 _ _ (.slice A9 x.f8.length c9) x.f8 := Kd.R_step (Kd.R_bound hR9) (fun k hk _ => by
    have h2 := hk.2.1
    simp at h2
    exact (hO5 k (by omega)).trans (Below.heap_setCell w4 ⟨w.heap.size + 1, 8, none⟩ _ k (by show k ≠ w.heap.size + 1; omega)))
  exact ⟨A9, c9, rfl, l9, (Kd.R_reads' hR9').2.2, (below_set_cell hBw (by omega) _ _).trans hB5⟩
end Go.Proofs.YtgopddjmmoohdaaGreatDoor

/- kin over forests: Up, Root, Above. -/
set_option linter.unusedSimpArgs false
namespace Go.Proofs.YtgopddjmmoohdaaGreatDoor
open Go.RowKit Go.Proofs.YtgopddjmmoohdaaGreatDoorW.PrintWords Go.Proofs.YtgopddjmmoohdaaGreatDoorW.PrintLast Go.Proofs.YtgopddjmmoohdaaGreatDoor.PPlaySilent

/-- From here up there are k nodes at most. -/
def Ends (l : List S115) : Nat → Int → Prop
  | 0, id => nodeF l id = none
  | k + 1, id => ∀ x, nodeF l id = some x → Ends l k x.f1
/-- A node, its parent, and so on. -/
def upF (l : List S115) : Nat → Int → List Int
  | 0, _ => []
  | k + 1, id => match nodeF l id with
    | none => []
    | some x => id :: upF l k x.f1
theorem upF_none {l : List S115} {id : Int} (h : nodeF l id = none) : ∀ k, upF l k id = []
  | 0 => rfl
  | k + 1 => by rw [upF, h]
theorem Ends.none {l : List S115} {id : Int} (h : nodeF l id = none) : ∀ k, Ends l k id
  | 0 => h
  | k + 1 => fun x hx => by rw [h] at hx; cases hx
theorem upF_length {l : List S115} : ∀ (k : Nat) (id : Int), (upF l k id).length ≤ k
  | 0, _ => Nat.le_refl _
  | k + 1, id => by
    rw [upF]
    split
    · simp
    · rw [List.length_cons]; have := upF_length (l := l) k; exact Nat.succ_le_succ (this _)

theorem info3 : (Tryz.prog.info? 3).map (fun i => (i.zero, i.size, i.bytes)) = some (some (.int .i64 0), 1, 8) := by kernel_rfl
set_option maxRecDepth 100000 in
set_option maxHeartbeats 1600000 in
theorem up_any (F : Nat) (id : Int) (l : List S115) (w : World) (h : FoR w F l) (hk : ∀ x ∈ l, x.f8.length ≤ 100000) (he : Ends l l.length id) :
    Calls Tryz.prog 140 #[.pointer (some ⟨F, 0, none⟩), .int .i64 id] w fun e w' => ∃ v, e = .returned v ∧ (Kd.int .i64).R 3 w' w.heap.size (fun _ => True) v (upF l l.length id) ∧ Below w.heap.size w w' := by
  have h128 : l.length ≤ 128 := by obtain ⟨_, _, _, _, _, h3⟩ := h; exact h3
  obtain ⟨N, hN⟩ : ∃ N, N = l.length := ⟨_, rfl⟩
  rw [← hN] at he ⊢
  have hN128 : N ≤ 128 := by omega
  clear hN
  go_enter Tryz.func140, Tryz.ntmps140
  go_wp2
  go_loopg [1, 5] N (fun gk v1 v5 wr => ∃ (i : Int) (o : List Int), v1 = .int .i64 i ∧ Ends l gk i ∧ Hid (upF l N id = o ++ upF l gk i) ∧ (Kd.int .i64).R 3 wr w.heap.size (fun _ => True) v5 o ∧ Below w.heap.size w wr ∧ o.length + gk ≤ N)
  case atStart => exact ⟨id, [], rfl, he, rfl, Kd.R_nil _ _ _ _ _, Below.refl _ _, by simp⟩
  case round =>
    obtain ⟨i, o, rfl, hE, HU, hR, hB, hol⟩ := hrel
    have hF := h.below hB
    cases hn : nodeF l i with
    | none =>
      have HP : Hid (upF l N id = o) := by show _ = _; rw [HU, upF_none hn, List.append_nil]
      have hnd := node_none F i l wr hF hn
      simp only [zeroN] at hnd
      clear hn hE
      go_wp2_with (go_at_call 57; refine hnd.mono ?_; rintro e w2 ⟨rfl, hB2⟩)
      go_ret
      exact ⟨_, rfl, by rw [HP]; exact Kd.R_alloc (Kd.R_below hR hB2) _, below_alloc (below_then hB hB.size hB2) _⟩
    | some x =>
      cases gk with
      | zero => exact absurd (show nodeF l i = none from hE) (by rw [hn]; simp)
      | succ k1 =>
        obtain ⟨j, rfl, hj, hx⟩ := nodeF_some hn
        have HP : Hid (upF l N id = (o ++ [((j + 1 : Nat) : Int)]) ++ upF l k1 x.f1) := by
          show _ = _
          rw [HU, upF, hn]; simp
        have hE' := hE x hn
        have hnd := node_some F j x l wr hF hx (hk x (List.mem_of_getElem? hx))
        simp only [nodeV] at hnd
        clear hn hE hx HU hF
        go_wp2_with (first
          | (go_at_call 57; refine hnd.mono ?_; rintro e w2 ⟨A, c, rfl, -, -, hB2⟩; have hR2 := Kd.R_alloc (Kd.R_below hR hB2) (.cells #[.int .i64 x.f0, .int .i64 x.f1, .int .i64 x.f2, .int .i64 x.f3, .int .i64 x.f4, .bool x.f5, .string x.f6, .string x.f7, .slice A x.f8.length c] 115); have hC2 := below_alloc (below_then hB hB.size hB2) (.cells #[.int .i64 x.f0, .int .i64 x.f1, .int .i64 x.f2, .int .i64 x.f3, .int .i64 x.f4, .bool x.f5, .string x.f6, .string x.f7, .slice A x.f8.length c] 115); have hX2 := blk_new w2 (.cells #[.int .i64 x.f0, .int .i64 x.f1, .int .i64 x.f2, .int .i64 x.f3, .int .i64 x.f4, .bool x.f5, .string x.f6, .string x.f7, .slice A x.f8.length c] 115))
          | (at_builtin; generalize hW3 : w2.alloc (.cells #[.int .i64 x.f0, .int .i64 x.f1, .int .i64 x.f2, .int .i64 x.f3, .int .i64 x.f4, .bool x.f5, .string x.f6, .string x.f7, .slice A x.f8.length c] 115) = W3 at *; have hs3 : w2.heap.size + 1 = W3.heap.size := (by rw [← hW3]; simp); rw [hs3]; refine Kd.R_append (Kd.int .i64) (w0 := w) w.heap.size rfl (.tmp 17) (.tmp 19) 32 3 (.int .i64 0) 8 rfl Tryz.underlying32 info3 rfl (by decide) (by decide) _ o ((j + 1 : Nat) : Int) [.int .i64 ((j : Int) + 1)] (fun _ => True) (fun _ => False) rfl rfl rfl (fun _ hk => hk.elim) (fun _ _ => trivial) hR2 hC2 hC2.size (by omega) ?_; intro v1 w4 hR4 hB4 hg4 hat4; have hX4 := blk_grown hX2 hg4 (Kd.R_ne hR2 hX2 (by decide)); have z1 := blk_cell hX4 1))
        go_roundg k1
        case rel => exact ⟨x.f1, _, rfl, hE', HP, hR4, hB4, by simp; omega⟩
        case measure => omega
theorem root_any (F : Nat) (id : Int) (l : List S115) (w : World) (h : FoR w F l) (hk : ∀ x ∈ l, x.f8.length ≤ 100000) (he : Ends l l.length id) :
    Calls Tryz.prog 98 #[.pointer (some ⟨F, 0, none⟩), .int .i64 id] w fun e w' => e = .returned (.int .i64 ((upF l l.length id).getLastD 0)) ∧ Below w.heap.size w w' := by
  have hup := up_any F id l w h hk he
  have hul := upF_length (l := l) l.length id
  have h128 : l.length ≤ 128 := by obtain ⟨_, _, _, _, _, h3⟩ := h; exact h3
  generalize upF l l.length id = u at *
  clear h hk he
  rcases List.eq_nil_or_concat u with rfl | ⟨u', y, rfl⟩
  · go_enter Tryz.func98, Tryz.ntmps98
    go_wp2_with (go_at_call 140; refine hup.mono ?_; rintro e w1 ⟨v, rfl, hR, hB⟩; obtain ⟨A, c, rfl, -, -⟩ := Kd.R_reads hR)
    go_ret
    exact ⟨rfl, hB⟩
  · rw [List.concat_eq_append] at *
    have HG := hide_ (show (u' ++ [y]).getLastD 0 = y by simp)
    have hlen : (u' ++ [y]).length = u'.length + 1 := by simp
    rw [hlen] at hul
    obtain ⟨n, hn⟩ : ∃ n, n = u'.length := ⟨_, rfl⟩
    rw [← hn] at hul hlen
    have hsub : ((n : Int) + 1 - 1) = (n : Int) := by omega
    have hnb : (n : Int) < (n : Int) + 1 := by omega
    have hcell : ∀ A W, (Kd.int .i64).C W A (n + 1) (u' ++ [y]) → ∃ b off, A = some ⟨b, off, none⟩ ∧ W.cell? ⟨b, off + n, none⟩ = some (.int .i64 y) := fun A W hC => by
      obtain ⟨ad, rfl, _⟩ := hC.2.2 (by omega)
      rw [← hlen] at hC
      obtain ⟨b, off, rfl, hc⟩ := ints_cells hC (by simp)
      refine ⟨b, off, rfl, ?_⟩
      have := hc n (by omega)
      rw [this]
      simp [List.getD, hn]
    have HLN := hide_ hlen
    clear hsub hn hlen
    go_enter Tryz.func98, Tryz.ntmps98
    go_wp2_with (go_at_call 140; refine hup.mono ?_; rintro e w1 ⟨v, rfl, hR, hB⟩; obtain ⟨A, c, e1, hc, hC⟩ := Kd.R_reads hR; rw [HLN] at e1 hc hC; subst e1; obtain ⟨b, off, rfl, hcc⟩ := hcell _ _ hC)
    go_ret
    exact ⟨by rw [HG]; rfl, hB⟩
theorem above_any (F : Nat) (a id : Int) (l : List S115) (w : World) (h : FoR w F l) (hk : ∀ x ∈ l, x.f8.length ≤ 100000) (he : Ends l l.length id) :
    Calls Tryz.prog 143 #[.pointer (some ⟨F, 0, none⟩), .int .i64 a, .int .i64 id] w fun e w' => e = .returned (.bool (decide (a ∈ upF l l.length id))) ∧ Below w.heap.size w w' := by
  have hup := up_any F id l w h hk he
  have hul := upF_length (l := l) l.length id
  have h128 : l.length ≤ 128 := by obtain ⟨_, _, _, _, _, h3⟩ := h; exact h3
  generalize upF l l.length id = u at *
  clear h hk he
  go_enter Tryz.func143, Tryz.ntmps143
  go_wp2_with (first
    | (go_at_call 140; refine hup.mono ?_; rintro e w1 ⟨v, rfl, hR, hB⟩; obtain ⟨A, c, rfl, -, hC⟩ := Kd.R_reads hR)
    | (go_at_call 118; (refine (contains_any u a A c _ hC (by omega)).mono ?_; rintro e w2 ⟨rfl, rfl⟩)))
  go_ret
  exact ⟨rfl, hB⟩
end Go.Proofs.YtgopddjmmoohdaaGreatDoor

/- Functions printed by print.sh over this seat, taken together. -/
namespace Go.Proofs.YtgopddjmmoohdaaGreatDoor.PPlaySilent
open Go.RowKit Go.Proofs.YtgopddjmmoohdaaGreatDoorW.PrintWords Go.Proofs.YtgopddjmmoohdaaGreatDoorW.PrintLast Go.Proofs.YtgopddjmmoohdaaGreatDoorW.PrintMore
attribute [local go_sem] max2_int min2_int max_two min_two max_three min_three max_four min_four   -- for this text's walks alone
set_option linter.unusedVariables false
set_option linter.unusedSimpArgs false

/-! ### towncrierref01_Right: function 69 -/
/-! ### towncrierref04_named: function 65 -/
/-! ### towncrierref04_Copy: function 66 -/
end Go.Proofs.YtgopddjmmoohdaaGreatDoor.PPlaySilent

/- word.Right and ref.Right: a word has one to eight signs, each one of a..z or 0..9; named on both sides. -/
set_option linter.unusedSimpArgs false
namespace Go.Proofs.YtgopddjmmoohdaaGreatDoor
open Go.RowKit Go.Proofs.YtgopddjmmoohdaaGreatDoorW.PrintWords Go.Proofs.YtgopddjmmoohdaaGreatDoorW.PrintLast Go.Proofs.YtgopddjmmoohdaaGreatDoor.PPlaySilent Go.Lib

/-- A fact set aside. -/
structure Hd (p : Prop) : Prop where
  mk :: (out : p)
theorem hd_ {p : Prop} (h : p) : Hd p := ⟨h⟩
/-- A sign of a word. -/
def okB (b : UInt8) : Bool := (decide (97 ≤ b.toNat) && decide (b.toNat ≤ 122)) || (decide (48 ≤ b.toNat) && decide (b.toNat ≤ 57))
/-- A word. -/
def rightW (s : List UInt8) : Bool := decide (1 ≤ s.length) && (decide (s.length ≤ 8) && s.all okB)

theorem okB_high (b : UInt8) (h : 128 ≤ b.toNat) : okB b = false := by
  unfold okB
  have h1 : ¬ b.toNat ≤ 122 := by omega
  have h2 : ¬ b.toNat ≤ 57 := by omega
  simp [h1, h2]
theorem all_take (s : List UInt8) (j : Nat) (b : UInt8) (h : s[j]? = some b) : (s.take (j + 1)).all okB = ((s.take j).all okB && okB b) := by
  rw [List.take_add_one, h]; simp
theorem all_bad (s : List UInt8) (j : Nat) (b : UInt8) (h : s[j]? = some b) (hb : okB b = false) : s.all okB = false := by
  rw [List.all_eq_false]
  exact ⟨b, List.mem_of_getElem? h, by simp [hb]⟩

set_option maxRecDepth 100000 in
set_option maxHeartbeats 1600000 in
theorem right_any (s : ByteArray) (w : World) :
    Calls Tryz.prog 38 #[.string s] w fun e w' => e = .returned (.bool (rightW s.data.toList)) ∧ Below w.heap.size w w' := by
  have hsz : s.size = s.data.toList.length := Lib.size_eq s
  have hR : rightW s.data.toList = (decide (1 ≤ s.size) && (decide (s.size ≤ 8) && s.data.toList.all okB)) := by unfold rightW; rw [hsz]
  by_cases h0 : s.toList = []
  · have H : Hd (rightW s.data.toList = false) := ⟨by
      rw [ByteArray.toList_eq] at h0; rw [h0]; rfl⟩
    clear hR hsz
    go_enter Tryz.func38, Tryz.ntmps38
    go_wp2
    go_ret
    exact ⟨by rw [H.out]; rfl, Below.refl _ _⟩
  · have h1 : 1 ≤ s.size := by
      rw [ByteArray.toList_eq] at h0
      rw [hsz]; exact List.length_pos_iff.2 h0
    by_cases h8 : s.size ≤ 8
    · have H : Hd (rightW s.data.toList = s.data.toList.all okB) := ⟨by rw [hR]; simp [h1, h8]⟩
      have q8 : ¬ (8 : Int) < s.size := by omega
      have e0 : s.toList.isEmpty = false := by simpa using h0
      clear h0
      have hsz' := hd_ hsz
      clear hR hsz
      go_enter Tryz.func38, Tryz.ntmps38
      go_wp2
      go_loopw [] (fun wr => ∃ pos, pos ≤ s.size ∧ wr = w.iter s pos ∧ Hd ((s.data.toList.take pos).all okB = true)) (fun wr => s.size - wr.iterPos w.heap.size)
      case atStart => exact ⟨0, Nat.zero_le _, rfl, ⟨by simp⟩⟩
      case round =>
        obtain ⟨pos, hpl, rfl, HT⟩ := hrel
        by_cases hp : pos < s.size
        · obtain ⟨b, hb⟩ : ∃ b, s.data.toList[pos]? = some b := ⟨_, List.getElem?_eq_getElem (by rw [← Lib.size_eq]; exact hp)⟩
          have hbj : (s[pos]'hp) = b := (List.getElem?_eq_some_iff.1 hb).2
          have HB := hd_ hb
          by_cases ha : b.toNat < 128
          · have hnx : ∀ ty, (Instr.next (.pointer (some ⟨w.heap.size, 0, none⟩)) true ty).run Tryz.prog (w.iter s pos) = .ok (.tuple #[.bool true, .int .i64 pos, .int .i32 b.toNat]) (w.iter s (pos + 1)) := fun ty => by
              rw [run_next_ascii w s pos ty hp (by rw [hbj]; exact ha), hbj]
            clear hb hbj
            by_cases hok : okB b = true
            · have HK := hd_ hok
              have hc : (97 ≤ b.toNat ∧ b.toNat ≤ 122) ∨ (48 ≤ b.toNat ∧ b.toNat ≤ 57) := by simpa [okB] using hok
              clear hok
              rcases hc with ⟨c1, c2⟩ | ⟨c1, c2⟩
              all_goals
                go_wp2
                go_roundw
                case rel => exact ⟨pos + 1, hp, rfl, ⟨by rw [all_take _ _ _ HB.out, HT.out, HK.out]; rfl⟩⟩
                case measure => simp; omega
            · have HK : Hd (okB b = false) := ⟨by simpa using hok⟩
              have hc : b.toNat < 48 ∨ (57 < b.toNat ∧ b.toNat < 97) ∨ 122 < b.toNat := by
                have := hok
                simp [okB] at this
                omega
              clear hok
              rcases hc with c1 | ⟨c1, c2⟩ | c1
              all_goals
                go_wp2
                go_ret
                exact ⟨by rw [H.out, all_bad _ _ _ HB.out HK.out]; rfl, below_alloc (Below.refl _ _) _⟩
          · have HK : Hd (okB b = false) := ⟨okB_high b (by omega)⟩
            have hd := (decode_high s pos hp (by rw [hbj]; omega)).1
            have hnx : ∀ ty, (Instr.next (.pointer (some ⟨w.heap.size, 0, none⟩)) true ty).run Tryz.prog (w.iter s pos) = _ := fun ty => run_next_any w s pos ty hp
            generalize (Utf8.decode s pos).2 = q at hnx
            generalize (Utf8.decode s pos).1 = r at hnx hd
            clear hb hbj ha
            go_wp2
            all_goals (go_ret)
            all_goals (exact ⟨by rw [H.out, all_bad _ _ _ HB.out HK.out]; rfl, below_alloc (Below.refl _ _) _⟩)
        · have hnx : ∀ ty, (Instr.next (.pointer (some ⟨w.heap.size, 0, none⟩)) true ty).run Tryz.prog (w.iter s pos) = _ := fun ty => run_next_end w s pos ty hp
          have HA : Hd (s.data.toList.all okB = true) := ⟨by
            have h := HT.out
            rwa [List.take_of_length_le (by rw [← hsz'.out]; omega)] at h⟩
          go_wp2
          go_ret
          exact ⟨by rw [H.out, HA.out]; rfl, below_alloc (Below.refl _ _) _⟩
    · have H : Hd (rightW s.data.toList = false) := ⟨by rw [hR]; simp [h8]⟩
      have q8 : (8 : Int) < s.size := by omega
      have e0 : s.toList.isEmpty = false := by simpa using h0
      clear hR hsz h0
      go_enter Tryz.func38, Tryz.ntmps38
      go_wp2
      go_ret
      exact ⟨by rw [H.out]; rfl, Below.refl _ _⟩
/-- Empty, or a word. -/
def namedW (s : ByteArray) : Bool := s.toList.isEmpty || rightW s.data.toList
set_option maxRecDepth 100000 in
set_option maxHeartbeats 1600000 in
theorem named_any (s : ByteArray) (w : World) :
    Calls Tryz.prog 65 #[.string s] w fun e w' => e = .returned (.bool (namedW s)) ∧ Below w.heap.size w w' := by
  have hr := right_any s w
  by_cases h0 : s.toList = []
  · have H : Hd (namedW s = true) := ⟨by unfold namedW; rw [h0]; rfl⟩
    go_enter Tryz.func65, Tryz.ntmps65
    go_wp2
    go_ret
    exact ⟨by rw [H.out]; rfl, Below.refl _ _⟩
  · have H : Hd (namedW s = rightW s.data.toList) := ⟨by unfold namedW; simp [h0]⟩
    go_enter Tryz.func65, Tryz.ntmps65
    go_wp2_with (go_at_call 38; refine hr.mono ?_; rintro e w1 ⟨rfl, hb1⟩)
    go_ret
    exact ⟨rfl, hb1⟩
end Go.Proofs.YtgopddjmmoohdaaGreatDoor
