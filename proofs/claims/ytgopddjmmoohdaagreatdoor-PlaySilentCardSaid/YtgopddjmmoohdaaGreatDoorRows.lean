/-
  NARROWER THAN 'FOR EVERY INPUT', by the rows' own cells (each row's printed sentence says how): PlayNested: laid · PlaySilent: laid · PlayEnds: laid.
  DERIVED. THE GIVEN ROWS OF THIS SEAT. 3 by the template 'for every input the law returns true; each argument reads behind the call as it read before'; 0 by the template 'total and deterministic' (their statements: YtgopddjmmoohdaaGreatDoorTotals.lean).
  GIVEN WITH THE SEED: the statements are not yours to turn. If you find one false, say at which input.
  Laid BY PROGRAM, IN A SANDBOX (cutbox-rows.mjs): the forced cells as the released guide's own fill.sh prints them over the translation 6068d65ecffe6dfc… (all of the seat's roots in one cut). By AI agents, Wed Nov 11 2026. No macro, syntax, notation, axiom, sorry.
-/
import Derived.Test.YtgopddjmmoohdaaGreatDoorChecked
import GoSem.Claim
import GoSem.ClaimJoined
import GoSem.ClaimMapViews
import Derived.JoinedTies
import Derived.KernelRfl
namespace Go.Proofs.YtgopddjmmoohdaaGreatDoor
/- THE CELL 'sum', in the pinned program and in every row, IS THE sha256 OF THE DUMP (.gsa) THAT YtgopddjmmoohdaaGreatDoorProg.lean LOADS. Nothing in Lean hashes anything: it is a label: what it is worth is what the hold of that sum in a sandbox is worth. -/
noncomputable def Tryz.pinned : Pinned := { name := "ytgopddjmmoohdaagreatdoor", sum := "6068d65ecffe6dfc3c92bf4b053c767492bcbe0f03b40a89198cc76eea0421c0", checked := Tryz.checked }
namespace Rows
def none {H : Type} : Left H := { results := [], args := [] }

/- WHAT THE LISTED PACKAGE-LEVEL VARIABLES READ AS WHEN THE CALL BEGINS. Each datum BY PROGRAM (the guide's laid-datum.mjs) off the statement by which the dump's own 'gosem.cut.vars' lays the variable. In a bare row this is a premise. The card (YtgopddjmmoohdaaGreatDoorCards.lean) ties it to the program's text. -/
def laid_towncrier_op_names {H : Type} : DataW H := .agg [.lit (.string []), .lit (.string [109, 97, 107, 101]), .lit (.string [119, 97, 110, 116]), .lit (.string [110, 97, 109, 101]), .lit (.string [97, 112, 112, 101, 110, 100]), .lit (.string [98, 101, 102, 111, 114, 101]), .lit (.string [114, 101, 109, 111, 118, 101]), .lit (.string [97, 116, 116, 97, 99, 104]), .lit (.string [115, 105, 103, 110, 97, 108]), .lit (.string [97, 98, 111, 114, 116]), .lit (.string [108, 105, 115, 116, 101, 110]), .lit (.string [117, 110, 108, 105, 115, 116, 101, 110]), .lit (.string [101, 118, 101, 110, 116]), .lit (.string [115, 101, 110, 100]), .lit (.string [112, 114, 101, 118, 101, 110, 116]), .lit (.string [115, 116, 111, 112]), .lit (.string [115, 116, 111, 112, 110, 111, 119]), .lit (.string [99, 108, 101, 97, 114])]
def laid_towncrier_op_numbers {H : Type} : DataW H := .agg [.lit (.int .i64 0), .lit (.int .i64 2), .lit (.int .i64 1), .lit (.int .i64 1), .lit (.int .i64 2), .lit (.int .i64 3), .lit (.int .i64 2), .lit (.int .i64 2), .lit (.int .i64 2), .lit (.int .i64 1), .lit (.int .i64 4), .lit (.int .i64 3), .lit (.int .i64 2), .lit (.int .i64 2), .lit (.int .i64 1), .lit (.int .i64 1), .lit (.int .i64 1), .lit (.int .i64 1)]
def laid_towncrier_op_worded {H : Type} : DataW H := .agg [.lit (.bool false), .lit (.bool true), .lit (.bool true), .lit (.bool true), .lit (.bool false), .lit (.bool false), .lit (.bool false), .lit (.bool false), .lit (.bool false), .lit (.bool false), .lit (.bool true), .lit (.bool true), .lit (.bool true), .lit (.bool false), .lit (.bool false), .lit (.bool false), .lit (.bool false), .lit (.bool false)]

/-- 'towncrierlaw23.PlayNested': WHATEVER THE INPUT: true; the input reads as it did. -/
def playNestedSpec : ChangeSpec := { name := "playNested", fn := fun _ => fun
  | [d1, d2] => { results := [.lit (.bool true)], args := [d1, d2] }
  | _ => none }
def playNestedRow : OpenClaim := { program := "ytgopddjmmoohdaagreatdoor", sum := "6068d65ecffe6dfc3c92bf4b053c767492bcbe0f03b40a89198cc76eea0421c0", func := "towncrier/towncrierlaw23.PlayNested", spec := "playNested", inPlace := ["sync/atomic.LoadUint32", "sync/atomic.StoreUint32", "(*internal/sync.Mutex).Lock", "internal/race.Disable", "sync/atomic.CompareAndSwapInt32", "internal/race.Enable", "internal/race.Acquire", "(*internal/sync.Mutex).lockSlow", "internal/sync.runtime_canSpin", "internal/sync.runtime_doSpin", "internal/sync.throw", "internal/sync.runtime_nanotime", "internal/sync.runtime_SemacquireMutex", "sync/atomic.AddInt32", "(*internal/sync.Mutex).Unlock", "internal/race.ReleaseMerge", "(*internal/sync.Mutex).unlockSlow", "internal/sync.fatal", "internal/sync.runtime_Semrelease", "sync/atomic.LoadInt64", "sync/atomic.CompareAndSwapInt64"], unfollowed := true, recurses := true, named := ["towncrier/op.worded", "towncrier/op.numbers", "towncrier/op.names"], apart := false, laid := [("towncrier/op.names", laid_towncrier_op_names), ("towncrier/op.numbers", laid_towncrier_op_numbers), ("towncrier/op.worded", laid_towncrier_op_worded)] }
def PlayNestedSaid : Prop := playNestedRow.holds Tryz.pinned (OpenSpec.ofChange playNestedSpec)

/-- ITS FALSE NEIGHBOUR: 'it returns false'. Refute it at one input. -/
def playNestedWrong : ChangeSpec := { name := "playNested", fn := fun _ => fun
  | [d1, d2] => { results := [.lit (.bool false)], args := [d1, d2] }
  | _ => none }
def PlayNestedWrongFalsely : Prop := playNestedRow.holds Tryz.pinned (OpenSpec.ofChange playNestedWrong)

/-- 'towncrierlaw23.PlaySilent': WHATEVER THE INPUT: true; the input reads as it did. -/
def playSilentSpec : ChangeSpec := { name := "playSilent", fn := fun _ => fun
  | [d1, d2] => { results := [.lit (.bool true)], args := [d1, d2] }
  | _ => none }
def playSilentRow : OpenClaim := { program := "ytgopddjmmoohdaagreatdoor", sum := "6068d65ecffe6dfc3c92bf4b053c767492bcbe0f03b40a89198cc76eea0421c0", func := "towncrier/towncrierlaw23.PlaySilent", spec := "playSilent", inPlace := ["sync/atomic.LoadUint32", "sync/atomic.StoreUint32", "(*internal/sync.Mutex).Lock", "internal/race.Disable", "sync/atomic.CompareAndSwapInt32", "internal/race.Enable", "internal/race.Acquire", "(*internal/sync.Mutex).lockSlow", "internal/sync.runtime_canSpin", "internal/sync.runtime_doSpin", "internal/sync.throw", "internal/sync.runtime_nanotime", "internal/sync.runtime_SemacquireMutex", "sync/atomic.AddInt32", "(*internal/sync.Mutex).Unlock", "internal/race.ReleaseMerge", "(*internal/sync.Mutex).unlockSlow", "internal/sync.fatal", "internal/sync.runtime_Semrelease", "sync/atomic.LoadInt64", "sync/atomic.CompareAndSwapInt64"], unfollowed := true, recurses := true, named := ["towncrier/op.worded", "towncrier/op.numbers", "towncrier/op.names"], apart := false, laid := [("towncrier/op.names", laid_towncrier_op_names), ("towncrier/op.numbers", laid_towncrier_op_numbers), ("towncrier/op.worded", laid_towncrier_op_worded)] }
def PlaySilentSaid : Prop := playSilentRow.holds Tryz.pinned (OpenSpec.ofChange playSilentSpec)

/-- ITS FALSE NEIGHBOUR: 'it returns false'. Refute it at one input. -/
def playSilentWrong : ChangeSpec := { name := "playSilent", fn := fun _ => fun
  | [d1, d2] => { results := [.lit (.bool false)], args := [d1, d2] }
  | _ => none }
def PlaySilentWrongFalsely : Prop := playSilentRow.holds Tryz.pinned (OpenSpec.ofChange playSilentWrong)

/-- 'towncrierlaw23.PlayEnds': WHATEVER THE INPUT: true; the input reads as it did. -/
def playEndsSpec : ChangeSpec := { name := "playEnds", fn := fun _ => fun
  | [d1, d2] => { results := [.lit (.bool true)], args := [d1, d2] }
  | _ => none }
def playEndsRow : OpenClaim := { program := "ytgopddjmmoohdaagreatdoor", sum := "6068d65ecffe6dfc3c92bf4b053c767492bcbe0f03b40a89198cc76eea0421c0", func := "towncrier/towncrierlaw23.PlayEnds", spec := "playEnds", inPlace := ["sync/atomic.LoadUint32", "sync/atomic.StoreUint32", "(*internal/sync.Mutex).Lock", "internal/race.Disable", "sync/atomic.CompareAndSwapInt32", "internal/race.Enable", "internal/race.Acquire", "(*internal/sync.Mutex).lockSlow", "internal/sync.runtime_canSpin", "internal/sync.runtime_doSpin", "internal/sync.throw", "internal/sync.runtime_nanotime", "internal/sync.runtime_SemacquireMutex", "sync/atomic.AddInt32", "(*internal/sync.Mutex).Unlock", "internal/race.ReleaseMerge", "(*internal/sync.Mutex).unlockSlow", "internal/sync.fatal", "internal/sync.runtime_Semrelease", "sync/atomic.LoadInt64", "sync/atomic.CompareAndSwapInt64"], unfollowed := true, recurses := true, named := ["towncrier/op.worded", "towncrier/op.numbers", "towncrier/op.names"], apart := false, laid := [("towncrier/op.names", laid_towncrier_op_names), ("towncrier/op.numbers", laid_towncrier_op_numbers), ("towncrier/op.worded", laid_towncrier_op_worded)] }
def PlayEndsSaid : Prop := playEndsRow.holds Tryz.pinned (OpenSpec.ofChange playEndsSpec)

/-- ITS FALSE NEIGHBOUR: 'it returns false'. Refute it at one input. -/
def playEndsWrong : ChangeSpec := { name := "playEnds", fn := fun _ => fun
  | [d1, d2] => { results := [.lit (.bool false)], args := [d1, d2] }
  | _ => none }
def PlayEndsWrongFalsely : Prop := playEndsRow.holds Tryz.pinned (OpenSpec.ofChange playEndsWrong)

/- THE SECOND FORM. 'bulk': how many values and letters a reading holds, each counted each time it is reached (what is shared counts as often as it is met; a slice's spare places count too). A statement '..UptoSaid' is the law's where the arguments, and the package variables that the reading takes, are together of bulk at most 1048576: NARROWER than '..Said'. Prove '..Said' where nothing that the law and all that it calls make is longer than what came in: it says more and counts as full. Else prove '..UptoSaid'. A law counts once. -/
mutual
def uptoBulk {H : Type} : DataW H → Nat
  | .lit (.string bytes) => bytes.length + 1
  | .lit _ => 1
  | .nil => 1
  | .ptr d => uptoBulk d + 1
  | .slice elems spare => uptoBulkAll elems + uptoBulkAll spare + 1
  | .agg parts => uptoBulkAll parts + 1
  | .iface _ d => uptoBulk d + 1
  | .map entries => uptoBulkEntries entries + 1
  | .held _ => 1
def uptoBulkAll {H : Type} : List (DataW H) → Nat
  | [] => 0
  | d :: r => uptoBulk d + uptoBulkAll r
def uptoBulkEntries {H : Type} : List (Lit × DataW H) → Nat
  | [] => 0
  | x :: r => uptoBulkEntry x + uptoBulkEntries r
def uptoBulkEntry {H : Type} : Lit × DataW H → Nat
  | (.string bytes, d) => bytes.length + uptoBulk d + 1
  | (_, d) => uptoBulk d + 1
 end
def uptoSmall : (H : Type) → List (DataW H) → Bool := fun _ ds => decide (uptoBulkAll ds ≤ 1048576)
def OpenSpec.upto (s : _root_.Go.ChangeSpec) : _root_.Go.OpenSpec := { _root_.Go.OpenSpec.ofChange s with cond := some uptoSmall }

/-- 'towncrierlaw23.PlayNested', WHERE WHAT IT READS IS OF BULK AT MOST 1048576: true; the input reads as it did. -/
def playNestedUptoRow : OpenClaim := { program := "ytgopddjmmoohdaagreatdoor", sum := "6068d65ecffe6dfc3c92bf4b053c767492bcbe0f03b40a89198cc76eea0421c0", func := "towncrier/towncrierlaw23.PlayNested", spec := "playNested", inPlace := ["sync/atomic.LoadUint32", "sync/atomic.StoreUint32", "(*internal/sync.Mutex).Lock", "internal/race.Disable", "sync/atomic.CompareAndSwapInt32", "internal/race.Enable", "internal/race.Acquire", "(*internal/sync.Mutex).lockSlow", "internal/sync.runtime_canSpin", "internal/sync.runtime_doSpin", "internal/sync.throw", "internal/sync.runtime_nanotime", "internal/sync.runtime_SemacquireMutex", "sync/atomic.AddInt32", "(*internal/sync.Mutex).Unlock", "internal/race.ReleaseMerge", "(*internal/sync.Mutex).unlockSlow", "internal/sync.fatal", "internal/sync.runtime_Semrelease", "sync/atomic.LoadInt64", "sync/atomic.CompareAndSwapInt64"], unfollowed := true, recurses := true, named := ["towncrier/op.worded", "towncrier/op.numbers", "towncrier/op.names"], apart := false, laid := [("towncrier/op.names", laid_towncrier_op_names), ("towncrier/op.numbers", laid_towncrier_op_numbers), ("towncrier/op.worded", laid_towncrier_op_worded)], narrowed := true }
def PlayNestedUptoSaid : Prop := playNestedUptoRow.holds Tryz.pinned (OpenSpec.upto playNestedSpec)

/-- 'towncrierlaw23.PlaySilent', WHERE WHAT IT READS IS OF BULK AT MOST 1048576: true; the input reads as it did. -/
def playSilentUptoRow : OpenClaim := { program := "ytgopddjmmoohdaagreatdoor", sum := "6068d65ecffe6dfc3c92bf4b053c767492bcbe0f03b40a89198cc76eea0421c0", func := "towncrier/towncrierlaw23.PlaySilent", spec := "playSilent", inPlace := ["sync/atomic.LoadUint32", "sync/atomic.StoreUint32", "(*internal/sync.Mutex).Lock", "internal/race.Disable", "sync/atomic.CompareAndSwapInt32", "internal/race.Enable", "internal/race.Acquire", "(*internal/sync.Mutex).lockSlow", "internal/sync.runtime_canSpin", "internal/sync.runtime_doSpin", "internal/sync.throw", "internal/sync.runtime_nanotime", "internal/sync.runtime_SemacquireMutex", "sync/atomic.AddInt32", "(*internal/sync.Mutex).Unlock", "internal/race.ReleaseMerge", "(*internal/sync.Mutex).unlockSlow", "internal/sync.fatal", "internal/sync.runtime_Semrelease", "sync/atomic.LoadInt64", "sync/atomic.CompareAndSwapInt64"], unfollowed := true, recurses := true, named := ["towncrier/op.worded", "towncrier/op.numbers", "towncrier/op.names"], apart := false, laid := [("towncrier/op.names", laid_towncrier_op_names), ("towncrier/op.numbers", laid_towncrier_op_numbers), ("towncrier/op.worded", laid_towncrier_op_worded)], narrowed := true }
def PlaySilentUptoSaid : Prop := playSilentUptoRow.holds Tryz.pinned (OpenSpec.upto playSilentSpec)

/-- 'towncrierlaw23.PlayEnds', WHERE WHAT IT READS IS OF BULK AT MOST 1048576: true; the input reads as it did. -/
def playEndsUptoRow : OpenClaim := { program := "ytgopddjmmoohdaagreatdoor", sum := "6068d65ecffe6dfc3c92bf4b053c767492bcbe0f03b40a89198cc76eea0421c0", func := "towncrier/towncrierlaw23.PlayEnds", spec := "playEnds", inPlace := ["sync/atomic.LoadUint32", "sync/atomic.StoreUint32", "(*internal/sync.Mutex).Lock", "internal/race.Disable", "sync/atomic.CompareAndSwapInt32", "internal/race.Enable", "internal/race.Acquire", "(*internal/sync.Mutex).lockSlow", "internal/sync.runtime_canSpin", "internal/sync.runtime_doSpin", "internal/sync.throw", "internal/sync.runtime_nanotime", "internal/sync.runtime_SemacquireMutex", "sync/atomic.AddInt32", "(*internal/sync.Mutex).Unlock", "internal/race.ReleaseMerge", "(*internal/sync.Mutex).unlockSlow", "internal/sync.fatal", "internal/sync.runtime_Semrelease", "sync/atomic.LoadInt64", "sync/atomic.CompareAndSwapInt64"], unfollowed := true, recurses := true, named := ["towncrier/op.worded", "towncrier/op.numbers", "towncrier/op.names"], apart := false, laid := [("towncrier/op.names", laid_towncrier_op_names), ("towncrier/op.numbers", laid_towncrier_op_numbers), ("towncrier/op.worded", laid_towncrier_op_worded)], narrowed := true }
def PlayEndsUptoSaid : Prop := playEndsUptoRow.holds Tryz.pinned (OpenSpec.upto playEndsSpec)

end Rows
end Go.Proofs.YtgopddjmmoohdaaGreatDoor
