/-
  No cell of these rows narrows 'for every input' (looked for: loops, veiled, ifaces, maps, wideKeys, modest, calm, conditions, laid).
  DERIVED. THE GIVEN ROWS OF THIS SEAT. 5 by the template 'for every input the law returns true; each argument reads behind the call as it read before'; 0 by the template 'total and deterministic' (their statements: YtebcdfdkgjcmmaaTotals.lean).
  GIVEN WITH THE SEED: the statements are not yours to turn. If you find one false, say at which input.
  Laid BY PROGRAM, IN A SANDBOX (cutbox-rows.mjs): the forced cells as the released guide's own fill.sh prints them over the translation b0685ae2931d2826… (all of the seat's roots in one cut). By AI agents, Wed Nov 11 2026. No macro, syntax, notation, axiom, sorry.
-/
import Derived.Test.YtebcdfdkgjcmmaaChecked
import GoSem.Claim
import GoSem.ClaimJoined
import GoSem.ClaimMapViews
import Derived.JoinedTies
import Derived.KernelRfl
namespace Go.Proofs.Ytebcdfdkgjcmmaa
/- THE CELL 'sum', in the pinned program and in every row, IS THE sha256 OF THE DUMP (.gsa) THAT YtebcdfdkgjcmmaaProg.lean LOADS. Nothing in Lean hashes anything: it is a label: what it is worth is what the hold of that sum in a sandbox is worth. -/
noncomputable def Try.pinned : Pinned := { name := "ytebcdfdkgjcmmaa", sum := "b0685ae2931d28260afe9ae4bd1eb5f4a71ccabe62f897659d8c396c8b15f10b", checked := Try.checked }
namespace Rows
def none {H : Type} : Left H := { results := [], args := [] }

/-- 'portierelaw05.EscapeLong': WHATEVER THE INPUT: true; the input reads as it did. -/
def escapeLongSpec : ChangeSpec := { name := "escapeLong", fn := fun _ => fun
  | [d] => { results := [.lit (.bool true)], args := [d] }
  | _ => none }
def escapeLongRow : OpenClaim := { program := "ytebcdfdkgjcmmaa", sum := "b0685ae2931d28260afe9ae4bd1eb5f4a71ccabe62f897659d8c396c8b15f10b", func := "portiere/portierelaw05.EscapeLong", spec := "escapeLong", inPlace := ["sync/atomic.LoadUint32", "(*internal/sync.Mutex).Lock", "internal/race.Disable", "sync/atomic.CompareAndSwapInt32", "internal/race.Enable", "internal/race.Acquire", "(*internal/sync.Mutex).lockSlow", "internal/sync.runtime_canSpin", "internal/sync.runtime_doSpin", "internal/sync.throw", "internal/sync.runtime_nanotime", "internal/sync.runtime_SemacquireMutex", "sync/atomic.AddInt32", "(*internal/sync.Mutex).Unlock", "internal/race.ReleaseMerge", "(*internal/sync.Mutex).unlockSlow", "internal/sync.fatal", "internal/sync.runtime_Semrelease", "sync/atomic.StoreUint32"], unfollowed := true, recurses := true, apart := false }
def EscapeLongSaid : Prop := escapeLongRow.holds Try.pinned (OpenSpec.ofChange escapeLongSpec)

/-- ITS FALSE NEIGHBOUR: 'it returns false'. Refute it at one input. -/
def escapeLongWrong : ChangeSpec := { name := "escapeLong", fn := fun _ => fun
  | [d] => { results := [.lit (.bool false)], args := [d] }
  | _ => none }
def EscapeLongWrongFalsely : Prop := escapeLongRow.holds Try.pinned (OpenSpec.ofChange escapeLongWrong)

/-- 'portierelaw05.EscapeTwice': WHATEVER THE INPUT: true; the input reads as it did. -/
def escapeTwiceSpec : ChangeSpec := { name := "escapeTwice", fn := fun _ => fun
  | [d] => { results := [.lit (.bool true)], args := [d] }
  | _ => none }
def escapeTwiceRow : OpenClaim := { program := "ytebcdfdkgjcmmaa", sum := "b0685ae2931d28260afe9ae4bd1eb5f4a71ccabe62f897659d8c396c8b15f10b", func := "portiere/portierelaw05.EscapeTwice", spec := "escapeTwice", inPlace := ["sync/atomic.LoadUint32", "(*internal/sync.Mutex).Lock", "internal/race.Disable", "sync/atomic.CompareAndSwapInt32", "internal/race.Enable", "internal/race.Acquire", "(*internal/sync.Mutex).lockSlow", "internal/sync.runtime_canSpin", "internal/sync.runtime_doSpin", "internal/sync.throw", "internal/sync.runtime_nanotime", "internal/sync.runtime_SemacquireMutex", "sync/atomic.AddInt32", "(*internal/sync.Mutex).Unlock", "internal/race.ReleaseMerge", "(*internal/sync.Mutex).unlockSlow", "internal/sync.fatal", "internal/sync.runtime_Semrelease", "sync/atomic.StoreUint32"], unfollowed := true, recurses := true, apart := false }
def EscapeTwiceSaid : Prop := escapeTwiceRow.holds Try.pinned (OpenSpec.ofChange escapeTwiceSpec)

/-- ITS FALSE NEIGHBOUR: 'it returns false'. Refute it at one input. -/
def escapeTwiceWrong : ChangeSpec := { name := "escapeTwice", fn := fun _ => fun
  | [d] => { results := [.lit (.bool false)], args := [d] }
  | _ => none }
def EscapeTwiceWrongFalsely : Prop := escapeTwiceRow.holds Try.pinned (OpenSpec.ofChange escapeTwiceWrong)

/-- 'portierelaw05.EscapeWrites': WHATEVER THE INPUT: true; the input reads as it did. -/
def escapeWritesSpec : ChangeSpec := { name := "escapeWrites", fn := fun _ => fun
  | [d] => { results := [.lit (.bool true)], args := [d] }
  | _ => none }
def escapeWritesRow : OpenClaim := { program := "ytebcdfdkgjcmmaa", sum := "b0685ae2931d28260afe9ae4bd1eb5f4a71ccabe62f897659d8c396c8b15f10b", func := "portiere/portierelaw05.EscapeWrites", spec := "escapeWrites", inPlace := ["sync/atomic.LoadUint32", "(*internal/sync.Mutex).Lock", "internal/race.Disable", "sync/atomic.CompareAndSwapInt32", "internal/race.Enable", "internal/race.Acquire", "(*internal/sync.Mutex).lockSlow", "internal/sync.runtime_canSpin", "internal/sync.runtime_doSpin", "internal/sync.throw", "internal/sync.runtime_nanotime", "internal/sync.runtime_SemacquireMutex", "sync/atomic.AddInt32", "(*internal/sync.Mutex).Unlock", "internal/race.ReleaseMerge", "(*internal/sync.Mutex).unlockSlow", "internal/sync.fatal", "internal/sync.runtime_Semrelease", "sync/atomic.StoreUint32"], unfollowed := true, recurses := true, apart := false }
def EscapeWritesSaid : Prop := escapeWritesRow.holds Try.pinned (OpenSpec.ofChange escapeWritesSpec)

/-- ITS FALSE NEIGHBOUR: 'it returns false'. Refute it at one input. -/
def escapeWritesWrong : ChangeSpec := { name := "escapeWrites", fn := fun _ => fun
  | [d] => { results := [.lit (.bool false)], args := [d] }
  | _ => none }
def EscapeWritesWrongFalsely : Prop := escapeWritesRow.holds Try.pinned (OpenSpec.ofChange escapeWritesWrong)

/-- 'portierelaw05.EscapeBack': WHATEVER THE INPUT: true; the input reads as it did. -/
def escapeBackSpec : ChangeSpec := { name := "escapeBack", fn := fun _ => fun
  | [d] => { results := [.lit (.bool true)], args := [d] }
  | _ => none }
def escapeBackRow : OpenClaim := { program := "ytebcdfdkgjcmmaa", sum := "b0685ae2931d28260afe9ae4bd1eb5f4a71ccabe62f897659d8c396c8b15f10b", func := "portiere/portierelaw05.EscapeBack", spec := "escapeBack", inPlace := ["sync/atomic.LoadUint32", "(*internal/sync.Mutex).Lock", "internal/race.Disable", "sync/atomic.CompareAndSwapInt32", "internal/race.Enable", "internal/race.Acquire", "(*internal/sync.Mutex).lockSlow", "internal/sync.runtime_canSpin", "internal/sync.runtime_doSpin", "internal/sync.throw", "internal/sync.runtime_nanotime", "internal/sync.runtime_SemacquireMutex", "sync/atomic.AddInt32", "(*internal/sync.Mutex).Unlock", "internal/race.ReleaseMerge", "(*internal/sync.Mutex).unlockSlow", "internal/sync.fatal", "internal/sync.runtime_Semrelease", "sync/atomic.StoreUint32"], unfollowed := true, recurses := true, apart := false }
def EscapeBackSaid : Prop := escapeBackRow.holds Try.pinned (OpenSpec.ofChange escapeBackSpec)

/-- ITS FALSE NEIGHBOUR: 'it returns false'. Refute it at one input. -/
def escapeBackWrong : ChangeSpec := { name := "escapeBack", fn := fun _ => fun
  | [d] => { results := [.lit (.bool false)], args := [d] }
  | _ => none }
def EscapeBackWrongFalsely : Prop := escapeBackRow.holds Try.pinned (OpenSpec.ofChange escapeBackWrong)

/-- 'portierelaw05.EscapeParts': WHATEVER THE INPUT: true; the input reads as it did. -/
def escapePartsSpec : ChangeSpec := { name := "escapeParts", fn := fun _ => fun
  | [d1, d2] => { results := [.lit (.bool true)], args := [d1, d2] }
  | _ => none }
def escapePartsRow : OpenClaim := { program := "ytebcdfdkgjcmmaa", sum := "b0685ae2931d28260afe9ae4bd1eb5f4a71ccabe62f897659d8c396c8b15f10b", func := "portiere/portierelaw05.EscapeParts", spec := "escapeParts", inPlace := ["sync/atomic.LoadUint32", "(*internal/sync.Mutex).Lock", "internal/race.Disable", "sync/atomic.CompareAndSwapInt32", "internal/race.Enable", "internal/race.Acquire", "(*internal/sync.Mutex).lockSlow", "internal/sync.runtime_canSpin", "internal/sync.runtime_doSpin", "internal/sync.throw", "internal/sync.runtime_nanotime", "internal/sync.runtime_SemacquireMutex", "sync/atomic.AddInt32", "(*internal/sync.Mutex).Unlock", "internal/race.ReleaseMerge", "(*internal/sync.Mutex).unlockSlow", "internal/sync.fatal", "internal/sync.runtime_Semrelease", "sync/atomic.StoreUint32"], unfollowed := true, recurses := true, apart := false }
def EscapePartsSaid : Prop := escapePartsRow.holds Try.pinned (OpenSpec.ofChange escapePartsSpec)

/-- ITS FALSE NEIGHBOUR: 'it returns false'. Refute it at one input. -/
def escapePartsWrong : ChangeSpec := { name := "escapeParts", fn := fun _ => fun
  | [d1, d2] => { results := [.lit (.bool false)], args := [d1, d2] }
  | _ => none }
def EscapePartsWrongFalsely : Prop := escapePartsRow.holds Try.pinned (OpenSpec.ofChange escapePartsWrong)

/- THE SECOND FORM. 'bulk': how many values and letters a reading holds, each counted each time it is reached (what is shared counts as often as it is met; a slice's spare places count too). A statement '..UptoSaid' is the law's where the arguments, and the package variables that the reading takes, are together of bulk at most 1048576: NARROWER than '..Said'. Prove '..Said' where nothing that the law and all that it calls make is longer than what came in: it says more and counts as full. Else prove '..UptoSaid'. A law counts once. -/
mutual
def uptoBulk {H : Type} : DataW H → Nat
  | .lit (.string bytes) => bytes.length + 1
  | .lit _ => 1
  | .nil => 1
  | .ptr d => uptoBulk d + 1
  | .slice elems spare => uptoBulkAll elems + uptoBulkAll spare + 1
  | .agg parts => uptoBulkAll parts + 1
  | .iface _ d => uptoBulk d + 1
  | .map entries => uptoBulkEntries entries + 1
  | .held _ => 1
def uptoBulkAll {H : Type} : List (DataW H) → Nat
  | [] => 0
  | d :: r => uptoBulk d + uptoBulkAll r
def uptoBulkEntries {H : Type} : List (Lit × DataW H) → Nat
  | [] => 0
  | x :: r => uptoBulkEntry x + uptoBulkEntries r
def uptoBulkEntry {H : Type} : Lit × DataW H → Nat
  | (.string bytes, d) => bytes.length + uptoBulk d + 1
  | (_, d) => uptoBulk d + 1
 end
def uptoSmall : (H : Type) → List (DataW H) → Bool := fun _ ds => decide (uptoBulkAll ds ≤ 1048576)
def OpenSpec.upto (s : _root_.Go.ChangeSpec) : _root_.Go.OpenSpec := { _root_.Go.OpenSpec.ofChange s with cond := some uptoSmall }

/-- 'portierelaw05.EscapeLong', WHERE WHAT IT READS IS OF BULK AT MOST 1048576: true; the input reads as it did. -/
def escapeLongUptoRow : OpenClaim := { program := "ytebcdfdkgjcmmaa", sum := "b0685ae2931d28260afe9ae4bd1eb5f4a71ccabe62f897659d8c396c8b15f10b", func := "portiere/portierelaw05.EscapeLong", spec := "escapeLong", inPlace := ["sync/atomic.LoadUint32", "(*internal/sync.Mutex).Lock", "internal/race.Disable", "sync/atomic.CompareAndSwapInt32", "internal/race.Enable", "internal/race.Acquire", "(*internal/sync.Mutex).lockSlow", "internal/sync.runtime_canSpin", "internal/sync.runtime_doSpin", "internal/sync.throw", "internal/sync.runtime_nanotime", "internal/sync.runtime_SemacquireMutex", "sync/atomic.AddInt32", "(*internal/sync.Mutex).Unlock", "internal/race.ReleaseMerge", "(*internal/sync.Mutex).unlockSlow", "internal/sync.fatal", "internal/sync.runtime_Semrelease", "sync/atomic.StoreUint32"], unfollowed := true, recurses := true, apart := false, narrowed := true }
def EscapeLongUptoSaid : Prop := escapeLongUptoRow.holds Try.pinned (OpenSpec.upto escapeLongSpec)

/-- 'portierelaw05.EscapeTwice', WHERE WHAT IT READS IS OF BULK AT MOST 1048576: true; the input reads as it did. -/
def escapeTwiceUptoRow : OpenClaim := { program := "ytebcdfdkgjcmmaa", sum := "b0685ae2931d28260afe9ae4bd1eb5f4a71ccabe62f897659d8c396c8b15f10b", func := "portiere/portierelaw05.EscapeTwice", spec := "escapeTwice", inPlace := ["sync/atomic.LoadUint32", "(*internal/sync.Mutex).Lock", "internal/race.Disable", "sync/atomic.CompareAndSwapInt32", "internal/race.Enable", "internal/race.Acquire", "(*internal/sync.Mutex).lockSlow", "internal/sync.runtime_canSpin", "internal/sync.runtime_doSpin", "internal/sync.throw", "internal/sync.runtime_nanotime", "internal/sync.runtime_SemacquireMutex", "sync/atomic.AddInt32", "(*internal/sync.Mutex).Unlock", "internal/race.ReleaseMerge", "(*internal/sync.Mutex).unlockSlow", "internal/sync.fatal", "internal/sync.runtime_Semrelease", "sync/atomic.StoreUint32"], unfollowed := true, recurses := true, apart := false, narrowed := true }
def EscapeTwiceUptoSaid : Prop := escapeTwiceUptoRow.holds Try.pinned (OpenSpec.upto escapeTwiceSpec)

/-- 'portierelaw05.EscapeWrites', WHERE WHAT IT READS IS OF BULK AT MOST 1048576: true; the input reads as it did. -/
def escapeWritesUptoRow : OpenClaim := { program := "ytebcdfdkgjcmmaa", sum := "b0685ae2931d28260afe9ae4bd1eb5f4a71ccabe62f897659d8c396c8b15f10b", func := "portiere/portierelaw05.EscapeWrites", spec := "escapeWrites", inPlace := ["sync/atomic.LoadUint32", "(*internal/sync.Mutex).Lock", "internal/race.Disable", "sync/atomic.CompareAndSwapInt32", "internal/race.Enable", "internal/race.Acquire", "(*internal/sync.Mutex).lockSlow", "internal/sync.runtime_canSpin", "internal/sync.runtime_doSpin", "internal/sync.throw", "internal/sync.runtime_nanotime", "internal/sync.runtime_SemacquireMutex", "sync/atomic.AddInt32", "(*internal/sync.Mutex).Unlock", "internal/race.ReleaseMerge", "(*internal/sync.Mutex).unlockSlow", "internal/sync.fatal", "internal/sync.runtime_Semrelease", "sync/atomic.StoreUint32"], unfollowed := true, recurses := true, apart := false, narrowed := true }
def EscapeWritesUptoSaid : Prop := escapeWritesUptoRow.holds Try.pinned (OpenSpec.upto escapeWritesSpec)

/-- 'portierelaw05.EscapeBack', WHERE WHAT IT READS IS OF BULK AT MOST 1048576: true; the input reads as it did. -/
def escapeBackUptoRow : OpenClaim := { program := "ytebcdfdkgjcmmaa", sum := "b0685ae2931d28260afe9ae4bd1eb5f4a71ccabe62f897659d8c396c8b15f10b", func := "portiere/portierelaw05.EscapeBack", spec := "escapeBack", inPlace := ["sync/atomic.LoadUint32", "(*internal/sync.Mutex).Lock", "internal/race.Disable", "sync/atomic.CompareAndSwapInt32", "internal/race.Enable", "internal/race.Acquire", "(*internal/sync.Mutex).lockSlow", "internal/sync.runtime_canSpin", "internal/sync.runtime_doSpin", "internal/sync.throw", "internal/sync.runtime_nanotime", "internal/sync.runtime_SemacquireMutex", "sync/atomic.AddInt32", "(*internal/sync.Mutex).Unlock", "internal/race.ReleaseMerge", "(*internal/sync.Mutex).unlockSlow", "internal/sync.fatal", "internal/sync.runtime_Semrelease", "sync/atomic.StoreUint32"], unfollowed := true, recurses := true, apart := false, narrowed := true }
def EscapeBackUptoSaid : Prop := escapeBackUptoRow.holds Try.pinned (OpenSpec.upto escapeBackSpec)

/-- 'portierelaw05.EscapeParts', WHERE WHAT IT READS IS OF BULK AT MOST 1048576: true; the input reads as it did. -/
def escapePartsUptoRow : OpenClaim := { program := "ytebcdfdkgjcmmaa", sum := "b0685ae2931d28260afe9ae4bd1eb5f4a71ccabe62f897659d8c396c8b15f10b", func := "portiere/portierelaw05.EscapeParts", spec := "escapeParts", inPlace := ["sync/atomic.LoadUint32", "(*internal/sync.Mutex).Lock", "internal/race.Disable", "sync/atomic.CompareAndSwapInt32", "internal/race.Enable", "internal/race.Acquire", "(*internal/sync.Mutex).lockSlow", "internal/sync.runtime_canSpin", "internal/sync.runtime_doSpin", "internal/sync.throw", "internal/sync.runtime_nanotime", "internal/sync.runtime_SemacquireMutex", "sync/atomic.AddInt32", "(*internal/sync.Mutex).Unlock", "internal/race.ReleaseMerge", "(*internal/sync.Mutex).unlockSlow", "internal/sync.fatal", "internal/sync.runtime_Semrelease", "sync/atomic.StoreUint32"], unfollowed := true, recurses := true, apart := false, narrowed := true }
def EscapePartsUptoSaid : Prop := escapePartsUptoRow.holds Try.pinned (OpenSpec.upto escapePartsSpec)

end Rows
end Go.Proofs.Ytebcdfdkgjcmmaa
