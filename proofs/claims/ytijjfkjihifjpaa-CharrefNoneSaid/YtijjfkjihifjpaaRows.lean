/-
  No cell of these rows narrows 'for every input' (looked for: loops, veiled, ifaces, maps, wideKeys, modest, calm, conditions, laid).
  DERIVED. THE GIVEN ROWS OF THIS SEAT. 7 by the template 'for every input the law returns true; each argument reads behind the call as it read before'; 0 by the template 'total and deterministic' (their statements: YtijjfkjihifjpaaTotals.lean).
  GIVEN WITH THE SEED: the statements are not yours to turn. If you find one false, say at which input.
  Laid BY PROGRAM, IN A SANDBOX (cutbox-rows.mjs): the forced cells as the released guide's own fill.sh prints them over the translation b3eac700bd170da4… (all of the seat's roots in one cut). By AI agents, Wed Nov 11 2026. No macro, syntax, notation, axiom, sorry.
-/
import Derived.Test.YtijjfkjihifjpaaChecked
import GoSem.Claim
import GoSem.ClaimJoined
import GoSem.ClaimMapViews
import Derived.JoinedTies
import Derived.KernelRfl
namespace Go.Proofs.Ytijjfkjihifjpaa
/- THE CELL 'sum', in the pinned program and in every row, IS THE sha256 OF THE DUMP (.gsa) THAT YtijjfkjihifjpaaProg.lean LOADS. Nothing in Lean hashes anything: it is a label: what it is worth is what the hold of that sum in a sandbox is worth. -/
noncomputable def Try.pinned : Pinned := { name := "ytijjfkjihifjpaa", sum := "b3eac700bd170da46275518652f92543bb37ed3e81df77eaf17bc6659abe7edf", checked := Try.checked }
namespace Rows
def none {H : Type} : Left H := { results := [], args := [] }

/-- 'portierelaw04.CharrefParts': WHATEVER THE INPUT: true; the input reads as it did. -/
def charrefPartsSpec : ChangeSpec := { name := "charrefParts", fn := fun _ => fun
  | [d1, d2] => { results := [.lit (.bool true)], args := [d1, d2] }
  | _ => none }
def charrefPartsRow : OpenClaim := { program := "ytijjfkjihifjpaa", sum := "b3eac700bd170da46275518652f92543bb37ed3e81df77eaf17bc6659abe7edf", func := "portiere/portierelaw04.CharrefParts", spec := "charrefParts", inPlace := ["internal/abi.NoEscape"], apart := false }
def CharrefPartsSaid : Prop := charrefPartsRow.holds Try.pinned (OpenSpec.ofChange charrefPartsSpec)

/-- ITS FALSE NEIGHBOUR: 'it returns false'. Refute it at one input. -/
def charrefPartsWrong : ChangeSpec := { name := "charrefParts", fn := fun _ => fun
  | [d1, d2] => { results := [.lit (.bool false)], args := [d1, d2] }
  | _ => none }
def CharrefPartsWrongFalsely : Prop := charrefPartsRow.holds Try.pinned (OpenSpec.ofChange charrefPartsWrong)

/-- 'portierelaw04.CharrefZeros': WHATEVER THE INPUT: true; the input reads as it did. -/
def charrefZerosSpec : ChangeSpec := { name := "charrefZeros", fn := fun _ => fun
  | [d1, d2] => { results := [.lit (.bool true)], args := [d1, d2] }
  | _ => none }
def charrefZerosRow : OpenClaim := { program := "ytijjfkjihifjpaa", sum := "b3eac700bd170da46275518652f92543bb37ed3e81df77eaf17bc6659abe7edf", func := "portiere/portierelaw04.CharrefZeros", spec := "charrefZeros", inPlace := ["internal/abi.NoEscape"], recurses := true, apart := false }
def CharrefZerosSaid : Prop := charrefZerosRow.holds Try.pinned (OpenSpec.ofChange charrefZerosSpec)

/-- ITS FALSE NEIGHBOUR: 'it returns false'. Refute it at one input. -/
def charrefZerosWrong : ChangeSpec := { name := "charrefZeros", fn := fun _ => fun
  | [d1, d2] => { results := [.lit (.bool false)], args := [d1, d2] }
  | _ => none }
def CharrefZerosWrongFalsely : Prop := charrefZerosRow.holds Try.pinned (OpenSpec.ofChange charrefZerosWrong)

/-- 'portierelaw04.CharrefTakes': WHATEVER THE INPUT: true; the input reads as it did. -/
def charrefTakesSpec : ChangeSpec := { name := "charrefTakes", fn := fun _ => fun
  | [d1, d2, d3] => { results := [.lit (.bool true)], args := [d1, d2, d3] }
  | _ => none }
def charrefTakesRow : OpenClaim := { program := "ytijjfkjihifjpaa", sum := "b3eac700bd170da46275518652f92543bb37ed3e81df77eaf17bc6659abe7edf", func := "portiere/portierelaw04.CharrefTakes", spec := "charrefTakes", inPlace := ["internal/abi.NoEscape"], apart := false }
def CharrefTakesSaid : Prop := charrefTakesRow.holds Try.pinned (OpenSpec.ofChange charrefTakesSpec)

/-- ITS FALSE NEIGHBOUR: 'it returns false'. Refute it at one input. -/
def charrefTakesWrong : ChangeSpec := { name := "charrefTakes", fn := fun _ => fun
  | [d1, d2, d3] => { results := [.lit (.bool false)], args := [d1, d2, d3] }
  | _ => none }
def CharrefTakesWrongFalsely : Prop := charrefTakesRow.holds Try.pinned (OpenSpec.ofChange charrefTakesWrong)

/-- 'portierelaw04.CharrefAll': WHATEVER THE INPUT: true; the input reads as it did. -/
def charrefAllSpec : ChangeSpec := { name := "charrefAll", fn := fun _ => fun
  | [d1, d2] => { results := [.lit (.bool true)], args := [d1, d2] }
  | _ => none }
def charrefAllRow : OpenClaim := { program := "ytijjfkjihifjpaa", sum := "b3eac700bd170da46275518652f92543bb37ed3e81df77eaf17bc6659abe7edf", func := "portiere/portierelaw04.CharrefAll", spec := "charrefAll", inPlace := ["internal/abi.NoEscape"], apart := false }
def CharrefAllSaid : Prop := charrefAllRow.holds Try.pinned (OpenSpec.ofChange charrefAllSpec)

/-- ITS FALSE NEIGHBOUR: 'it returns false'. Refute it at one input. -/
def charrefAllWrong : ChangeSpec := { name := "charrefAll", fn := fun _ => fun
  | [d1, d2] => { results := [.lit (.bool false)], args := [d1, d2] }
  | _ => none }
def CharrefAllWrongFalsely : Prop := charrefAllRow.holds Try.pinned (OpenSpec.ofChange charrefAllWrong)

/-- 'portierelaw04.CharrefNumbers': WHATEVER THE INPUT: true; the input reads as it did. -/
def charrefNumbersSpec : ChangeSpec := { name := "charrefNumbers", fn := fun _ => fun
  | [d1, d2] => { results := [.lit (.bool true)], args := [d1, d2] }
  | _ => none }
def charrefNumbersRow : OpenClaim := { program := "ytijjfkjihifjpaa", sum := "b3eac700bd170da46275518652f92543bb37ed3e81df77eaf17bc6659abe7edf", func := "portiere/portierelaw04.CharrefNumbers", spec := "charrefNumbers", inPlace := ["internal/abi.NoEscape"], recurses := true, apart := false }
def CharrefNumbersSaid : Prop := charrefNumbersRow.holds Try.pinned (OpenSpec.ofChange charrefNumbersSpec)

/-- ITS FALSE NEIGHBOUR: 'it returns false'. Refute it at one input. -/
def charrefNumbersWrong : ChangeSpec := { name := "charrefNumbers", fn := fun _ => fun
  | [d1, d2] => { results := [.lit (.bool false)], args := [d1, d2] }
  | _ => none }
def CharrefNumbersWrongFalsely : Prop := charrefNumbersRow.holds Try.pinned (OpenSpec.ofChange charrefNumbersWrong)

/-- 'portierelaw04.CharrefNone': WHATEVER THE INPUT: true; the input reads as it did. -/
def charrefNoneSpec : ChangeSpec := { name := "charrefNone", fn := fun _ => fun
  | [d1, d2, d3] => { results := [.lit (.bool true)], args := [d1, d2, d3] }
  | _ => none }
def charrefNoneRow : OpenClaim := { program := "ytijjfkjihifjpaa", sum := "b3eac700bd170da46275518652f92543bb37ed3e81df77eaf17bc6659abe7edf", func := "portiere/portierelaw04.CharrefNone", spec := "charrefNone", inPlace := ["internal/abi.NoEscape"], apart := false }
def CharrefNoneSaid : Prop := charrefNoneRow.holds Try.pinned (OpenSpec.ofChange charrefNoneSpec)

/-- ITS FALSE NEIGHBOUR: 'it returns false'. Refute it at one input. -/
def charrefNoneWrong : ChangeSpec := { name := "charrefNone", fn := fun _ => fun
  | [d1, d2, d3] => { results := [.lit (.bool false)], args := [d1, d2, d3] }
  | _ => none }
def CharrefNoneWrongFalsely : Prop := charrefNoneRow.holds Try.pinned (OpenSpec.ofChange charrefNoneWrong)

/-- 'portierelaw04.CharrefEnds': WHATEVER THE INPUT: true; the input reads as it did. -/
def charrefEndsSpec : ChangeSpec := { name := "charrefEnds", fn := fun _ => fun
  | [d1, d2] => { results := [.lit (.bool true)], args := [d1, d2] }
  | _ => none }
def charrefEndsRow : OpenClaim := { program := "ytijjfkjihifjpaa", sum := "b3eac700bd170da46275518652f92543bb37ed3e81df77eaf17bc6659abe7edf", func := "portiere/portierelaw04.CharrefEnds", spec := "charrefEnds", inPlace := ["internal/abi.NoEscape"], apart := false }
def CharrefEndsSaid : Prop := charrefEndsRow.holds Try.pinned (OpenSpec.ofChange charrefEndsSpec)

/-- ITS FALSE NEIGHBOUR: 'it returns false'. Refute it at one input. -/
def charrefEndsWrong : ChangeSpec := { name := "charrefEnds", fn := fun _ => fun
  | [d1, d2] => { results := [.lit (.bool false)], args := [d1, d2] }
  | _ => none }
def CharrefEndsWrongFalsely : Prop := charrefEndsRow.holds Try.pinned (OpenSpec.ofChange charrefEndsWrong)

/- THE SECOND FORM. 'bulk': how many values and letters a reading holds, each counted each time it is reached (what is shared counts as often as it is met; a slice's spare places count too). A statement '..UptoSaid' is the law's where the arguments, and the package variables that the reading takes, are together of bulk at most 1048576: NARROWER than '..Said'. Prove '..Said' where nothing that the law and all that it calls make is longer than what came in: it says more and counts as full. Else prove '..UptoSaid'. A law counts once. -/
mutual
def uptoBulk {H : Type} : DataW H → Nat
  | .lit (.string bytes) => bytes.length + 1
  | .lit _ => 1
  | .nil => 1
  | .ptr d => uptoBulk d + 1
  | .slice elems spare => uptoBulkAll elems + uptoBulkAll spare + 1
  | .agg parts => uptoBulkAll parts + 1
  | .iface _ d => uptoBulk d + 1
  | .map entries => uptoBulkEntries entries + 1
  | .held _ => 1
def uptoBulkAll {H : Type} : List (DataW H) → Nat
  | [] => 0
  | d :: r => uptoBulk d + uptoBulkAll r
def uptoBulkEntries {H : Type} : List (Lit × DataW H) → Nat
  | [] => 0
  | x :: r => uptoBulkEntry x + uptoBulkEntries r
def uptoBulkEntry {H : Type} : Lit × DataW H → Nat
  | (.string bytes, d) => bytes.length + uptoBulk d + 1
  | (_, d) => uptoBulk d + 1
 end
def uptoSmall : (H : Type) → List (DataW H) → Bool := fun _ ds => decide (uptoBulkAll ds ≤ 1048576)
def OpenSpec.upto (s : _root_.Go.ChangeSpec) : _root_.Go.OpenSpec := { _root_.Go.OpenSpec.ofChange s with cond := some uptoSmall }

/-- 'portierelaw04.CharrefParts', WHERE WHAT IT READS IS OF BULK AT MOST 1048576: true; the input reads as it did. -/
def charrefPartsUptoRow : OpenClaim := { program := "ytijjfkjihifjpaa", sum := "b3eac700bd170da46275518652f92543bb37ed3e81df77eaf17bc6659abe7edf", func := "portiere/portierelaw04.CharrefParts", spec := "charrefParts", inPlace := ["internal/abi.NoEscape"], apart := false, narrowed := true }
def CharrefPartsUptoSaid : Prop := charrefPartsUptoRow.holds Try.pinned (OpenSpec.upto charrefPartsSpec)

/-- 'portierelaw04.CharrefZeros', WHERE WHAT IT READS IS OF BULK AT MOST 1048576: true; the input reads as it did. -/
def charrefZerosUptoRow : OpenClaim := { program := "ytijjfkjihifjpaa", sum := "b3eac700bd170da46275518652f92543bb37ed3e81df77eaf17bc6659abe7edf", func := "portiere/portierelaw04.CharrefZeros", spec := "charrefZeros", inPlace := ["internal/abi.NoEscape"], recurses := true, apart := false, narrowed := true }
def CharrefZerosUptoSaid : Prop := charrefZerosUptoRow.holds Try.pinned (OpenSpec.upto charrefZerosSpec)

/-- 'portierelaw04.CharrefTakes', WHERE WHAT IT READS IS OF BULK AT MOST 1048576: true; the input reads as it did. -/
def charrefTakesUptoRow : OpenClaim := { program := "ytijjfkjihifjpaa", sum := "b3eac700bd170da46275518652f92543bb37ed3e81df77eaf17bc6659abe7edf", func := "portiere/portierelaw04.CharrefTakes", spec := "charrefTakes", inPlace := ["internal/abi.NoEscape"], apart := false, narrowed := true }
def CharrefTakesUptoSaid : Prop := charrefTakesUptoRow.holds Try.pinned (OpenSpec.upto charrefTakesSpec)

/-- 'portierelaw04.CharrefAll', WHERE WHAT IT READS IS OF BULK AT MOST 1048576: true; the input reads as it did. -/
def charrefAllUptoRow : OpenClaim := { program := "ytijjfkjihifjpaa", sum := "b3eac700bd170da46275518652f92543bb37ed3e81df77eaf17bc6659abe7edf", func := "portiere/portierelaw04.CharrefAll", spec := "charrefAll", inPlace := ["internal/abi.NoEscape"], apart := false, narrowed := true }
def CharrefAllUptoSaid : Prop := charrefAllUptoRow.holds Try.pinned (OpenSpec.upto charrefAllSpec)

/-- 'portierelaw04.CharrefNumbers', WHERE WHAT IT READS IS OF BULK AT MOST 1048576: true; the input reads as it did. -/
def charrefNumbersUptoRow : OpenClaim := { program := "ytijjfkjihifjpaa", sum := "b3eac700bd170da46275518652f92543bb37ed3e81df77eaf17bc6659abe7edf", func := "portiere/portierelaw04.CharrefNumbers", spec := "charrefNumbers", inPlace := ["internal/abi.NoEscape"], recurses := true, apart := false, narrowed := true }
def CharrefNumbersUptoSaid : Prop := charrefNumbersUptoRow.holds Try.pinned (OpenSpec.upto charrefNumbersSpec)

/-- 'portierelaw04.CharrefNone', WHERE WHAT IT READS IS OF BULK AT MOST 1048576: true; the input reads as it did. -/
def charrefNoneUptoRow : OpenClaim := { program := "ytijjfkjihifjpaa", sum := "b3eac700bd170da46275518652f92543bb37ed3e81df77eaf17bc6659abe7edf", func := "portiere/portierelaw04.CharrefNone", spec := "charrefNone", inPlace := ["internal/abi.NoEscape"], apart := false, narrowed := true }
def CharrefNoneUptoSaid : Prop := charrefNoneUptoRow.holds Try.pinned (OpenSpec.upto charrefNoneSpec)

/-- 'portierelaw04.CharrefEnds', WHERE WHAT IT READS IS OF BULK AT MOST 1048576: true; the input reads as it did. -/
def charrefEndsUptoRow : OpenClaim := { program := "ytijjfkjihifjpaa", sum := "b3eac700bd170da46275518652f92543bb37ed3e81df77eaf17bc6659abe7edf", func := "portiere/portierelaw04.CharrefEnds", spec := "charrefEnds", inPlace := ["internal/abi.NoEscape"], apart := false, narrowed := true }
def CharrefEndsUptoSaid : Prop := charrefEndsUptoRow.holds Try.pinned (OpenSpec.upto charrefEndsSpec)

end Rows
end Go.Proofs.Ytijjfkjihifjpaa
