/-
  No cell of these rows narrows 'for every input' (looked for: loops, veiled, ifaces, maps, wideKeys, modest, calm, conditions, laid).
  DERIVED. THE GIVEN ROWS OF THIS SEAT. 7 by the template 'for every input the law returns true; each argument reads behind the call as it read before'; 0 by the template 'total and deterministic' (their statements: YtmljfdkmijepnaaTotals.lean).
  GIVEN WITH THE SEED: the statements are not yours to turn. If you find one false, say at which input.
  Laid BY PROGRAM, IN A SANDBOX (cutbox-rows.mjs): the forced cells as the released guide's own fill.sh prints them over the translation aa1333c8a1fb475b… (all of the seat's roots in one cut). By AI agents, Wed Nov 11 2026. No macro, syntax, notation, axiom, sorry.
-/
import Derived.Test.YtmljfdkmijepnaaChecked
import GoSem.Claim
import GoSem.ClaimJoined
import GoSem.ClaimMapViews
import Derived.JoinedTies
import Derived.KernelRfl
namespace Go.Proofs.Ytmljfdkmijepnaa
/- THE CELL 'sum', in the pinned program and in every row, IS THE sha256 OF THE DUMP (.gsa) THAT YtmljfdkmijepnaaProg.lean LOADS. Nothing in Lean hashes anything: it is a label: what it is worth is what the hold of that sum in a sandbox is worth. -/
noncomputable def Try.pinned : Pinned := { name := "ytmljfdkmijepnaa", sum := "aa1333c8a1fb475b89300ea55cdd913149fcd6b7d33149a87a574f52a9615fe1", checked := Try.checked }
namespace Rows
def none {H : Type} : Left H := { results := [], args := [] }

/-- 'portierelaw02.PlaceMany': WHATEVER THE INPUT: true; the input reads as it did. -/
def placeManySpec : ChangeSpec := { name := "placeMany", fn := fun _ => fun
  | [d1, d2] => { results := [.lit (.bool true)], args := [d1, d2] }
  | _ => none }
def placeManyRow : OpenClaim := { program := "ytmljfdkmijepnaa", sum := "aa1333c8a1fb475b89300ea55cdd913149fcd6b7d33149a87a574f52a9615fe1", func := "portiere/portierelaw02.PlaceMany", spec := "placeMany", inPlace := ["internal/bytealg.CountString", "internal/bytealg.IndexByteString", "internal/bytealg.IndexString"], named := ["internal/bytealg.MaxLen"], apart := false }
def PlaceManySaid : Prop := placeManyRow.holds Try.pinned (OpenSpec.ofChange placeManySpec)

/-- ITS FALSE NEIGHBOUR: 'it returns false'. Refute it at one input. -/
def placeManyWrong : ChangeSpec := { name := "placeMany", fn := fun _ => fun
  | [d1, d2] => { results := [.lit (.bool false)], args := [d1, d2] }
  | _ => none }
def PlaceManyWrongFalsely : Prop := placeManyRow.holds Try.pinned (OpenSpec.ofChange placeManyWrong)

/-- 'portierelaw02.PlaceColumns': WHATEVER THE INPUT: true; the input reads as it did. -/
def placeColumnsSpec : ChangeSpec := { name := "placeColumns", fn := fun _ => fun
  | [d1, d2] => { results := [.lit (.bool true)], args := [d1, d2] }
  | _ => none }
def placeColumnsRow : OpenClaim := { program := "ytmljfdkmijepnaa", sum := "aa1333c8a1fb475b89300ea55cdd913149fcd6b7d33149a87a574f52a9615fe1", func := "portiere/portierelaw02.PlaceColumns", spec := "placeColumns", inPlace := ["internal/bytealg.CountString", "internal/bytealg.IndexByteString", "internal/bytealg.IndexString"], named := ["internal/bytealg.MaxLen"], apart := false }
def PlaceColumnsSaid : Prop := placeColumnsRow.holds Try.pinned (OpenSpec.ofChange placeColumnsSpec)

/-- ITS FALSE NEIGHBOUR: 'it returns false'. Refute it at one input. -/
def placeColumnsWrong : ChangeSpec := { name := "placeColumns", fn := fun _ => fun
  | [d1, d2] => { results := [.lit (.bool false)], args := [d1, d2] }
  | _ => none }
def PlaceColumnsWrongFalsely : Prop := placeColumnsRow.holds Try.pinned (OpenSpec.ofChange placeColumnsWrong)

/-- 'portierelaw02.PlaceAt': WHATEVER THE INPUT: true; the input reads as it did. -/
def placeAtSpec : ChangeSpec := { name := "placeAt", fn := fun _ => fun
  | [d1, d2] => { results := [.lit (.bool true)], args := [d1, d2] }
  | _ => none }
def placeAtRow : OpenClaim := { program := "ytmljfdkmijepnaa", sum := "aa1333c8a1fb475b89300ea55cdd913149fcd6b7d33149a87a574f52a9615fe1", func := "portiere/portierelaw02.PlaceAt", spec := "placeAt", inPlace := ["internal/bytealg.CountString", "internal/bytealg.IndexByteString", "internal/bytealg.IndexString"], named := ["internal/bytealg.MaxLen"], apart := false }
def PlaceAtSaid : Prop := placeAtRow.holds Try.pinned (OpenSpec.ofChange placeAtSpec)

/-- ITS FALSE NEIGHBOUR: 'it returns false'. Refute it at one input. -/
def placeAtWrong : ChangeSpec := { name := "placeAt", fn := fun _ => fun
  | [d1, d2] => { results := [.lit (.bool false)], args := [d1, d2] }
  | _ => none }
def PlaceAtWrongFalsely : Prop := placeAtRow.holds Try.pinned (OpenSpec.ofChange placeAtWrong)

/-- 'portierelaw02.PlaceOf': WHATEVER THE INPUT: true; the input reads as it did. -/
def placeOfSpec : ChangeSpec := { name := "placeOf", fn := fun _ => fun
  | [d1, d2, d3] => { results := [.lit (.bool true)], args := [d1, d2, d3] }
  | _ => none }
def placeOfRow : OpenClaim := { program := "ytmljfdkmijepnaa", sum := "aa1333c8a1fb475b89300ea55cdd913149fcd6b7d33149a87a574f52a9615fe1", func := "portiere/portierelaw02.PlaceOf", spec := "placeOf", inPlace := ["internal/bytealg.CountString", "internal/bytealg.IndexByteString", "internal/bytealg.IndexString"], named := ["internal/bytealg.MaxLen"], apart := false }
def PlaceOfSaid : Prop := placeOfRow.holds Try.pinned (OpenSpec.ofChange placeOfSpec)

/-- ITS FALSE NEIGHBOUR: 'it returns false'. Refute it at one input. -/
def placeOfWrong : ChangeSpec := { name := "placeOf", fn := fun _ => fun
  | [d1, d2, d3] => { results := [.lit (.bool false)], args := [d1, d2, d3] }
  | _ => none }
def PlaceOfWrongFalsely : Prop := placeOfRow.holds Try.pinned (OpenSpec.ofChange placeOfWrong)

/-- 'portierelaw02.PlaceBack': WHATEVER THE INPUT: true; the input reads as it did. -/
def placeBackSpec : ChangeSpec := { name := "placeBack", fn := fun _ => fun
  | [d1, d2] => { results := [.lit (.bool true)], args := [d1, d2] }
  | _ => none }
def placeBackRow : OpenClaim := { program := "ytmljfdkmijepnaa", sum := "aa1333c8a1fb475b89300ea55cdd913149fcd6b7d33149a87a574f52a9615fe1", func := "portiere/portierelaw02.PlaceBack", spec := "placeBack", inPlace := ["internal/bytealg.CountString", "internal/bytealg.IndexByteString", "internal/bytealg.IndexString"], named := ["internal/bytealg.MaxLen"], apart := false }
def PlaceBackSaid : Prop := placeBackRow.holds Try.pinned (OpenSpec.ofChange placeBackSpec)

/-- ITS FALSE NEIGHBOUR: 'it returns false'. Refute it at one input. -/
def placeBackWrong : ChangeSpec := { name := "placeBack", fn := fun _ => fun
  | [d1, d2] => { results := [.lit (.bool false)], args := [d1, d2] }
  | _ => none }
def PlaceBackWrongFalsely : Prop := placeBackRow.holds Try.pinned (OpenSpec.ofChange placeBackWrong)

/-- 'portierelaw02.PlaceLines': WHATEVER THE INPUT: true; the input reads as it did. -/
def placeLinesSpec : ChangeSpec := { name := "placeLines", fn := fun _ => fun
  | [d1, d2] => { results := [.lit (.bool true)], args := [d1, d2] }
  | _ => none }
def placeLinesRow : OpenClaim := { program := "ytmljfdkmijepnaa", sum := "aa1333c8a1fb475b89300ea55cdd913149fcd6b7d33149a87a574f52a9615fe1", func := "portiere/portierelaw02.PlaceLines", spec := "placeLines", inPlace := ["internal/bytealg.CountString", "internal/bytealg.IndexByteString", "internal/bytealg.IndexString"], named := ["internal/bytealg.MaxLen"], apart := false }
def PlaceLinesSaid : Prop := placeLinesRow.holds Try.pinned (OpenSpec.ofChange placeLinesSpec)

/-- ITS FALSE NEIGHBOUR: 'it returns false'. Refute it at one input. -/
def placeLinesWrong : ChangeSpec := { name := "placeLines", fn := fun _ => fun
  | [d1, d2] => { results := [.lit (.bool false)], args := [d1, d2] }
  | _ => none }
def PlaceLinesWrongFalsely : Prop := placeLinesRow.holds Try.pinned (OpenSpec.ofChange placeLinesWrong)

/-- 'portierelaw02.PlaceOrder': WHATEVER THE INPUT: true; the input reads as it did. -/
def placeOrderSpec : ChangeSpec := { name := "placeOrder", fn := fun _ => fun
  | [d1, d2, d3] => { results := [.lit (.bool true)], args := [d1, d2, d3] }
  | _ => none }
def placeOrderRow : OpenClaim := { program := "ytmljfdkmijepnaa", sum := "aa1333c8a1fb475b89300ea55cdd913149fcd6b7d33149a87a574f52a9615fe1", func := "portiere/portierelaw02.PlaceOrder", spec := "placeOrder", inPlace := ["internal/bytealg.CountString", "internal/bytealg.IndexByteString", "internal/bytealg.IndexString"], named := ["internal/bytealg.MaxLen"], apart := false }
def PlaceOrderSaid : Prop := placeOrderRow.holds Try.pinned (OpenSpec.ofChange placeOrderSpec)

/-- ITS FALSE NEIGHBOUR: 'it returns false'. Refute it at one input. -/
def placeOrderWrong : ChangeSpec := { name := "placeOrder", fn := fun _ => fun
  | [d1, d2, d3] => { results := [.lit (.bool false)], args := [d1, d2, d3] }
  | _ => none }
def PlaceOrderWrongFalsely : Prop := placeOrderRow.holds Try.pinned (OpenSpec.ofChange placeOrderWrong)

/- THE SECOND FORM. 'bulk': how many values and letters a reading holds, each counted each time it is reached (what is shared counts as often as it is met; a slice's spare places count too). A statement '..UptoSaid' is the law's where the arguments, and the package variables that the reading takes, are together of bulk at most 1048576: NARROWER than '..Said'. Prove '..Said' where nothing that the law and all that it calls make is longer than what came in: it says more and counts as full. Else prove '..UptoSaid'. A law counts once. -/
mutual
def uptoBulk {H : Type} : DataW H → Nat
  | .lit (.string bytes) => bytes.length + 1
  | .lit _ => 1
  | .nil => 1
  | .ptr d => uptoBulk d + 1
  | .slice elems spare => uptoBulkAll elems + uptoBulkAll spare + 1
  | .agg parts => uptoBulkAll parts + 1
  | .iface _ d => uptoBulk d + 1
  | .map entries => uptoBulkEntries entries + 1
  | .held _ => 1
def uptoBulkAll {H : Type} : List (DataW H) → Nat
  | [] => 0
  | d :: r => uptoBulk d + uptoBulkAll r
def uptoBulkEntries {H : Type} : List (Lit × DataW H) → Nat
  | [] => 0
  | x :: r => uptoBulkEntry x + uptoBulkEntries r
def uptoBulkEntry {H : Type} : Lit × DataW H → Nat
  | (.string bytes, d) => bytes.length + uptoBulk d + 1
  | (_, d) => uptoBulk d + 1
 end
def uptoSmall : (H : Type) → List (DataW H) → Bool := fun _ ds => decide (uptoBulkAll ds ≤ 1048576)
def OpenSpec.upto (s : _root_.Go.ChangeSpec) : _root_.Go.OpenSpec := { _root_.Go.OpenSpec.ofChange s with cond := some uptoSmall }

/-- 'portierelaw02.PlaceMany', WHERE WHAT IT READS IS OF BULK AT MOST 1048576: true; the input reads as it did. -/
def placeManyUptoRow : OpenClaim := { program := "ytmljfdkmijepnaa", sum := "aa1333c8a1fb475b89300ea55cdd913149fcd6b7d33149a87a574f52a9615fe1", func := "portiere/portierelaw02.PlaceMany", spec := "placeMany", inPlace := ["internal/bytealg.CountString", "internal/bytealg.IndexByteString", "internal/bytealg.IndexString"], named := ["internal/bytealg.MaxLen"], apart := false, narrowed := true }
def PlaceManyUptoSaid : Prop := placeManyUptoRow.holds Try.pinned (OpenSpec.upto placeManySpec)

/-- 'portierelaw02.PlaceColumns', WHERE WHAT IT READS IS OF BULK AT MOST 1048576: true; the input reads as it did. -/
def placeColumnsUptoRow : OpenClaim := { program := "ytmljfdkmijepnaa", sum := "aa1333c8a1fb475b89300ea55cdd913149fcd6b7d33149a87a574f52a9615fe1", func := "portiere/portierelaw02.PlaceColumns", spec := "placeColumns", inPlace := ["internal/bytealg.CountString", "internal/bytealg.IndexByteString", "internal/bytealg.IndexString"], named := ["internal/bytealg.MaxLen"], apart := false, narrowed := true }
def PlaceColumnsUptoSaid : Prop := placeColumnsUptoRow.holds Try.pinned (OpenSpec.upto placeColumnsSpec)

/-- 'portierelaw02.PlaceAt', WHERE WHAT IT READS IS OF BULK AT MOST 1048576: true; the input reads as it did. -/
def placeAtUptoRow : OpenClaim := { program := "ytmljfdkmijepnaa", sum := "aa1333c8a1fb475b89300ea55cdd913149fcd6b7d33149a87a574f52a9615fe1", func := "portiere/portierelaw02.PlaceAt", spec := "placeAt", inPlace := ["internal/bytealg.CountString", "internal/bytealg.IndexByteString", "internal/bytealg.IndexString"], named := ["internal/bytealg.MaxLen"], apart := false, narrowed := true }
def PlaceAtUptoSaid : Prop := placeAtUptoRow.holds Try.pinned (OpenSpec.upto placeAtSpec)

/-- 'portierelaw02.PlaceOf', WHERE WHAT IT READS IS OF BULK AT MOST 1048576: true; the input reads as it did. -/
def placeOfUptoRow : OpenClaim := { program := "ytmljfdkmijepnaa", sum := "aa1333c8a1fb475b89300ea55cdd913149fcd6b7d33149a87a574f52a9615fe1", func := "portiere/portierelaw02.PlaceOf", spec := "placeOf", inPlace := ["internal/bytealg.CountString", "internal/bytealg.IndexByteString", "internal/bytealg.IndexString"], named := ["internal/bytealg.MaxLen"], apart := false, narrowed := true }
def PlaceOfUptoSaid : Prop := placeOfUptoRow.holds Try.pinned (OpenSpec.upto placeOfSpec)

/-- 'portierelaw02.PlaceBack', WHERE WHAT IT READS IS OF BULK AT MOST 1048576: true; the input reads as it did. -/
def placeBackUptoRow : OpenClaim := { program := "ytmljfdkmijepnaa", sum := "aa1333c8a1fb475b89300ea55cdd913149fcd6b7d33149a87a574f52a9615fe1", func := "portiere/portierelaw02.PlaceBack", spec := "placeBack", inPlace := ["internal/bytealg.CountString", "internal/bytealg.IndexByteString", "internal/bytealg.IndexString"], named := ["internal/bytealg.MaxLen"], apart := false, narrowed := true }
def PlaceBackUptoSaid : Prop := placeBackUptoRow.holds Try.pinned (OpenSpec.upto placeBackSpec)

/-- 'portierelaw02.PlaceLines', WHERE WHAT IT READS IS OF BULK AT MOST 1048576: true; the input reads as it did. -/
def placeLinesUptoRow : OpenClaim := { program := "ytmljfdkmijepnaa", sum := "aa1333c8a1fb475b89300ea55cdd913149fcd6b7d33149a87a574f52a9615fe1", func := "portiere/portierelaw02.PlaceLines", spec := "placeLines", inPlace := ["internal/bytealg.CountString", "internal/bytealg.IndexByteString", "internal/bytealg.IndexString"], named := ["internal/bytealg.MaxLen"], apart := false, narrowed := true }
def PlaceLinesUptoSaid : Prop := placeLinesUptoRow.holds Try.pinned (OpenSpec.upto placeLinesSpec)

/-- 'portierelaw02.PlaceOrder', WHERE WHAT IT READS IS OF BULK AT MOST 1048576: true; the input reads as it did. -/
def placeOrderUptoRow : OpenClaim := { program := "ytmljfdkmijepnaa", sum := "aa1333c8a1fb475b89300ea55cdd913149fcd6b7d33149a87a574f52a9615fe1", func := "portiere/portierelaw02.PlaceOrder", spec := "placeOrder", inPlace := ["internal/bytealg.CountString", "internal/bytealg.IndexByteString", "internal/bytealg.IndexString"], named := ["internal/bytealg.MaxLen"], apart := false, narrowed := true }
def PlaceOrderUptoSaid : Prop := placeOrderUptoRow.holds Try.pinned (OpenSpec.upto placeOrderSpec)

end Rows
end Go.Proofs.Ytmljfdkmijepnaa
