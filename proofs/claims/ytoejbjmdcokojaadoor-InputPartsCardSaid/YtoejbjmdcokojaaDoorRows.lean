/-
  NARROWER THAN 'FOR EVERY INPUT', by the rows' own cells (each row's printed sentence says how): InputEnds: laid · InputMark: laid · InputDecodes: laid · InputParts: laid · InputPlain: laid · InputRunes: laid · InputMany: laid.
  DERIVED. THE GIVEN ROWS OF THIS SEAT. 7 by the template 'for every input the law returns true; each argument reads behind the call as it read before'; 0 by the template 'total and deterministic' (their statements: YtoejbjmdcokojaaDoorTotals.lean).
  GIVEN WITH THE SEED: the statements are not yours to turn. If you find one false, say at which input.
  Laid BY PROGRAM, IN A SANDBOX (cutbox-rows.mjs): the forced cells as the released guide's own fill.sh prints them over the translation bc36a7e947b6a7d6… (all of the seat's roots in one cut). By AI agents, Wed Nov 11 2026. No macro, syntax, notation, axiom, sorry.
-/
import Derived.Test.YtoejbjmdcokojaaDoorChecked
import GoSem.PinnedTables
import GoSem.Claim
import GoSem.ClaimJoined
import GoSem.ClaimMapViews
import Derived.JoinedTies
import Derived.KernelRfl
namespace Go.Proofs.YtoejbjmdcokojaaDoor
/- THE CELL 'sum', in the pinned program and in every row, IS THE sha256 OF THE DUMP (.gsa) THAT YtoejbjmdcokojaaDoorProg.lean LOADS. Nothing in Lean hashes anything: it is a label: what it is worth is what the hold of that sum in a sandbox is worth. -/
noncomputable def Tryd.pinned : Pinned := { name := "ytoejbjmdcokojaadoor", sum := "bc36a7e947b6a7d6db8a4cbc39ed9a073aa8a50fe533d4159326196c1d7ca9d9", checked := Tryd.checked }
namespace Rows
def none {H : Type} : Left H := { results := [], args := [] }

/- WHAT THE LISTED PACKAGE-LEVEL VARIABLES READ AS WHEN THE CALL BEGINS. Each datum BY PROGRAM (the guide's laid-datum.mjs) off the statement by which the dump's own 'gosem.cut.vars' lays the variable. In a bare row this is a premise. The card (YtoejbjmdcokojaaDoorCards.lean) ties it to the program's text. -/
def laid_unicode_utf8_acceptRanges {H : Type} : DataW H := .agg [.agg [.lit (.int .u8 128), .lit (.int .u8 191)], .agg [.lit (.int .u8 160), .lit (.int .u8 191)], .agg [.lit (.int .u8 128), .lit (.int .u8 159)], .agg [.lit (.int .u8 144), .lit (.int .u8 191)], .agg [.lit (.int .u8 128), .lit (.int .u8 143)], .agg [.lit (.int .u8 0), .lit (.int .u8 0)], .agg [.lit (.int .u8 0), .lit (.int .u8 0)], .agg [.lit (.int .u8 0), .lit (.int .u8 0)], .agg [.lit (.int .u8 0), .lit (.int .u8 0)], .agg [.lit (.int .u8 0), .lit (.int .u8 0)], .agg [.lit (.int .u8 0), .lit (.int .u8 0)], .agg [.lit (.int .u8 0), .lit (.int .u8 0)], .agg [.lit (.int .u8 0), .lit (.int .u8 0)], .agg [.lit (.int .u8 0), .lit (.int .u8 0)], .agg [.lit (.int .u8 0), .lit (.int .u8 0)], .agg [.lit (.int .u8 0), .lit (.int .u8 0)]]
def laid_portiere_input_rest {H : Type} : DataW H := .agg [.lit (.int .u8 128), .lit (.int .u8 191)]
/-- One of Go's own tables, pinned by name: the form's constant. -/
def laid_unicode_utf8_first : DataW Unit := Go.Pinned.utf8First

/-- 'portierelaw01.InputEnds': WHATEVER THE INPUT: true; the input reads as it did. -/
def inputEndsSpec : ChangeSpec := { name := "inputEnds", fn := fun _ => fun
  | [d1, d2, d3] => { results := [.lit (.bool true)], args := [d1, d2, d3] }
  | _ => none }
def inputEndsRow : OpenClaim := { program := "ytoejbjmdcokojaadoor", sum := "bc36a7e947b6a7d6db8a4cbc39ed9a073aa8a50fe533d4159326196c1d7ca9d9", func := "portiere/portierelaw01.InputEnds", spec := "inputEnds", inPlace := ["internal/abi.NoEscape", "internal/bytealg.CountString", "internal/bytealg.IndexByteString", "internal/bytealg.IndexString", "internal/bytealg.MakeNoZero"], unfollowed := true, recurses := true, named := ["portiere/input.rest", "internal/bytealg.MaxLen", "unicode/utf8.first", "unicode/utf8.acceptRanges"], apart := false, laid := [("unicode/utf8.acceptRanges", laid_unicode_utf8_acceptRanges), ("portiere/input.rest", laid_portiere_input_rest), ("unicode/utf8.first", laid_unicode_utf8_first)] }
def InputEndsSaid : Prop := inputEndsRow.holds Tryd.pinned (OpenSpec.ofChange inputEndsSpec)

/-- ITS FALSE NEIGHBOUR: 'it returns false'. Refute it at one input. -/
def inputEndsWrong : ChangeSpec := { name := "inputEnds", fn := fun _ => fun
  | [d1, d2, d3] => { results := [.lit (.bool false)], args := [d1, d2, d3] }
  | _ => none }
def InputEndsWrongFalsely : Prop := inputEndsRow.holds Tryd.pinned (OpenSpec.ofChange inputEndsWrong)

/-- 'portierelaw01.InputMark': WHATEVER THE INPUT: true; the input reads as it did. -/
def inputMarkSpec : ChangeSpec := { name := "inputMark", fn := fun _ => fun
  | [d] => { results := [.lit (.bool true)], args := [d] }
  | _ => none }
def inputMarkRow : OpenClaim := { program := "ytoejbjmdcokojaadoor", sum := "bc36a7e947b6a7d6db8a4cbc39ed9a073aa8a50fe533d4159326196c1d7ca9d9", func := "portiere/portierelaw01.InputMark", spec := "inputMark", inPlace := ["internal/abi.NoEscape", "internal/bytealg.CountString", "internal/bytealg.IndexByteString", "internal/bytealg.IndexString", "internal/bytealg.MakeNoZero"], unfollowed := true, recurses := true, named := ["portiere/input.rest", "internal/bytealg.MaxLen", "unicode/utf8.first", "unicode/utf8.acceptRanges"], apart := false, laid := [("unicode/utf8.acceptRanges", laid_unicode_utf8_acceptRanges), ("portiere/input.rest", laid_portiere_input_rest), ("unicode/utf8.first", laid_unicode_utf8_first)] }
def InputMarkSaid : Prop := inputMarkRow.holds Tryd.pinned (OpenSpec.ofChange inputMarkSpec)

/-- ITS FALSE NEIGHBOUR: 'it returns false'. Refute it at one input. -/
def inputMarkWrong : ChangeSpec := { name := "inputMark", fn := fun _ => fun
  | [d] => { results := [.lit (.bool false)], args := [d] }
  | _ => none }
def InputMarkWrongFalsely : Prop := inputMarkRow.holds Tryd.pinned (OpenSpec.ofChange inputMarkWrong)

/-- 'portierelaw01.InputDecodes': WHATEVER THE INPUT: true; the input reads as it did. -/
def inputDecodesSpec : ChangeSpec := { name := "inputDecodes", fn := fun _ => fun
  | [d] => { results := [.lit (.bool true)], args := [d] }
  | _ => none }
def inputDecodesRow : OpenClaim := { program := "ytoejbjmdcokojaadoor", sum := "bc36a7e947b6a7d6db8a4cbc39ed9a073aa8a50fe533d4159326196c1d7ca9d9", func := "portiere/portierelaw01.InputDecodes", spec := "inputDecodes", inPlace := ["internal/abi.NoEscape", "internal/bytealg.CountString", "internal/bytealg.IndexByteString", "internal/bytealg.IndexString", "internal/bytealg.MakeNoZero"], unfollowed := true, recurses := true, named := ["portiere/input.rest", "internal/bytealg.MaxLen", "unicode/utf8.first", "unicode/utf8.acceptRanges"], apart := false, laid := [("unicode/utf8.acceptRanges", laid_unicode_utf8_acceptRanges), ("portiere/input.rest", laid_portiere_input_rest), ("unicode/utf8.first", laid_unicode_utf8_first)] }
def InputDecodesSaid : Prop := inputDecodesRow.holds Tryd.pinned (OpenSpec.ofChange inputDecodesSpec)

/-- ITS FALSE NEIGHBOUR: 'it returns false'. Refute it at one input. -/
def inputDecodesWrong : ChangeSpec := { name := "inputDecodes", fn := fun _ => fun
  | [d] => { results := [.lit (.bool false)], args := [d] }
  | _ => none }
def InputDecodesWrongFalsely : Prop := inputDecodesRow.holds Tryd.pinned (OpenSpec.ofChange inputDecodesWrong)

/-- 'portierelaw01.InputParts': WHATEVER THE INPUT: true; the input reads as it did. -/
def inputPartsSpec : ChangeSpec := { name := "inputParts", fn := fun _ => fun
  | [d] => { results := [.lit (.bool true)], args := [d] }
  | _ => none }
def inputPartsRow : OpenClaim := { program := "ytoejbjmdcokojaadoor", sum := "bc36a7e947b6a7d6db8a4cbc39ed9a073aa8a50fe533d4159326196c1d7ca9d9", func := "portiere/portierelaw01.InputParts", spec := "inputParts", inPlace := ["internal/abi.NoEscape", "internal/bytealg.CountString", "internal/bytealg.IndexByteString", "internal/bytealg.IndexString", "internal/bytealg.MakeNoZero"], unfollowed := true, recurses := true, named := ["portiere/input.rest", "internal/bytealg.MaxLen", "unicode/utf8.first", "unicode/utf8.acceptRanges"], apart := false, laid := [("unicode/utf8.acceptRanges", laid_unicode_utf8_acceptRanges), ("portiere/input.rest", laid_portiere_input_rest), ("unicode/utf8.first", laid_unicode_utf8_first)] }
def InputPartsSaid : Prop := inputPartsRow.holds Tryd.pinned (OpenSpec.ofChange inputPartsSpec)

/-- ITS FALSE NEIGHBOUR: 'it returns false'. Refute it at one input. -/
def inputPartsWrong : ChangeSpec := { name := "inputParts", fn := fun _ => fun
  | [d] => { results := [.lit (.bool false)], args := [d] }
  | _ => none }
def InputPartsWrongFalsely : Prop := inputPartsRow.holds Tryd.pinned (OpenSpec.ofChange inputPartsWrong)

/-- 'portierelaw01.InputPlain': WHATEVER THE INPUT: true; the input reads as it did. -/
def inputPlainSpec : ChangeSpec := { name := "inputPlain", fn := fun _ => fun
  | [d] => { results := [.lit (.bool true)], args := [d] }
  | _ => none }
def inputPlainRow : OpenClaim := { program := "ytoejbjmdcokojaadoor", sum := "bc36a7e947b6a7d6db8a4cbc39ed9a073aa8a50fe533d4159326196c1d7ca9d9", func := "portiere/portierelaw01.InputPlain", spec := "inputPlain", inPlace := ["internal/abi.NoEscape", "internal/bytealg.CountString", "internal/bytealg.IndexByteString", "internal/bytealg.IndexString", "internal/bytealg.MakeNoZero"], unfollowed := true, recurses := true, named := ["portiere/input.rest", "internal/bytealg.MaxLen", "unicode/utf8.first", "unicode/utf8.acceptRanges"], apart := false, laid := [("unicode/utf8.acceptRanges", laid_unicode_utf8_acceptRanges), ("portiere/input.rest", laid_portiere_input_rest), ("unicode/utf8.first", laid_unicode_utf8_first)] }
def InputPlainSaid : Prop := inputPlainRow.holds Tryd.pinned (OpenSpec.ofChange inputPlainSpec)

/-- ITS FALSE NEIGHBOUR: 'it returns false'. Refute it at one input. -/
def inputPlainWrong : ChangeSpec := { name := "inputPlain", fn := fun _ => fun
  | [d] => { results := [.lit (.bool false)], args := [d] }
  | _ => none }
def InputPlainWrongFalsely : Prop := inputPlainRow.holds Tryd.pinned (OpenSpec.ofChange inputPlainWrong)

/-- 'portierelaw01.InputRunes': WHATEVER THE INPUT: true; the input reads as it did. -/
def inputRunesSpec : ChangeSpec := { name := "inputRunes", fn := fun _ => fun
  | [d1, d2] => { results := [.lit (.bool true)], args := [d1, d2] }
  | _ => none }
def inputRunesRow : OpenClaim := { program := "ytoejbjmdcokojaadoor", sum := "bc36a7e947b6a7d6db8a4cbc39ed9a073aa8a50fe533d4159326196c1d7ca9d9", func := "portiere/portierelaw01.InputRunes", spec := "inputRunes", inPlace := ["internal/abi.NoEscape", "internal/bytealg.CountString", "internal/bytealg.IndexByteString", "internal/bytealg.IndexString", "internal/bytealg.MakeNoZero"], unfollowed := true, recurses := true, named := ["portiere/input.rest", "internal/bytealg.MaxLen", "unicode/utf8.first", "unicode/utf8.acceptRanges"], apart := false, laid := [("unicode/utf8.acceptRanges", laid_unicode_utf8_acceptRanges), ("portiere/input.rest", laid_portiere_input_rest), ("unicode/utf8.first", laid_unicode_utf8_first)] }
def InputRunesSaid : Prop := inputRunesRow.holds Tryd.pinned (OpenSpec.ofChange inputRunesSpec)

/-- ITS FALSE NEIGHBOUR: 'it returns false'. Refute it at one input. -/
def inputRunesWrong : ChangeSpec := { name := "inputRunes", fn := fun _ => fun
  | [d1, d2] => { results := [.lit (.bool false)], args := [d1, d2] }
  | _ => none }
def InputRunesWrongFalsely : Prop := inputRunesRow.holds Tryd.pinned (OpenSpec.ofChange inputRunesWrong)

/-- 'portierelaw01.InputMany': WHATEVER THE INPUT: true; the input reads as it did. -/
def inputManySpec : ChangeSpec := { name := "inputMany", fn := fun _ => fun
  | [d] => { results := [.lit (.bool true)], args := [d] }
  | _ => none }
def inputManyRow : OpenClaim := { program := "ytoejbjmdcokojaadoor", sum := "bc36a7e947b6a7d6db8a4cbc39ed9a073aa8a50fe533d4159326196c1d7ca9d9", func := "portiere/portierelaw01.InputMany", spec := "inputMany", inPlace := ["internal/abi.NoEscape", "internal/bytealg.CountString", "internal/bytealg.IndexByteString", "internal/bytealg.IndexString", "internal/bytealg.MakeNoZero"], unfollowed := true, recurses := true, named := ["portiere/input.rest", "internal/bytealg.MaxLen", "unicode/utf8.first", "unicode/utf8.acceptRanges"], apart := false, laid := [("unicode/utf8.acceptRanges", laid_unicode_utf8_acceptRanges), ("portiere/input.rest", laid_portiere_input_rest), ("unicode/utf8.first", laid_unicode_utf8_first)] }
def InputManySaid : Prop := inputManyRow.holds Tryd.pinned (OpenSpec.ofChange inputManySpec)

/-- ITS FALSE NEIGHBOUR: 'it returns false'. Refute it at one input. -/
def inputManyWrong : ChangeSpec := { name := "inputMany", fn := fun _ => fun
  | [d] => { results := [.lit (.bool false)], args := [d] }
  | _ => none }
def InputManyWrongFalsely : Prop := inputManyRow.holds Tryd.pinned (OpenSpec.ofChange inputManyWrong)

/- THE SECOND FORM. 'bulk': how many values and letters a reading holds, each counted each time it is reached (what is shared counts as often as it is met; a slice's spare places count too). A statement '..UptoSaid' is the law's where the arguments, and the package variables that the reading takes, are together of bulk at most 1048576: NARROWER than '..Said'. Prove '..Said' where nothing that the law and all that it calls make is longer than what came in: it says more and counts as full. Else prove '..UptoSaid'. A law counts once. -/
mutual
def uptoBulk {H : Type} : DataW H → Nat
  | .lit (.string bytes) => bytes.length + 1
  | .lit _ => 1
  | .nil => 1
  | .ptr d => uptoBulk d + 1
  | .slice elems spare => uptoBulkAll elems + uptoBulkAll spare + 1
  | .agg parts => uptoBulkAll parts + 1
  | .iface _ d => uptoBulk d + 1
  | .map entries => uptoBulkEntries entries + 1
  | .held _ => 1
def uptoBulkAll {H : Type} : List (DataW H) → Nat
  | [] => 0
  | d :: r => uptoBulk d + uptoBulkAll r
def uptoBulkEntries {H : Type} : List (Lit × DataW H) → Nat
  | [] => 0
  | x :: r => uptoBulkEntry x + uptoBulkEntries r
def uptoBulkEntry {H : Type} : Lit × DataW H → Nat
  | (.string bytes, d) => bytes.length + uptoBulk d + 1
  | (_, d) => uptoBulk d + 1
 end
def uptoSmall : (H : Type) → List (DataW H) → Bool := fun _ ds => decide (uptoBulkAll ds ≤ 1048576)
def OpenSpec.upto (s : _root_.Go.ChangeSpec) : _root_.Go.OpenSpec := { _root_.Go.OpenSpec.ofChange s with cond := some uptoSmall }

/-- 'portierelaw01.InputEnds', WHERE WHAT IT READS IS OF BULK AT MOST 1048576: true; the input reads as it did. -/
def inputEndsUptoRow : OpenClaim := { program := "ytoejbjmdcokojaadoor", sum := "bc36a7e947b6a7d6db8a4cbc39ed9a073aa8a50fe533d4159326196c1d7ca9d9", func := "portiere/portierelaw01.InputEnds", spec := "inputEnds", inPlace := ["internal/abi.NoEscape", "internal/bytealg.CountString", "internal/bytealg.IndexByteString", "internal/bytealg.IndexString", "internal/bytealg.MakeNoZero"], unfollowed := true, recurses := true, named := ["portiere/input.rest", "internal/bytealg.MaxLen", "unicode/utf8.first", "unicode/utf8.acceptRanges"], apart := false, laid := [("unicode/utf8.acceptRanges", laid_unicode_utf8_acceptRanges), ("portiere/input.rest", laid_portiere_input_rest), ("unicode/utf8.first", laid_unicode_utf8_first)], narrowed := true }
def InputEndsUptoSaid : Prop := inputEndsUptoRow.holds Tryd.pinned (OpenSpec.upto inputEndsSpec)

/-- 'portierelaw01.InputMark', WHERE WHAT IT READS IS OF BULK AT MOST 1048576: true; the input reads as it did. -/
def inputMarkUptoRow : OpenClaim := { program := "ytoejbjmdcokojaadoor", sum := "bc36a7e947b6a7d6db8a4cbc39ed9a073aa8a50fe533d4159326196c1d7ca9d9", func := "portiere/portierelaw01.InputMark", spec := "inputMark", inPlace := ["internal/abi.NoEscape", "internal/bytealg.CountString", "internal/bytealg.IndexByteString", "internal/bytealg.IndexString", "internal/bytealg.MakeNoZero"], unfollowed := true, recurses := true, named := ["portiere/input.rest", "internal/bytealg.MaxLen", "unicode/utf8.first", "unicode/utf8.acceptRanges"], apart := false, laid := [("unicode/utf8.acceptRanges", laid_unicode_utf8_acceptRanges), ("portiere/input.rest", laid_portiere_input_rest), ("unicode/utf8.first", laid_unicode_utf8_first)], narrowed := true }
def InputMarkUptoSaid : Prop := inputMarkUptoRow.holds Tryd.pinned (OpenSpec.upto inputMarkSpec)

/-- 'portierelaw01.InputDecodes', WHERE WHAT IT READS IS OF BULK AT MOST 1048576: true; the input reads as it did. -/
def inputDecodesUptoRow : OpenClaim := { program := "ytoejbjmdcokojaadoor", sum := "bc36a7e947b6a7d6db8a4cbc39ed9a073aa8a50fe533d4159326196c1d7ca9d9", func := "portiere/portierelaw01.InputDecodes", spec := "inputDecodes", inPlace := ["internal/abi.NoEscape", "internal/bytealg.CountString", "internal/bytealg.IndexByteString", "internal/bytealg.IndexString", "internal/bytealg.MakeNoZero"], unfollowed := true, recurses := true, named := ["portiere/input.rest", "internal/bytealg.MaxLen", "unicode/utf8.first", "unicode/utf8.acceptRanges"], apart := false, laid := [("unicode/utf8.acceptRanges", laid_unicode_utf8_acceptRanges), ("portiere/input.rest", laid_portiere_input_rest), ("unicode/utf8.first", laid_unicode_utf8_first)], narrowed := true }
def InputDecodesUptoSaid : Prop := inputDecodesUptoRow.holds Tryd.pinned (OpenSpec.upto inputDecodesSpec)

/-- 'portierelaw01.InputParts', WHERE WHAT IT READS IS OF BULK AT MOST 1048576: true; the input reads as it did. -/
def inputPartsUptoRow : OpenClaim := { program := "ytoejbjmdcokojaadoor", sum := "bc36a7e947b6a7d6db8a4cbc39ed9a073aa8a50fe533d4159326196c1d7ca9d9", func := "portiere/portierelaw01.InputParts", spec := "inputParts", inPlace := ["internal/abi.NoEscape", "internal/bytealg.CountString", "internal/bytealg.IndexByteString", "internal/bytealg.IndexString", "internal/bytealg.MakeNoZero"], unfollowed := true, recurses := true, named := ["portiere/input.rest", "internal/bytealg.MaxLen", "unicode/utf8.first", "unicode/utf8.acceptRanges"], apart := false, laid := [("unicode/utf8.acceptRanges", laid_unicode_utf8_acceptRanges), ("portiere/input.rest", laid_portiere_input_rest), ("unicode/utf8.first", laid_unicode_utf8_first)], narrowed := true }
def InputPartsUptoSaid : Prop := inputPartsUptoRow.holds Tryd.pinned (OpenSpec.upto inputPartsSpec)

/-- 'portierelaw01.InputPlain', WHERE WHAT IT READS IS OF BULK AT MOST 1048576: true; the input reads as it did. -/
def inputPlainUptoRow : OpenClaim := { program := "ytoejbjmdcokojaadoor", sum := "bc36a7e947b6a7d6db8a4cbc39ed9a073aa8a50fe533d4159326196c1d7ca9d9", func := "portiere/portierelaw01.InputPlain", spec := "inputPlain", inPlace := ["internal/abi.NoEscape", "internal/bytealg.CountString", "internal/bytealg.IndexByteString", "internal/bytealg.IndexString", "internal/bytealg.MakeNoZero"], unfollowed := true, recurses := true, named := ["portiere/input.rest", "internal/bytealg.MaxLen", "unicode/utf8.first", "unicode/utf8.acceptRanges"], apart := false, laid := [("unicode/utf8.acceptRanges", laid_unicode_utf8_acceptRanges), ("portiere/input.rest", laid_portiere_input_rest), ("unicode/utf8.first", laid_unicode_utf8_first)], narrowed := true }
def InputPlainUptoSaid : Prop := inputPlainUptoRow.holds Tryd.pinned (OpenSpec.upto inputPlainSpec)

/-- 'portierelaw01.InputRunes', WHERE WHAT IT READS IS OF BULK AT MOST 1048576: true; the input reads as it did. -/
def inputRunesUptoRow : OpenClaim := { program := "ytoejbjmdcokojaadoor", sum := "bc36a7e947b6a7d6db8a4cbc39ed9a073aa8a50fe533d4159326196c1d7ca9d9", func := "portiere/portierelaw01.InputRunes", spec := "inputRunes", inPlace := ["internal/abi.NoEscape", "internal/bytealg.CountString", "internal/bytealg.IndexByteString", "internal/bytealg.IndexString", "internal/bytealg.MakeNoZero"], unfollowed := true, recurses := true, named := ["portiere/input.rest", "internal/bytealg.MaxLen", "unicode/utf8.first", "unicode/utf8.acceptRanges"], apart := false, laid := [("unicode/utf8.acceptRanges", laid_unicode_utf8_acceptRanges), ("portiere/input.rest", laid_portiere_input_rest), ("unicode/utf8.first", laid_unicode_utf8_first)], narrowed := true }
def InputRunesUptoSaid : Prop := inputRunesUptoRow.holds Tryd.pinned (OpenSpec.upto inputRunesSpec)

/-- 'portierelaw01.InputMany', WHERE WHAT IT READS IS OF BULK AT MOST 1048576: true; the input reads as it did. -/
def inputManyUptoRow : OpenClaim := { program := "ytoejbjmdcokojaadoor", sum := "bc36a7e947b6a7d6db8a4cbc39ed9a073aa8a50fe533d4159326196c1d7ca9d9", func := "portiere/portierelaw01.InputMany", spec := "inputMany", inPlace := ["internal/abi.NoEscape", "internal/bytealg.CountString", "internal/bytealg.IndexByteString", "internal/bytealg.IndexString", "internal/bytealg.MakeNoZero"], unfollowed := true, recurses := true, named := ["portiere/input.rest", "internal/bytealg.MaxLen", "unicode/utf8.first", "unicode/utf8.acceptRanges"], apart := false, laid := [("unicode/utf8.acceptRanges", laid_unicode_utf8_acceptRanges), ("portiere/input.rest", laid_portiere_input_rest), ("unicode/utf8.first", laid_unicode_utf8_first)], narrowed := true }
def InputManyUptoSaid : Prop := inputManyUptoRow.holds Tryd.pinned (OpenSpec.upto inputManySpec)

end Rows
end Go.Proofs.YtoejbjmdcokojaaDoor
