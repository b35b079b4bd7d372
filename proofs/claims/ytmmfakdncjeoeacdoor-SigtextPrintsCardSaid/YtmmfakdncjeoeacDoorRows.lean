/-
  NARROWER THAN 'FOR EVERY INPUT', by the rows' own cells (each row's printed sentence says how): SigtextPlaces: laid · SigtextParses: laid · SigtextPrints: laid.
  DERIVED. THE GIVEN ROWS OF THIS SEAT. 3 by the template 'for every input the law returns true; each argument reads behind the call as it read before'; 0 by the template 'total and deterministic' (their statements: YtmmfakdncjeoeacDoorTotals.lean).
  GIVEN WITH THE SEED: the statements are not yours to turn. If you find one false, say at which input.
  Laid BY PROGRAM, IN A SANDBOX (cutbox-rows.mjs): the forced cells as the released guide's own fill.sh prints them over the translation a130a32cc2f71ac5… (all of the seat's roots in one cut). By AI agents, Wed Nov 11 2026. No macro, syntax, notation, axiom, sorry.
-/
import Derived.Test.YtmmfakdncjeoeacDoorChecked
import GoSem.PinnedTables
import GoSem.Claim
import GoSem.ClaimJoined
import GoSem.ClaimMapViews
import Derived.JoinedTies
import Derived.KernelRfl
namespace Go.Proofs.YtmmfakdncjeoeacDoor
/- THE CELL 'sum', in the pinned program and in every row, IS THE sha256 OF THE DUMP (.gsa) THAT YtmmfakdncjeoeacDoorProg.lean LOADS. Nothing in Lean hashes anything: it is a label: what it is worth is what the hold of that sum in a sandbox is worth. -/
noncomputable def Tryd.pinned : Pinned := { name := "ytmmfakdncjeoeacdoor", sum := "a130a32cc2f71ac5336db389dda5f51c80a0e999a6fcbc0aca5d4c7e340c3036", checked := Tryd.checked }
namespace Rows
def none {H : Type} : Left H := { results := [], args := [] }

/- WHAT THE LISTED PACKAGE-LEVEL VARIABLES READ AS WHEN THE CALL BEGINS. Each datum BY PROGRAM (the guide's laid-datum.mjs) off the statement by which the dump's own 'gosem.cut.vars' lays the variable. In a bare row this is a premise. The card (YtmmfakdncjeoeacDoorCards.lean) ties it to the program's text. -/
def laid_unicode_utf8_acceptRanges {H : Type} : DataW H := .agg [.agg [.lit (.int .u8 128), .lit (.int .u8 191)], .agg [.lit (.int .u8 160), .lit (.int .u8 191)], .agg [.lit (.int .u8 128), .lit (.int .u8 159)], .agg [.lit (.int .u8 144), .lit (.int .u8 191)], .agg [.lit (.int .u8 128), .lit (.int .u8 143)], .agg [.lit (.int .u8 0), .lit (.int .u8 0)], .agg [.lit (.int .u8 0), .lit (.int .u8 0)], .agg [.lit (.int .u8 0), .lit (.int .u8 0)], .agg [.lit (.int .u8 0), .lit (.int .u8 0)], .agg [.lit (.int .u8 0), .lit (.int .u8 0)], .agg [.lit (.int .u8 0), .lit (.int .u8 0)], .agg [.lit (.int .u8 0), .lit (.int .u8 0)], .agg [.lit (.int .u8 0), .lit (.int .u8 0)], .agg [.lit (.int .u8 0), .lit (.int .u8 0)], .agg [.lit (.int .u8 0), .lit (.int .u8 0)], .agg [.lit (.int .u8 0), .lit (.int .u8 0)]]
def laid_tachograph_sigtext_words {H : Type} : DataW H := .map [(.string [105, 110, 116], .lit (.int .i64 1)), (.string [115, 116, 114, 105, 110, 103], .lit (.int .i64 2))]
/-- One of Go's own tables, pinned by name: the form's constant. -/
def laid_unicode_utf8_first : DataW Unit := Go.Pinned.utf8First

/-- 'tachographlaw10.SigtextPlaces': WHATEVER THE INPUT: true; the input reads as it did. -/
def sigtextPlacesSpec : ChangeSpec := { name := "sigtextPlaces", fn := fun _ => fun
  | [d] => { results := [.lit (.bool true)], args := [d] }
  | _ => none }
def sigtextPlacesRow : OpenClaim := { program := "ytmmfakdncjeoeacdoor", sum := "a130a32cc2f71ac5336db389dda5f51c80a0e999a6fcbc0aca5d4c7e340c3036", func := "tachograph/tachographlaw10.SigtextPlaces", spec := "sigtextPlaces", inPlace := ["internal/bytealg.IndexByteString", "internal/bytealg.IndexString", "internal/bytealg.CountString"], named := ["internal/bytealg.MaxLen", "tachograph/sigtext.words", "unicode/utf8.first", "unicode/utf8.acceptRanges"], plainKeys := false, apart := false, laid := [("unicode/utf8.acceptRanges", laid_unicode_utf8_acceptRanges), ("tachograph/sigtext.words", laid_tachograph_sigtext_words), ("unicode/utf8.first", laid_unicode_utf8_first)] }
def SigtextPlacesSaid : Prop := sigtextPlacesRow.holds Tryd.pinned (OpenSpec.ofChange sigtextPlacesSpec)

/-- ITS FALSE NEIGHBOUR: 'it returns false'. Refute it at one input. -/
def sigtextPlacesWrong : ChangeSpec := { name := "sigtextPlaces", fn := fun _ => fun
  | [d] => { results := [.lit (.bool false)], args := [d] }
  | _ => none }
def SigtextPlacesWrongFalsely : Prop := sigtextPlacesRow.holds Tryd.pinned (OpenSpec.ofChange sigtextPlacesWrong)

/-- 'tachographlaw10.SigtextParses': WHATEVER THE INPUT: true; the input reads as it did. -/
def sigtextParsesSpec : ChangeSpec := { name := "sigtextParses", fn := fun _ => fun
  | [d] => { results := [.lit (.bool true)], args := [d] }
  | _ => none }
def sigtextParsesRow : OpenClaim := { program := "ytmmfakdncjeoeacdoor", sum := "a130a32cc2f71ac5336db389dda5f51c80a0e999a6fcbc0aca5d4c7e340c3036", func := "tachograph/tachographlaw10.SigtextParses", spec := "sigtextParses", inPlace := ["internal/bytealg.IndexByteString", "internal/bytealg.IndexString", "internal/bytealg.CountString", "internal/abi.NoEscape", "internal/bytealg.MakeNoZero"], named := ["internal/bytealg.MaxLen", "tachograph/sigtext.words", "unicode/utf8.first", "unicode/utf8.acceptRanges"], plainKeys := false, apart := false, laid := [("unicode/utf8.acceptRanges", laid_unicode_utf8_acceptRanges), ("tachograph/sigtext.words", laid_tachograph_sigtext_words), ("unicode/utf8.first", laid_unicode_utf8_first)] }
def SigtextParsesSaid : Prop := sigtextParsesRow.holds Tryd.pinned (OpenSpec.ofChange sigtextParsesSpec)

/-- ITS FALSE NEIGHBOUR: 'it returns false'. Refute it at one input. -/
def sigtextParsesWrong : ChangeSpec := { name := "sigtextParses", fn := fun _ => fun
  | [d] => { results := [.lit (.bool false)], args := [d] }
  | _ => none }
def SigtextParsesWrongFalsely : Prop := sigtextParsesRow.holds Tryd.pinned (OpenSpec.ofChange sigtextParsesWrong)

/-- 'tachographlaw10.SigtextPrints': WHATEVER THE INPUT: true; the input reads as it did. -/
def sigtextPrintsSpec : ChangeSpec := { name := "sigtextPrints", fn := fun _ => fun
  | [d] => { results := [.lit (.bool true)], args := [d] }
  | _ => none }
def sigtextPrintsRow : OpenClaim := { program := "ytmmfakdncjeoeacdoor", sum := "a130a32cc2f71ac5336db389dda5f51c80a0e999a6fcbc0aca5d4c7e340c3036", func := "tachograph/tachographlaw10.SigtextPrints", spec := "sigtextPrints", inPlace := ["internal/bytealg.IndexByteString", "internal/bytealg.IndexString", "internal/bytealg.CountString", "internal/abi.NoEscape", "internal/bytealg.MakeNoZero"], named := ["internal/bytealg.MaxLen", "tachograph/sigtext.words", "unicode/utf8.first", "unicode/utf8.acceptRanges"], plainKeys := false, apart := false, laid := [("unicode/utf8.acceptRanges", laid_unicode_utf8_acceptRanges), ("tachograph/sigtext.words", laid_tachograph_sigtext_words), ("unicode/utf8.first", laid_unicode_utf8_first)] }
def SigtextPrintsSaid : Prop := sigtextPrintsRow.holds Tryd.pinned (OpenSpec.ofChange sigtextPrintsSpec)

/-- ITS FALSE NEIGHBOUR: 'it returns false'. Refute it at one input. -/
def sigtextPrintsWrong : ChangeSpec := { name := "sigtextPrints", fn := fun _ => fun
  | [d] => { results := [.lit (.bool false)], args := [d] }
  | _ => none }
def SigtextPrintsWrongFalsely : Prop := sigtextPrintsRow.holds Tryd.pinned (OpenSpec.ofChange sigtextPrintsWrong)

/- THE SECOND FORM. 'bulk': how many values and letters a reading holds, each counted each time it is reached (what is shared counts as often as it is met; a slice's spare places count too). A statement '..UptoSaid' is the law's where the arguments, and the package variables that the reading takes, are together of bulk at most 1048576: NARROWER than '..Said'. Prove '..Said' where nothing that the law and all that it calls make is longer than what came in: it says more and counts as full. Else prove '..UptoSaid'. A law counts once. -/
mutual
def uptoBulk {H : Type} : DataW H → Nat
  | .lit (.string bytes) => bytes.length + 1
  | .lit _ => 1
  | .nil => 1
  | .ptr d => uptoBulk d + 1
  | .slice elems spare => uptoBulkAll elems + uptoBulkAll spare + 1
  | .agg parts => uptoBulkAll parts + 1
  | .iface _ d => uptoBulk d + 1
  | .map entries => uptoBulkEntries entries + 1
  | .held _ => 1
def uptoBulkAll {H : Type} : List (DataW H) → Nat
  | [] => 0
  | d :: r => uptoBulk d + uptoBulkAll r
def uptoBulkEntries {H : Type} : List (Lit × DataW H) → Nat
  | [] => 0
  | x :: r => uptoBulkEntry x + uptoBulkEntries r
def uptoBulkEntry {H : Type} : Lit × DataW H → Nat
  | (.string bytes, d) => bytes.length + uptoBulk d + 1
  | (_, d) => uptoBulk d + 1
 end
def uptoSmall : (H : Type) → List (DataW H) → Bool := fun _ ds => decide (uptoBulkAll ds ≤ 1048576)
def OpenSpec.upto (s : _root_.Go.ChangeSpec) : _root_.Go.OpenSpec := { _root_.Go.OpenSpec.ofChange s with cond := some uptoSmall }

/-- 'tachographlaw10.SigtextPlaces', WHERE WHAT IT READS IS OF BULK AT MOST 1048576: true; the input reads as it did. -/
def sigtextPlacesUptoRow : OpenClaim := { program := "ytmmfakdncjeoeacdoor", sum := "a130a32cc2f71ac5336db389dda5f51c80a0e999a6fcbc0aca5d4c7e340c3036", func := "tachograph/tachographlaw10.SigtextPlaces", spec := "sigtextPlaces", inPlace := ["internal/bytealg.IndexByteString", "internal/bytealg.IndexString", "internal/bytealg.CountString"], named := ["internal/bytealg.MaxLen", "tachograph/sigtext.words", "unicode/utf8.first", "unicode/utf8.acceptRanges"], plainKeys := false, apart := false, laid := [("unicode/utf8.acceptRanges", laid_unicode_utf8_acceptRanges), ("tachograph/sigtext.words", laid_tachograph_sigtext_words), ("unicode/utf8.first", laid_unicode_utf8_first)], narrowed := true }
def SigtextPlacesUptoSaid : Prop := sigtextPlacesUptoRow.holds Tryd.pinned (OpenSpec.upto sigtextPlacesSpec)

/-- 'tachographlaw10.SigtextParses', WHERE WHAT IT READS IS OF BULK AT MOST 1048576: true; the input reads as it did. -/
def sigtextParsesUptoRow : OpenClaim := { program := "ytmmfakdncjeoeacdoor", sum := "a130a32cc2f71ac5336db389dda5f51c80a0e999a6fcbc0aca5d4c7e340c3036", func := "tachograph/tachographlaw10.SigtextParses", spec := "sigtextParses", inPlace := ["internal/bytealg.IndexByteString", "internal/bytealg.IndexString", "internal/bytealg.CountString", "internal/abi.NoEscape", "internal/bytealg.MakeNoZero"], named := ["internal/bytealg.MaxLen", "tachograph/sigtext.words", "unicode/utf8.first", "unicode/utf8.acceptRanges"], plainKeys := false, apart := false, laid := [("unicode/utf8.acceptRanges", laid_unicode_utf8_acceptRanges), ("tachograph/sigtext.words", laid_tachograph_sigtext_words), ("unicode/utf8.first", laid_unicode_utf8_first)], narrowed := true }
def SigtextParsesUptoSaid : Prop := sigtextParsesUptoRow.holds Tryd.pinned (OpenSpec.upto sigtextParsesSpec)

/-- 'tachographlaw10.SigtextPrints', WHERE WHAT IT READS IS OF BULK AT MOST 1048576: true; the input reads as it did. -/
def sigtextPrintsUptoRow : OpenClaim := { program := "ytmmfakdncjeoeacdoor", sum := "a130a32cc2f71ac5336db389dda5f51c80a0e999a6fcbc0aca5d4c7e340c3036", func := "tachograph/tachographlaw10.SigtextPrints", spec := "sigtextPrints", inPlace := ["internal/bytealg.IndexByteString", "internal/bytealg.IndexString", "internal/bytealg.CountString", "internal/abi.NoEscape", "internal/bytealg.MakeNoZero"], named := ["internal/bytealg.MaxLen", "tachograph/sigtext.words", "unicode/utf8.first", "unicode/utf8.acceptRanges"], plainKeys := false, apart := false, laid := [("unicode/utf8.acceptRanges", laid_unicode_utf8_acceptRanges), ("tachograph/sigtext.words", laid_tachograph_sigtext_words), ("unicode/utf8.first", laid_unicode_utf8_first)], narrowed := true }
def SigtextPrintsUptoSaid : Prop := sigtextPrintsUptoRow.holds Tryd.pinned (OpenSpec.upto sigtextPrintsSpec)

end Rows
end Go.Proofs.YtmmfakdncjeoeacDoor
