/-
  No cell of these rows narrows 'for every input' (looked for: loops, veiled, ifaces, maps, wideKeys, modest, calm, conditions, laid).
  DERIVED. THE GIVEN ROWS OF THIS SEAT. 7 by the template 'for every input the law returns true; each argument reads behind the call as it read before'; 0 by the template 'total and deterministic' (their statements: YtjfklfmfeghjnacTotals.lean).
  GIVEN WITH THE SEED: the statements are not yours to turn. If you find one false, say at which input.
  Laid BY PROGRAM, IN A SANDBOX (cutbox-rows.mjs): the forced cells as the released guide's own fill.sh prints them over the translation e018a749b20e096c… (all of the seat's roots in one cut). By AI agents, Wed Nov 11 2026. No macro, syntax, notation, axiom, sorry.
-/
import Derived.Test.YtjfklfmfeghjnacChecked
import GoSem.Claim
import GoSem.ClaimJoined
import GoSem.ClaimMapViews
import Derived.JoinedTies
import Derived.KernelRfl
namespace Go.Proofs.Ytjfklfmfeghjnac
/- THE CELL 'sum', in the pinned program and in every row, IS THE sha256 OF THE DUMP (.gsa) THAT YtjfklfmfeghjnacProg.lean LOADS. Nothing in Lean hashes anything: it is a label: what it is worth is what the hold of that sum in a sandbox is worth. -/
noncomputable def Try.pinned : Pinned := { name := "ytjfklfmfeghjnac", sum := "e018a749b20e096ccc773d06eab192cc3e8753cbf51d8cb00841e9ca474c2a27", checked := Try.checked }
namespace Rows
def none {H : Type} : Left H := { results := [], args := [] }

/-- 'tachographlaw20.QuotePuts': WHATEVER THE INPUT: true; the input reads as it did. -/
def quotePutsSpec : ChangeSpec := { name := "quotePuts", fn := fun _ => fun
  | [d1, d2] => { results := [.lit (.bool true)], args := [d1, d2] }
  | _ => none }
def quotePutsRow : OpenClaim := { program := "ytjfklfmfeghjnac", sum := "e018a749b20e096ccc773d06eab192cc3e8753cbf51d8cb00841e9ca474c2a27", func := "tachograph/tachographlaw20.QuotePuts", spec := "quotePuts", inPlace := ["internal/abi.NoEscape", "internal/bytealg.IndexByteString"], apart := false }
def QuotePutsSaid : Prop := quotePutsRow.holds Try.pinned (OpenSpec.ofChange quotePutsSpec)

/-- ITS FALSE NEIGHBOUR: 'it returns false'. Refute it at one input. -/
def quotePutsWrong : ChangeSpec := { name := "quotePuts", fn := fun _ => fun
  | [d1, d2] => { results := [.lit (.bool false)], args := [d1, d2] }
  | _ => none }
def QuotePutsWrongFalsely : Prop := quotePutsRow.holds Try.pinned (OpenSpec.ofChange quotePutsWrong)

/-- 'tachographlaw20.QuoteGets': WHATEVER THE INPUT: true; the input reads as it did. -/
def quoteGetsSpec : ChangeSpec := { name := "quoteGets", fn := fun _ => fun
  | [d] => { results := [.lit (.bool true)], args := [d] }
  | _ => none }
def quoteGetsRow : OpenClaim := { program := "ytjfklfmfeghjnac", sum := "e018a749b20e096ccc773d06eab192cc3e8753cbf51d8cb00841e9ca474c2a27", func := "tachograph/tachographlaw20.QuoteGets", spec := "quoteGets", inPlace := ["internal/abi.NoEscape", "internal/bytealg.IndexByteString"], apart := false }
def QuoteGetsSaid : Prop := quoteGetsRow.holds Try.pinned (OpenSpec.ofChange quoteGetsSpec)

/-- ITS FALSE NEIGHBOUR: 'it returns false'. Refute it at one input. -/
def quoteGetsWrong : ChangeSpec := { name := "quoteGets", fn := fun _ => fun
  | [d] => { results := [.lit (.bool false)], args := [d] }
  | _ => none }
def QuoteGetsWrongFalsely : Prop := quoteGetsRow.holds Try.pinned (OpenSpec.ofChange quoteGetsWrong)

/-- 'tachographlaw20.QuoteAll': WHATEVER THE INPUT: true; the input reads as it did. -/
def quoteAllSpec : ChangeSpec := { name := "quoteAll", fn := fun _ => fun
  | [d] => { results := [.lit (.bool true)], args := [d] }
  | _ => none }
def quoteAllRow : OpenClaim := { program := "ytjfklfmfeghjnac", sum := "e018a749b20e096ccc773d06eab192cc3e8753cbf51d8cb00841e9ca474c2a27", func := "tachograph/tachographlaw20.QuoteAll", spec := "quoteAll", inPlace := ["internal/abi.NoEscape", "internal/bytealg.MakeNoZero", "internal/bytealg.IndexByteString"], apart := false }
def QuoteAllSaid : Prop := quoteAllRow.holds Try.pinned (OpenSpec.ofChange quoteAllSpec)

/-- ITS FALSE NEIGHBOUR: 'it returns false'. Refute it at one input. -/
def quoteAllWrong : ChangeSpec := { name := "quoteAll", fn := fun _ => fun
  | [d] => { results := [.lit (.bool false)], args := [d] }
  | _ => none }
def QuoteAllWrongFalsely : Prop := quoteAllRow.holds Try.pinned (OpenSpec.ofChange quoteAllWrong)

/-- 'tachographlaw21.LexAll': WHATEVER THE INPUT: true; the input reads as it did. -/
def lexAllSpec : ChangeSpec := { name := "lexAll", fn := fun _ => fun
  | [d] => { results := [.lit (.bool true)], args := [d] }
  | _ => none }
def lexAllRow : OpenClaim := { program := "ytjfklfmfeghjnac", sum := "e018a749b20e096ccc773d06eab192cc3e8753cbf51d8cb00841e9ca474c2a27", func := "tachograph/tachographlaw21.LexAll", spec := "lexAll", inPlace := ["internal/bytealg.CountString", "internal/bytealg.IndexByteString", "internal/bytealg.IndexString"], unfollowed := true, recurses := true, named := ["internal/bytealg.MaxLen"], apart := false }
def LexAllSaid : Prop := lexAllRow.holds Try.pinned (OpenSpec.ofChange lexAllSpec)

/-- ITS FALSE NEIGHBOUR: 'it returns false'. Refute it at one input. -/
def lexAllWrong : ChangeSpec := { name := "lexAll", fn := fun _ => fun
  | [d] => { results := [.lit (.bool false)], args := [d] }
  | _ => none }
def LexAllWrongFalsely : Prop := lexAllRow.holds Try.pinned (OpenSpec.ofChange lexAllWrong)

/-- 'tachographlaw21.LexPlaces': WHATEVER THE INPUT: true; the input reads as it did. -/
def lexPlacesSpec : ChangeSpec := { name := "lexPlaces", fn := fun _ => fun
  | [d] => { results := [.lit (.bool true)], args := [d] }
  | _ => none }
def lexPlacesRow : OpenClaim := { program := "ytjfklfmfeghjnac", sum := "e018a749b20e096ccc773d06eab192cc3e8753cbf51d8cb00841e9ca474c2a27", func := "tachograph/tachographlaw21.LexPlaces", spec := "lexPlaces", inPlace := ["internal/bytealg.CountString", "internal/bytealg.IndexByteString", "internal/bytealg.IndexString"], unfollowed := true, recurses := true, named := ["internal/bytealg.MaxLen"], apart := false }
def LexPlacesSaid : Prop := lexPlacesRow.holds Try.pinned (OpenSpec.ofChange lexPlacesSpec)

/-- ITS FALSE NEIGHBOUR: 'it returns false'. Refute it at one input. -/
def lexPlacesWrong : ChangeSpec := { name := "lexPlaces", fn := fun _ => fun
  | [d] => { results := [.lit (.bool false)], args := [d] }
  | _ => none }
def LexPlacesWrongFalsely : Prop := lexPlacesRow.holds Try.pinned (OpenSpec.ofChange lexPlacesWrong)

/-- 'tachographlaw21.LexParts': WHATEVER THE INPUT: true; the input reads as it did. -/
def lexPartsSpec : ChangeSpec := { name := "lexParts", fn := fun _ => fun
  | [d1, d2] => { results := [.lit (.bool true)], args := [d1, d2] }
  | _ => none }
def lexPartsRow : OpenClaim := { program := "ytjfklfmfeghjnac", sum := "e018a749b20e096ccc773d06eab192cc3e8753cbf51d8cb00841e9ca474c2a27", func := "tachograph/tachographlaw21.LexParts", spec := "lexParts", inPlace := ["internal/bytealg.CountString", "internal/bytealg.IndexByteString", "internal/bytealg.IndexString"], unfollowed := true, recurses := true, named := ["internal/bytealg.MaxLen"], apart := false }
def LexPartsSaid : Prop := lexPartsRow.holds Try.pinned (OpenSpec.ofChange lexPartsSpec)

/-- ITS FALSE NEIGHBOUR: 'it returns false'. Refute it at one input. -/
def lexPartsWrong : ChangeSpec := { name := "lexParts", fn := fun _ => fun
  | [d1, d2] => { results := [.lit (.bool false)], args := [d1, d2] }
  | _ => none }
def LexPartsWrongFalsely : Prop := lexPartsRow.holds Try.pinned (OpenSpec.ofChange lexPartsWrong)

/-- 'tachographlaw25.WoundApplies': WHATEVER THE INPUT: true; the input reads as it did. -/
def woundAppliesSpec : ChangeSpec := { name := "woundApplies", fn := fun _ => fun
  | [d1, d2] => { results := [.lit (.bool true)], args := [d1, d2] }
  | _ => none }
def woundAppliesRow : OpenClaim := { program := "ytjfklfmfeghjnac", sum := "e018a749b20e096ccc773d06eab192cc3e8753cbf51d8cb00841e9ca474c2a27", func := "tachograph/tachographlaw25.WoundApplies", spec := "woundApplies", apart := false }
def WoundAppliesSaid : Prop := woundAppliesRow.holds Try.pinned (OpenSpec.ofChange woundAppliesSpec)

/-- ITS FALSE NEIGHBOUR: 'it returns false'. Refute it at one input. -/
def woundAppliesWrong : ChangeSpec := { name := "woundApplies", fn := fun _ => fun
  | [d1, d2] => { results := [.lit (.bool false)], args := [d1, d2] }
  | _ => none }
def WoundAppliesWrongFalsely : Prop := woundAppliesRow.holds Try.pinned (OpenSpec.ofChange woundAppliesWrong)

/- THE SECOND FORM. 'bulk': how many values and letters a reading holds, each counted each time it is reached (what is shared counts as often as it is met; a slice's spare places count too). A statement '..UptoSaid' is the law's where the arguments, and the package variables that the reading takes, are together of bulk at most 1048576: NARROWER than '..Said'. Prove '..Said' where nothing that the law and all that it calls make is longer than what came in: it says more and counts as full. Else prove '..UptoSaid'. A law counts once. -/
mutual
def uptoBulk {H : Type} : DataW H → Nat
  | .lit (.string bytes) => bytes.length + 1
  | .lit _ => 1
  | .nil => 1
  | .ptr d => uptoBulk d + 1
  | .slice elems spare => uptoBulkAll elems + uptoBulkAll spare + 1
  | .agg parts => uptoBulkAll parts + 1
  | .iface _ d => uptoBulk d + 1
  | .map entries => uptoBulkEntries entries + 1
  | .held _ => 1
def uptoBulkAll {H : Type} : List (DataW H) → Nat
  | [] => 0
  | d :: r => uptoBulk d + uptoBulkAll r
def uptoBulkEntries {H : Type} : List (Lit × DataW H) → Nat
  | [] => 0
  | x :: r => uptoBulkEntry x + uptoBulkEntries r
def uptoBulkEntry {H : Type} : Lit × DataW H → Nat
  | (.string bytes, d) => bytes.length + uptoBulk d + 1
  | (_, d) => uptoBulk d + 1
 end
def uptoSmall : (H : Type) → List (DataW H) → Bool := fun _ ds => decide (uptoBulkAll ds ≤ 1048576)
def OpenSpec.upto (s : _root_.Go.ChangeSpec) : _root_.Go.OpenSpec := { _root_.Go.OpenSpec.ofChange s with cond := some uptoSmall }

/-- 'tachographlaw20.QuotePuts', WHERE WHAT IT READS IS OF BULK AT MOST 1048576: true; the input reads as it did. -/
def quotePutsUptoRow : OpenClaim := { program := "ytjfklfmfeghjnac", sum := "e018a749b20e096ccc773d06eab192cc3e8753cbf51d8cb00841e9ca474c2a27", func := "tachograph/tachographlaw20.QuotePuts", spec := "quotePuts", inPlace := ["internal/abi.NoEscape", "internal/bytealg.IndexByteString"], apart := false, narrowed := true }
def QuotePutsUptoSaid : Prop := quotePutsUptoRow.holds Try.pinned (OpenSpec.upto quotePutsSpec)

/-- 'tachographlaw20.QuoteGets', WHERE WHAT IT READS IS OF BULK AT MOST 1048576: true; the input reads as it did. -/
def quoteGetsUptoRow : OpenClaim := { program := "ytjfklfmfeghjnac", sum := "e018a749b20e096ccc773d06eab192cc3e8753cbf51d8cb00841e9ca474c2a27", func := "tachograph/tachographlaw20.QuoteGets", spec := "quoteGets", inPlace := ["internal/abi.NoEscape", "internal/bytealg.IndexByteString"], apart := false, narrowed := true }
def QuoteGetsUptoSaid : Prop := quoteGetsUptoRow.holds Try.pinned (OpenSpec.upto quoteGetsSpec)

/-- 'tachographlaw20.QuoteAll', WHERE WHAT IT READS IS OF BULK AT MOST 1048576: true; the input reads as it did. -/
def quoteAllUptoRow : OpenClaim := { program := "ytjfklfmfeghjnac", sum := "e018a749b20e096ccc773d06eab192cc3e8753cbf51d8cb00841e9ca474c2a27", func := "tachograph/tachographlaw20.QuoteAll", spec := "quoteAll", inPlace := ["internal/abi.NoEscape", "internal/bytealg.MakeNoZero", "internal/bytealg.IndexByteString"], apart := false, narrowed := true }
def QuoteAllUptoSaid : Prop := quoteAllUptoRow.holds Try.pinned (OpenSpec.upto quoteAllSpec)

/-- 'tachographlaw21.LexAll', WHERE WHAT IT READS IS OF BULK AT MOST 1048576: true; the input reads as it did. -/
def lexAllUptoRow : OpenClaim := { program := "ytjfklfmfeghjnac", sum := "e018a749b20e096ccc773d06eab192cc3e8753cbf51d8cb00841e9ca474c2a27", func := "tachograph/tachographlaw21.LexAll", spec := "lexAll", inPlace := ["internal/bytealg.CountString", "internal/bytealg.IndexByteString", "internal/bytealg.IndexString"], unfollowed := true, recurses := true, named := ["internal/bytealg.MaxLen"], apart := false, narrowed := true }
def LexAllUptoSaid : Prop := lexAllUptoRow.holds Try.pinned (OpenSpec.upto lexAllSpec)

/-- 'tachographlaw21.LexPlaces', WHERE WHAT IT READS IS OF BULK AT MOST 1048576: true; the input reads as it did. -/
def lexPlacesUptoRow : OpenClaim := { program := "ytjfklfmfeghjnac", sum := "e018a749b20e096ccc773d06eab192cc3e8753cbf51d8cb00841e9ca474c2a27", func := "tachograph/tachographlaw21.LexPlaces", spec := "lexPlaces", inPlace := ["internal/bytealg.CountString", "internal/bytealg.IndexByteString", "internal/bytealg.IndexString"], unfollowed := true, recurses := true, named := ["internal/bytealg.MaxLen"], apart := false, narrowed := true }
def LexPlacesUptoSaid : Prop := lexPlacesUptoRow.holds Try.pinned (OpenSpec.upto lexPlacesSpec)

/-- 'tachographlaw21.LexParts', WHERE WHAT IT READS IS OF BULK AT MOST 1048576: true; the input reads as it did. -/
def lexPartsUptoRow : OpenClaim := { program := "ytjfklfmfeghjnac", sum := "e018a749b20e096ccc773d06eab192cc3e8753cbf51d8cb00841e9ca474c2a27", func := "tachograph/tachographlaw21.LexParts", spec := "lexParts", inPlace := ["internal/bytealg.CountString", "internal/bytealg.IndexByteString", "internal/bytealg.IndexString"], unfollowed := true, recurses := true, named := ["internal/bytealg.MaxLen"], apart := false, narrowed := true }
def LexPartsUptoSaid : Prop := lexPartsUptoRow.holds Try.pinned (OpenSpec.upto lexPartsSpec)

/-- 'tachographlaw25.WoundApplies', WHERE WHAT IT READS IS OF BULK AT MOST 1048576: true; the input reads as it did. -/
def woundAppliesUptoRow : OpenClaim := { program := "ytjfklfmfeghjnac", sum := "e018a749b20e096ccc773d06eab192cc3e8753cbf51d8cb00841e9ca474c2a27", func := "tachograph/tachographlaw25.WoundApplies", spec := "woundApplies", apart := false, narrowed := true }
def WoundAppliesUptoSaid : Prop := woundAppliesUptoRow.holds Try.pinned (OpenSpec.upto woundAppliesSpec)

end Rows
end Go.Proofs.Ytjfklfmfeghjnac
