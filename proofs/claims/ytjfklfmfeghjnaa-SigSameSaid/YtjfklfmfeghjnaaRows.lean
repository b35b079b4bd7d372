/-
  No cell of these rows narrows 'for every input' (looked for: loops, veiled, ifaces, maps, wideKeys, modest, calm, conditions, laid).
  DERIVED. THE GIVEN ROWS OF THIS SEAT. 12 by the template 'for every input the law returns true; each argument reads behind the call as it read before'; 0 by the template 'total and deterministic' (their statements: YtjfklfmfeghjnaaTotals.lean).
  GIVEN WITH THE SEED: the statements are not yours to turn. If you find one false, say at which input.
  Laid BY PROGRAM, IN A SANDBOX (cutbox-rows.mjs): the forced cells as the released guide's own fill.sh prints them over the translation e2d050e1054d6953… (all of the seat's roots in one cut). By AI agents, Wed Nov 11 2026. No macro, syntax, notation, axiom, sorry.
-/
import Derived.Test.YtjfklfmfeghjnaaChecked
import GoSem.Claim
import GoSem.ClaimJoined
import GoSem.ClaimMapViews
import Derived.JoinedTies
import Derived.KernelRfl
namespace Go.Proofs.Ytjfklfmfeghjnaa
/- THE CELL 'sum', in the pinned program and in every row, IS THE sha256 OF THE DUMP (.gsa) THAT YtjfklfmfeghjnaaProg.lean LOADS. Nothing in Lean hashes anything: it is a label: what it is worth is what the hold of that sum in a sandbox is worth. -/
noncomputable def Try.pinned : Pinned := { name := "ytjfklfmfeghjnaa", sum := "e2d050e1054d6953c9e170862e6d2359cf2f0bd62d688082892163fe95b3e2d1", checked := Try.checked }
namespace Rows
def none {H : Type} : Left H := { results := [], args := [] }

/-- 'tachographlaw01.WireFolds': WHATEVER THE INPUT: true; the input reads as it did. -/
def wireFoldsSpec : ChangeSpec := { name := "wireFolds", fn := fun _ => fun
  | [d1, d2, d3] => { results := [.lit (.bool true)], args := [d1, d2, d3] }
  | _ => none }
def wireFoldsRow : OpenClaim := { program := "ytjfklfmfeghjnaa", sum := "e2d050e1054d6953c9e170862e6d2359cf2f0bd62d688082892163fe95b3e2d1", func := "tachograph/tachographlaw01.WireFolds", spec := "wireFolds", unfollowed := true, recurses := true, plainKeys := false, apart := false }
def WireFoldsSaid : Prop := wireFoldsRow.holds Try.pinned (OpenSpec.ofChange wireFoldsSpec)

/-- ITS FALSE NEIGHBOUR: 'it returns false'. Refute it at one input. -/
def wireFoldsWrong : ChangeSpec := { name := "wireFolds", fn := fun _ => fun
  | [d1, d2, d3] => { results := [.lit (.bool false)], args := [d1, d2, d3] }
  | _ => none }
def WireFoldsWrongFalsely : Prop := wireFoldsRow.holds Try.pinned (OpenSpec.ofChange wireFoldsWrong)

/-- 'tachographlaw01.WireGets': WHATEVER THE INPUT: true; the input reads as it did. -/
def wireGetsSpec : ChangeSpec := { name := "wireGets", fn := fun _ => fun
  | [d] => { results := [.lit (.bool true)], args := [d] }
  | _ => none }
def wireGetsRow : OpenClaim := { program := "ytjfklfmfeghjnaa", sum := "e2d050e1054d6953c9e170862e6d2359cf2f0bd62d688082892163fe95b3e2d1", func := "tachograph/tachographlaw01.WireGets", spec := "wireGets", unfollowed := true, recurses := true, plainKeys := false, apart := false }
def WireGetsSaid : Prop := wireGetsRow.holds Try.pinned (OpenSpec.ofChange wireGetsSpec)

/-- ITS FALSE NEIGHBOUR: 'it returns false'. Refute it at one input. -/
def wireGetsWrong : ChangeSpec := { name := "wireGets", fn := fun _ => fun
  | [d] => { results := [.lit (.bool false)], args := [d] }
  | _ => none }
def WireGetsWrongFalsely : Prop := wireGetsRow.holds Try.pinned (OpenSpec.ofChange wireGetsWrong)

/-- 'tachographlaw01.WireCuts': WHATEVER THE INPUT: true; the input reads as it did. -/
def wireCutsSpec : ChangeSpec := { name := "wireCuts", fn := fun _ => fun
  | [d1, d2] => { results := [.lit (.bool true)], args := [d1, d2] }
  | _ => none }
def wireCutsRow : OpenClaim := { program := "ytjfklfmfeghjnaa", sum := "e2d050e1054d6953c9e170862e6d2359cf2f0bd62d688082892163fe95b3e2d1", func := "tachograph/tachographlaw01.WireCuts", spec := "wireCuts", unfollowed := true, recurses := true, plainKeys := false, apart := false }
def WireCutsSaid : Prop := wireCutsRow.holds Try.pinned (OpenSpec.ofChange wireCutsSpec)

/-- ITS FALSE NEIGHBOUR: 'it returns false'. Refute it at one input. -/
def wireCutsWrong : ChangeSpec := { name := "wireCuts", fn := fun _ => fun
  | [d1, d2] => { results := [.lit (.bool false)], args := [d1, d2] }
  | _ => none }
def WireCutsWrongFalsely : Prop := wireCutsRow.holds Try.pinned (OpenSpec.ofChange wireCutsWrong)

/-- 'tachographlaw01.WirePuts': WHATEVER THE INPUT: true; the input reads as it did. -/
def wirePutsSpec : ChangeSpec := { name := "wirePuts", fn := fun _ => fun
  | [d1, d2] => { results := [.lit (.bool true)], args := [d1, d2] }
  | _ => none }
def wirePutsRow : OpenClaim := { program := "ytjfklfmfeghjnaa", sum := "e2d050e1054d6953c9e170862e6d2359cf2f0bd62d688082892163fe95b3e2d1", func := "tachograph/tachographlaw01.WirePuts", spec := "wirePuts", unfollowed := true, recurses := true, plainKeys := false, apart := false }
def WirePutsSaid : Prop := wirePutsRow.holds Try.pinned (OpenSpec.ofChange wirePutsSpec)

/-- ITS FALSE NEIGHBOUR: 'it returns false'. Refute it at one input. -/
def wirePutsWrong : ChangeSpec := { name := "wirePuts", fn := fun _ => fun
  | [d1, d2] => { results := [.lit (.bool false)], args := [d1, d2] }
  | _ => none }
def WirePutsWrongFalsely : Prop := wirePutsRow.holds Try.pinned (OpenSpec.ofChange wirePutsWrong)

/-- 'tachographlaw02.BlobPuts': WHATEVER THE INPUT: true; the input reads as it did. -/
def blobPutsSpec : ChangeSpec := { name := "blobPuts", fn := fun _ => fun
  | [d1, d2, d3] => { results := [.lit (.bool true)], args := [d1, d2, d3] }
  | _ => none }
def blobPutsRow : OpenClaim := { program := "ytjfklfmfeghjnaa", sum := "e2d050e1054d6953c9e170862e6d2359cf2f0bd62d688082892163fe95b3e2d1", func := "tachograph/tachographlaw02.BlobPuts", spec := "blobPuts", unfollowed := true, recurses := true, plainKeys := false, apart := false }
def BlobPutsSaid : Prop := blobPutsRow.holds Try.pinned (OpenSpec.ofChange blobPutsSpec)

/-- ITS FALSE NEIGHBOUR: 'it returns false'. Refute it at one input. -/
def blobPutsWrong : ChangeSpec := { name := "blobPuts", fn := fun _ => fun
  | [d1, d2, d3] => { results := [.lit (.bool false)], args := [d1, d2, d3] }
  | _ => none }
def BlobPutsWrongFalsely : Prop := blobPutsRow.holds Try.pinned (OpenSpec.ofChange blobPutsWrong)

/-- 'tachographlaw02.BlobGets': WHATEVER THE INPUT: true; the input reads as it did. -/
def blobGetsSpec : ChangeSpec := { name := "blobGets", fn := fun _ => fun
  | [d1, d2] => { results := [.lit (.bool true)], args := [d1, d2] }
  | _ => none }
def blobGetsRow : OpenClaim := { program := "ytjfklfmfeghjnaa", sum := "e2d050e1054d6953c9e170862e6d2359cf2f0bd62d688082892163fe95b3e2d1", func := "tachograph/tachographlaw02.BlobGets", spec := "blobGets", unfollowed := true, recurses := true, plainKeys := false, apart := false }
def BlobGetsSaid : Prop := blobGetsRow.holds Try.pinned (OpenSpec.ofChange blobGetsSpec)

/-- ITS FALSE NEIGHBOUR: 'it returns false'. Refute it at one input. -/
def blobGetsWrong : ChangeSpec := { name := "blobGets", fn := fun _ => fun
  | [d1, d2] => { results := [.lit (.bool false)], args := [d1, d2] }
  | _ => none }
def BlobGetsWrongFalsely : Prop := blobGetsRow.holds Try.pinned (OpenSpec.ofChange blobGetsWrong)

/-- 'tachographlaw02.BlobAll': WHATEVER THE INPUT: true; the input reads as it did. -/
def blobAllSpec : ChangeSpec := { name := "blobAll", fn := fun _ => fun
  | [d1, d2] => { results := [.lit (.bool true)], args := [d1, d2] }
  | _ => none }
def blobAllRow : OpenClaim := { program := "ytjfklfmfeghjnaa", sum := "e2d050e1054d6953c9e170862e6d2359cf2f0bd62d688082892163fe95b3e2d1", func := "tachograph/tachographlaw02.BlobAll", spec := "blobAll", unfollowed := true, recurses := true, plainKeys := false, apart := false }
def BlobAllSaid : Prop := blobAllRow.holds Try.pinned (OpenSpec.ofChange blobAllSpec)

/-- ITS FALSE NEIGHBOUR: 'it returns false'. Refute it at one input. -/
def blobAllWrong : ChangeSpec := { name := "blobAll", fn := fun _ => fun
  | [d1, d2] => { results := [.lit (.bool false)], args := [d1, d2] }
  | _ => none }
def BlobAllWrongFalsely : Prop := blobAllRow.holds Try.pinned (OpenSpec.ofChange blobAllWrong)

/-- 'tachographlaw03.CursorPlays': WHATEVER THE INPUT: true; the input reads as it did. -/
def cursorPlaysSpec : ChangeSpec := { name := "cursorPlays", fn := fun _ => fun
  | [d1, d2] => { results := [.lit (.bool true)], args := [d1, d2] }
  | _ => none }
def cursorPlaysRow : OpenClaim := { program := "ytjfklfmfeghjnaa", sum := "e2d050e1054d6953c9e170862e6d2359cf2f0bd62d688082892163fe95b3e2d1", func := "tachograph/tachographlaw03.CursorPlays", spec := "cursorPlays", unfollowed := true, recurses := true, plainKeys := false, apart := false }
def CursorPlaysSaid : Prop := cursorPlaysRow.holds Try.pinned (OpenSpec.ofChange cursorPlaysSpec)

/-- ITS FALSE NEIGHBOUR: 'it returns false'. Refute it at one input. -/
def cursorPlaysWrong : ChangeSpec := { name := "cursorPlays", fn := fun _ => fun
  | [d1, d2] => { results := [.lit (.bool false)], args := [d1, d2] }
  | _ => none }
def CursorPlaysWrongFalsely : Prop := cursorPlaysRow.holds Try.pinned (OpenSpec.ofChange cursorPlaysWrong)

/-- 'tachographlaw03.CursorNever': WHATEVER THE INPUT: true; the input reads as it did. -/
def cursorNeverSpec : ChangeSpec := { name := "cursorNever", fn := fun _ => fun
  | [d1, d2] => { results := [.lit (.bool true)], args := [d1, d2] }
  | _ => none }
def cursorNeverRow : OpenClaim := { program := "ytjfklfmfeghjnaa", sum := "e2d050e1054d6953c9e170862e6d2359cf2f0bd62d688082892163fe95b3e2d1", func := "tachograph/tachographlaw03.CursorNever", spec := "cursorNever", unfollowed := true, recurses := true, plainKeys := false, apart := false }
def CursorNeverSaid : Prop := cursorNeverRow.holds Try.pinned (OpenSpec.ofChange cursorNeverSpec)

/-- ITS FALSE NEIGHBOUR: 'it returns false'. Refute it at one input. -/
def cursorNeverWrong : ChangeSpec := { name := "cursorNever", fn := fun _ => fun
  | [d1, d2] => { results := [.lit (.bool false)], args := [d1, d2] }
  | _ => none }
def CursorNeverWrongFalsely : Prop := cursorNeverRow.holds Try.pinned (OpenSpec.ofChange cursorNeverWrong)

/-- 'tachographlaw09.SigChecks': WHATEVER THE INPUT: true; the input reads as it did. -/
def sigChecksSpec : ChangeSpec := { name := "sigChecks", fn := fun _ => fun
  | [d1, d2] => { results := [.lit (.bool true)], args := [d1, d2] }
  | _ => none }
def sigChecksRow : OpenClaim := { program := "ytjfklfmfeghjnaa", sum := "e2d050e1054d6953c9e170862e6d2359cf2f0bd62d688082892163fe95b3e2d1", func := "tachograph/tachographlaw09.SigChecks", spec := "sigChecks", plainKeys := false, apart := false }
def SigChecksSaid : Prop := sigChecksRow.holds Try.pinned (OpenSpec.ofChange sigChecksSpec)

/-- ITS FALSE NEIGHBOUR: 'it returns false'. Refute it at one input. -/
def sigChecksWrong : ChangeSpec := { name := "sigChecks", fn := fun _ => fun
  | [d1, d2] => { results := [.lit (.bool false)], args := [d1, d2] }
  | _ => none }
def SigChecksWrongFalsely : Prop := sigChecksRow.holds Try.pinned (OpenSpec.ofChange sigChecksWrong)

/-- 'tachographlaw09.SigFirst': WHATEVER THE INPUT: true; the input reads as it did. -/
def sigFirstSpec : ChangeSpec := { name := "sigFirst", fn := fun _ => fun
  | [d1, d2] => { results := [.lit (.bool true)], args := [d1, d2] }
  | _ => none }
def sigFirstRow : OpenClaim := { program := "ytjfklfmfeghjnaa", sum := "e2d050e1054d6953c9e170862e6d2359cf2f0bd62d688082892163fe95b3e2d1", func := "tachograph/tachographlaw09.SigFirst", spec := "sigFirst", plainKeys := false, apart := false }
def SigFirstSaid : Prop := sigFirstRow.holds Try.pinned (OpenSpec.ofChange sigFirstSpec)

/-- ITS FALSE NEIGHBOUR: 'it returns false'. Refute it at one input. -/
def sigFirstWrong : ChangeSpec := { name := "sigFirst", fn := fun _ => fun
  | [d1, d2] => { results := [.lit (.bool false)], args := [d1, d2] }
  | _ => none }
def SigFirstWrongFalsely : Prop := sigFirstRow.holds Try.pinned (OpenSpec.ofChange sigFirstWrong)

/-- 'tachographlaw09.SigSame': WHATEVER THE INPUT: true; the input reads as it did. -/
def sigSameSpec : ChangeSpec := { name := "sigSame", fn := fun _ => fun
  | [d1, d2] => { results := [.lit (.bool true)], args := [d1, d2] }
  | _ => none }
def sigSameRow : OpenClaim := { program := "ytjfklfmfeghjnaa", sum := "e2d050e1054d6953c9e170862e6d2359cf2f0bd62d688082892163fe95b3e2d1", func := "tachograph/tachographlaw09.SigSame", spec := "sigSame", unfollowed := true, recurses := true, plainKeys := false, apart := false }
def SigSameSaid : Prop := sigSameRow.holds Try.pinned (OpenSpec.ofChange sigSameSpec)

/-- ITS FALSE NEIGHBOUR: 'it returns false'. Refute it at one input. -/
def sigSameWrong : ChangeSpec := { name := "sigSame", fn := fun _ => fun
  | [d1, d2] => { results := [.lit (.bool false)], args := [d1, d2] }
  | _ => none }
def SigSameWrongFalsely : Prop := sigSameRow.holds Try.pinned (OpenSpec.ofChange sigSameWrong)

/- THE SECOND FORM. 'bulk': how many values and letters a reading holds, each counted each time it is reached (what is shared counts as often as it is met; a slice's spare places count too). A statement '..UptoSaid' is the law's where the arguments, and the package variables that the reading takes, are together of bulk at most 1048576: NARROWER than '..Said'. Prove '..Said' where nothing that the law and all that it calls make is longer than what came in: it says more and counts as full. Else prove '..UptoSaid'. A law counts once. -/
mutual
def uptoBulk {H : Type} : DataW H → Nat
  | .lit (.string bytes) => bytes.length + 1
  | .lit _ => 1
  | .nil => 1
  | .ptr d => uptoBulk d + 1
  | .slice elems spare => uptoBulkAll elems + uptoBulkAll spare + 1
  | .agg parts => uptoBulkAll parts + 1
  | .iface _ d => uptoBulk d + 1
  | .map entries => uptoBulkEntries entries + 1
  | .held _ => 1
def uptoBulkAll {H : Type} : List (DataW H) → Nat
  | [] => 0
  | d :: r => uptoBulk d + uptoBulkAll r
def uptoBulkEntries {H : Type} : List (Lit × DataW H) → Nat
  | [] => 0
  | x :: r => uptoBulkEntry x + uptoBulkEntries r
def uptoBulkEntry {H : Type} : Lit × DataW H → Nat
  | (.string bytes, d) => bytes.length + uptoBulk d + 1
  | (_, d) => uptoBulk d + 1
 end
def uptoSmall : (H : Type) → List (DataW H) → Bool := fun _ ds => decide (uptoBulkAll ds ≤ 1048576)
def OpenSpec.upto (s : _root_.Go.ChangeSpec) : _root_.Go.OpenSpec := { _root_.Go.OpenSpec.ofChange s with cond := some uptoSmall }

/-- 'tachographlaw01.WireFolds', WHERE WHAT IT READS IS OF BULK AT MOST 1048576: true; the input reads as it did. -/
def wireFoldsUptoRow : OpenClaim := { program := "ytjfklfmfeghjnaa", sum := "e2d050e1054d6953c9e170862e6d2359cf2f0bd62d688082892163fe95b3e2d1", func := "tachograph/tachographlaw01.WireFolds", spec := "wireFolds", unfollowed := true, recurses := true, plainKeys := false, apart := false, narrowed := true }
def WireFoldsUptoSaid : Prop := wireFoldsUptoRow.holds Try.pinned (OpenSpec.upto wireFoldsSpec)

/-- 'tachographlaw01.WireGets', WHERE WHAT IT READS IS OF BULK AT MOST 1048576: true; the input reads as it did. -/
def wireGetsUptoRow : OpenClaim := { program := "ytjfklfmfeghjnaa", sum := "e2d050e1054d6953c9e170862e6d2359cf2f0bd62d688082892163fe95b3e2d1", func := "tachograph/tachographlaw01.WireGets", spec := "wireGets", unfollowed := true, recurses := true, plainKeys := false, apart := false, narrowed := true }
def WireGetsUptoSaid : Prop := wireGetsUptoRow.holds Try.pinned (OpenSpec.upto wireGetsSpec)

/-- 'tachographlaw01.WireCuts', WHERE WHAT IT READS IS OF BULK AT MOST 1048576: true; the input reads as it did. -/
def wireCutsUptoRow : OpenClaim := { program := "ytjfklfmfeghjnaa", sum := "e2d050e1054d6953c9e170862e6d2359cf2f0bd62d688082892163fe95b3e2d1", func := "tachograph/tachographlaw01.WireCuts", spec := "wireCuts", unfollowed := true, recurses := true, plainKeys := false, apart := false, narrowed := true }
def WireCutsUptoSaid : Prop := wireCutsUptoRow.holds Try.pinned (OpenSpec.upto wireCutsSpec)

/-- 'tachographlaw01.WirePuts', WHERE WHAT IT READS IS OF BULK AT MOST 1048576: true; the input reads as it did. -/
def wirePutsUptoRow : OpenClaim := { program := "ytjfklfmfeghjnaa", sum := "e2d050e1054d6953c9e170862e6d2359cf2f0bd62d688082892163fe95b3e2d1", func := "tachograph/tachographlaw01.WirePuts", spec := "wirePuts", unfollowed := true, recurses := true, plainKeys := false, apart := false, narrowed := true }
def WirePutsUptoSaid : Prop := wirePutsUptoRow.holds Try.pinned (OpenSpec.upto wirePutsSpec)

/-- 'tachographlaw02.BlobPuts', WHERE WHAT IT READS IS OF BULK AT MOST 1048576: true; the input reads as it did. -/
def blobPutsUptoRow : OpenClaim := { program := "ytjfklfmfeghjnaa", sum := "e2d050e1054d6953c9e170862e6d2359cf2f0bd62d688082892163fe95b3e2d1", func := "tachograph/tachographlaw02.BlobPuts", spec := "blobPuts", unfollowed := true, recurses := true, plainKeys := false, apart := false, narrowed := true }
def BlobPutsUptoSaid : Prop := blobPutsUptoRow.holds Try.pinned (OpenSpec.upto blobPutsSpec)

/-- 'tachographlaw02.BlobGets', WHERE WHAT IT READS IS OF BULK AT MOST 1048576: true; the input reads as it did. -/
def blobGetsUptoRow : OpenClaim := { program := "ytjfklfmfeghjnaa", sum := "e2d050e1054d6953c9e170862e6d2359cf2f0bd62d688082892163fe95b3e2d1", func := "tachograph/tachographlaw02.BlobGets", spec := "blobGets", unfollowed := true, recurses := true, plainKeys := false, apart := false, narrowed := true }
def BlobGetsUptoSaid : Prop := blobGetsUptoRow.holds Try.pinned (OpenSpec.upto blobGetsSpec)

/-- 'tachographlaw02.BlobAll', WHERE WHAT IT READS IS OF BULK AT MOST 1048576: true; the input reads as it did. -/
def blobAllUptoRow : OpenClaim := { program := "ytjfklfmfeghjnaa", sum := "e2d050e1054d6953c9e170862e6d2359cf2f0bd62d688082892163fe95b3e2d1", func := "tachograph/tachographlaw02.BlobAll", spec := "blobAll", unfollowed := true, recurses := true, plainKeys := false, apart := false, narrowed := true }
def BlobAllUptoSaid : Prop := blobAllUptoRow.holds Try.pinned (OpenSpec.upto blobAllSpec)

/-- 'tachographlaw03.CursorPlays', WHERE WHAT IT READS IS OF BULK AT MOST 1048576: true; the input reads as it did. -/
def cursorPlaysUptoRow : OpenClaim := { program := "ytjfklfmfeghjnaa", sum := "e2d050e1054d6953c9e170862e6d2359cf2f0bd62d688082892163fe95b3e2d1", func := "tachograph/tachographlaw03.CursorPlays", spec := "cursorPlays", unfollowed := true, recurses := true, plainKeys := false, apart := false, narrowed := true }
def CursorPlaysUptoSaid : Prop := cursorPlaysUptoRow.holds Try.pinned (OpenSpec.upto cursorPlaysSpec)

/-- 'tachographlaw03.CursorNever', WHERE WHAT IT READS IS OF BULK AT MOST 1048576: true; the input reads as it did. -/
def cursorNeverUptoRow : OpenClaim := { program := "ytjfklfmfeghjnaa", sum := "e2d050e1054d6953c9e170862e6d2359cf2f0bd62d688082892163fe95b3e2d1", func := "tachograph/tachographlaw03.CursorNever", spec := "cursorNever", unfollowed := true, recurses := true, plainKeys := false, apart := false, narrowed := true }
def CursorNeverUptoSaid : Prop := cursorNeverUptoRow.holds Try.pinned (OpenSpec.upto cursorNeverSpec)

/-- 'tachographlaw09.SigChecks', WHERE WHAT IT READS IS OF BULK AT MOST 1048576: true; the input reads as it did. -/
def sigChecksUptoRow : OpenClaim := { program := "ytjfklfmfeghjnaa", sum := "e2d050e1054d6953c9e170862e6d2359cf2f0bd62d688082892163fe95b3e2d1", func := "tachograph/tachographlaw09.SigChecks", spec := "sigChecks", plainKeys := false, apart := false, narrowed := true }
def SigChecksUptoSaid : Prop := sigChecksUptoRow.holds Try.pinned (OpenSpec.upto sigChecksSpec)

/-- 'tachographlaw09.SigFirst', WHERE WHAT IT READS IS OF BULK AT MOST 1048576: true; the input reads as it did. -/
def sigFirstUptoRow : OpenClaim := { program := "ytjfklfmfeghjnaa", sum := "e2d050e1054d6953c9e170862e6d2359cf2f0bd62d688082892163fe95b3e2d1", func := "tachograph/tachographlaw09.SigFirst", spec := "sigFirst", plainKeys := false, apart := false, narrowed := true }
def SigFirstUptoSaid : Prop := sigFirstUptoRow.holds Try.pinned (OpenSpec.upto sigFirstSpec)

/-- 'tachographlaw09.SigSame', WHERE WHAT IT READS IS OF BULK AT MOST 1048576: true; the input reads as it did. -/
def sigSameUptoRow : OpenClaim := { program := "ytjfklfmfeghjnaa", sum := "e2d050e1054d6953c9e170862e6d2359cf2f0bd62d688082892163fe95b3e2d1", func := "tachograph/tachographlaw09.SigSame", spec := "sigSame", unfollowed := true, recurses := true, plainKeys := false, apart := false, narrowed := true }
def SigSameUptoSaid : Prop := sigSameUptoRow.holds Try.pinned (OpenSpec.upto sigSameSpec)

end Rows
end Go.Proofs.Ytjfklfmfeghjnaa
