/-
  No cell of these rows narrows 'for every input' (looked for: loops, veiled, ifaces, maps, wideKeys, modest, calm, conditions, laid).
  DERIVED. THE GIVEN ROWS OF THIS SEAT. 12 by the template 'for every input the law returns true; each argument reads behind the call as it read before'; 0 by the template 'total and deterministic' (their statements: YtjfklfmfeghjnabTotals.lean).
  GIVEN WITH THE SEED: the statements are not yours to turn. If you find one false, say at which input.
  Laid BY PROGRAM, IN A SANDBOX (cutbox-rows.mjs): the forced cells as the released guide's own fill.sh prints them over the translation ef69be61cc839ef3… (all of the seat's roots in one cut). By AI agents, Wed Nov 11 2026. No macro, syntax, notation, axiom, sorry.
-/
import Derived.Test.YtjfklfmfeghjnabChecked
import GoSem.Claim
import GoSem.ClaimJoined
import GoSem.ClaimMapViews
import Derived.JoinedTies
import Derived.KernelRfl
namespace Go.Proofs.Ytjfklfmfeghjnab
/- THE CELL 'sum', in the pinned program and in every row, IS THE sha256 OF THE DUMP (.gsa) THAT YtjfklfmfeghjnabProg.lean LOADS. Nothing in Lean hashes anything: it is a label: what it is worth is what the hold of that sum in a sandbox is worth. -/
noncomputable def Try.pinned : Pinned := { name := "ytjfklfmfeghjnab", sum := "ef69be61cc839ef3877321552b4a04e8da193ffaf1e66916790556d61906b440", checked := Try.checked }
namespace Rows
def none {H : Type} : Left H := { results := [], args := [] }

/-- 'tachographlaw13.DictPlays': WHATEVER THE INPUT: true; the input reads as it did. -/
def dictPlaysSpec : ChangeSpec := { name := "dictPlays", fn := fun _ => fun
  | [d1, d2, d3] => { results := [.lit (.bool true)], args := [d1, d2, d3] }
  | _ => none }
def dictPlaysRow : OpenClaim := { program := "ytjfklfmfeghjnab", sum := "ef69be61cc839ef3877321552b4a04e8da193ffaf1e66916790556d61906b440", func := "tachograph/tachographlaw13.DictPlays", spec := "dictPlays", plainKeys := false, apart := false }
def DictPlaysSaid : Prop := dictPlaysRow.holds Try.pinned (OpenSpec.ofChange dictPlaysSpec)

/-- ITS FALSE NEIGHBOUR: 'it returns false'. Refute it at one input. -/
def dictPlaysWrong : ChangeSpec := { name := "dictPlays", fn := fun _ => fun
  | [d1, d2, d3] => { results := [.lit (.bool false)], args := [d1, d2, d3] }
  | _ => none }
def DictPlaysWrongFalsely : Prop := dictPlaysRow.holds Try.pinned (OpenSpec.ofChange dictPlaysWrong)

/-- 'tachographlaw13.DictOf': WHATEVER THE INPUT: true; the input reads as it did. -/
def dictOfSpec : ChangeSpec := { name := "dictOf", fn := fun _ => fun
  | [d] => { results := [.lit (.bool true)], args := [d] }
  | _ => none }
def dictOfRow : OpenClaim := { program := "ytjfklfmfeghjnab", sum := "ef69be61cc839ef3877321552b4a04e8da193ffaf1e66916790556d61906b440", func := "tachograph/tachographlaw13.DictOf", spec := "dictOf", plainKeys := false, apart := false }
def DictOfSaid : Prop := dictOfRow.holds Try.pinned (OpenSpec.ofChange dictOfSpec)

/-- ITS FALSE NEIGHBOUR: 'it returns false'. Refute it at one input. -/
def dictOfWrong : ChangeSpec := { name := "dictOf", fn := fun _ => fun
  | [d] => { results := [.lit (.bool false)], args := [d] }
  | _ => none }
def DictOfWrongFalsely : Prop := dictOfRow.holds Try.pinned (OpenSpec.ofChange dictOfWrong)

/-- 'tachographlaw12.TraceChecks': WHATEVER THE INPUT: true; the input reads as it did. -/
def traceChecksSpec : ChangeSpec := { name := "traceChecks", fn := fun _ => fun
  | [d1, d2] => { results := [.lit (.bool true)], args := [d1, d2] }
  | _ => none }
def traceChecksRow : OpenClaim := { program := "ytjfklfmfeghjnab", sum := "ef69be61cc839ef3877321552b4a04e8da193ffaf1e66916790556d61906b440", func := "tachograph/tachographlaw12.TraceChecks", spec := "traceChecks", unfollowed := true, recurses := true, plainKeys := false, apart := false }
def TraceChecksSaid : Prop := traceChecksRow.holds Try.pinned (OpenSpec.ofChange traceChecksSpec)

/-- ITS FALSE NEIGHBOUR: 'it returns false'. Refute it at one input. -/
def traceChecksWrong : ChangeSpec := { name := "traceChecks", fn := fun _ => fun
  | [d1, d2] => { results := [.lit (.bool false)], args := [d1, d2] }
  | _ => none }
def TraceChecksWrongFalsely : Prop := traceChecksRow.holds Try.pinned (OpenSpec.ofChange traceChecksWrong)

/-- 'tachographlaw12.TraceParts': WHATEVER THE INPUT: true; the input reads as it did. -/
def tracePartsSpec : ChangeSpec := { name := "traceParts", fn := fun _ => fun
  | [d1, d2, d3] => { results := [.lit (.bool true)], args := [d1, d2, d3] }
  | _ => none }
def tracePartsRow : OpenClaim := { program := "ytjfklfmfeghjnab", sum := "ef69be61cc839ef3877321552b4a04e8da193ffaf1e66916790556d61906b440", func := "tachograph/tachographlaw12.TraceParts", spec := "traceParts", unfollowed := true, recurses := true, plainKeys := false, apart := false }
def TracePartsSaid : Prop := tracePartsRow.holds Try.pinned (OpenSpec.ofChange tracePartsSpec)

/-- ITS FALSE NEIGHBOUR: 'it returns false'. Refute it at one input. -/
def tracePartsWrong : ChangeSpec := { name := "traceParts", fn := fun _ => fun
  | [d1, d2, d3] => { results := [.lit (.bool false)], args := [d1, d2, d3] }
  | _ => none }
def TracePartsWrongFalsely : Prop := tracePartsRow.holds Try.pinned (OpenSpec.ofChange tracePartsWrong)

/-- 'tachographlaw12.TraceSame': WHATEVER THE INPUT: true; the input reads as it did. -/
def traceSameSpec : ChangeSpec := { name := "traceSame", fn := fun _ => fun
  | [d1, d2] => { results := [.lit (.bool true)], args := [d1, d2] }
  | _ => none }
def traceSameRow : OpenClaim := { program := "ytjfklfmfeghjnab", sum := "ef69be61cc839ef3877321552b4a04e8da193ffaf1e66916790556d61906b440", func := "tachograph/tachographlaw12.TraceSame", spec := "traceSame", unfollowed := true, recurses := true, plainKeys := false, apart := false }
def TraceSameSaid : Prop := traceSameRow.holds Try.pinned (OpenSpec.ofChange traceSameSpec)

/-- ITS FALSE NEIGHBOUR: 'it returns false'. Refute it at one input. -/
def traceSameWrong : ChangeSpec := { name := "traceSame", fn := fun _ => fun
  | [d1, d2] => { results := [.lit (.bool false)], args := [d1, d2] }
  | _ => none }
def TraceSameWrongFalsely : Prop := traceSameRow.holds Try.pinned (OpenSpec.ofChange traceSameWrong)

/-- 'tachographlaw11.SigbinGets': WHATEVER THE INPUT: true; the input reads as it did. -/
def sigbinGetsSpec : ChangeSpec := { name := "sigbinGets", fn := fun _ => fun
  | [d] => { results := [.lit (.bool true)], args := [d] }
  | _ => none }
def sigbinGetsRow : OpenClaim := { program := "ytjfklfmfeghjnab", sum := "ef69be61cc839ef3877321552b4a04e8da193ffaf1e66916790556d61906b440", func := "tachograph/tachographlaw11.SigbinGets", spec := "sigbinGets", unfollowed := true, recurses := true, plainKeys := false, apart := false }
def SigbinGetsSaid : Prop := sigbinGetsRow.holds Try.pinned (OpenSpec.ofChange sigbinGetsSpec)

/-- ITS FALSE NEIGHBOUR: 'it returns false'. Refute it at one input. -/
def sigbinGetsWrong : ChangeSpec := { name := "sigbinGets", fn := fun _ => fun
  | [d] => { results := [.lit (.bool false)], args := [d] }
  | _ => none }
def SigbinGetsWrongFalsely : Prop := sigbinGetsRow.holds Try.pinned (OpenSpec.ofChange sigbinGetsWrong)

/-- 'tachographlaw11.SigbinCuts': WHATEVER THE INPUT: true; the input reads as it did. -/
def sigbinCutsSpec : ChangeSpec := { name := "sigbinCuts", fn := fun _ => fun
  | [d1, d2, d3] => { results := [.lit (.bool true)], args := [d1, d2, d3] }
  | _ => none }
def sigbinCutsRow : OpenClaim := { program := "ytjfklfmfeghjnab", sum := "ef69be61cc839ef3877321552b4a04e8da193ffaf1e66916790556d61906b440", func := "tachograph/tachographlaw11.SigbinCuts", spec := "sigbinCuts", unfollowed := true, recurses := true, plainKeys := false, apart := false }
def SigbinCutsSaid : Prop := sigbinCutsRow.holds Try.pinned (OpenSpec.ofChange sigbinCutsSpec)

/-- ITS FALSE NEIGHBOUR: 'it returns false'. Refute it at one input. -/
def sigbinCutsWrong : ChangeSpec := { name := "sigbinCuts", fn := fun _ => fun
  | [d1, d2, d3] => { results := [.lit (.bool false)], args := [d1, d2, d3] }
  | _ => none }
def SigbinCutsWrongFalsely : Prop := sigbinCutsRow.holds Try.pinned (OpenSpec.ofChange sigbinCutsWrong)

/-- 'tachographlaw14.BlockShifts': WHATEVER THE INPUT: true; the input reads as it did. -/
def blockShiftsSpec : ChangeSpec := { name := "blockShifts", fn := fun _ => fun
  | [d1, d2, d3] => { results := [.lit (.bool true)], args := [d1, d2, d3] }
  | _ => none }
def blockShiftsRow : OpenClaim := { program := "ytjfklfmfeghjnab", sum := "ef69be61cc839ef3877321552b4a04e8da193ffaf1e66916790556d61906b440", func := "tachograph/tachographlaw14.BlockShifts", spec := "blockShifts", unfollowed := true, recurses := true, plainKeys := false, apart := false }
def BlockShiftsSaid : Prop := blockShiftsRow.holds Try.pinned (OpenSpec.ofChange blockShiftsSpec)

/-- ITS FALSE NEIGHBOUR: 'it returns false'. Refute it at one input. -/
def blockShiftsWrong : ChangeSpec := { name := "blockShifts", fn := fun _ => fun
  | [d1, d2, d3] => { results := [.lit (.bool false)], args := [d1, d2, d3] }
  | _ => none }
def BlockShiftsWrongFalsely : Prop := blockShiftsRow.holds Try.pinned (OpenSpec.ofChange blockShiftsWrong)

/-- 'tachographlaw15.UnblockBack': WHATEVER THE INPUT: true; the input reads as it did. -/
def unblockBackSpec : ChangeSpec := { name := "unblockBack", fn := fun _ => fun
  | [d1, d2, d3] => { results := [.lit (.bool true)], args := [d1, d2, d3] }
  | _ => none }
def unblockBackRow : OpenClaim := { program := "ytjfklfmfeghjnab", sum := "ef69be61cc839ef3877321552b4a04e8da193ffaf1e66916790556d61906b440", func := "tachograph/tachographlaw15.UnblockBack", spec := "unblockBack", unfollowed := true, recurses := true, plainKeys := false, apart := false }
def UnblockBackSaid : Prop := unblockBackRow.holds Try.pinned (OpenSpec.ofChange unblockBackSpec)

/-- ITS FALSE NEIGHBOUR: 'it returns false'. Refute it at one input. -/
def unblockBackWrong : ChangeSpec := { name := "unblockBack", fn := fun _ => fun
  | [d1, d2, d3] => { results := [.lit (.bool false)], args := [d1, d2, d3] }
  | _ => none }
def UnblockBackWrongFalsely : Prop := unblockBackRow.holds Try.pinned (OpenSpec.ofChange unblockBackWrong)

/-- 'tachographlaw15.UnblockTurned': WHATEVER THE INPUT: true; the input reads as it did. -/
def unblockTurnedSpec : ChangeSpec := { name := "unblockTurned", fn := fun _ => fun
  | [d1, d2, d3] => { results := [.lit (.bool true)], args := [d1, d2, d3] }
  | _ => none }
def unblockTurnedRow : OpenClaim := { program := "ytjfklfmfeghjnab", sum := "ef69be61cc839ef3877321552b4a04e8da193ffaf1e66916790556d61906b440", func := "tachograph/tachographlaw15.UnblockTurned", spec := "unblockTurned", unfollowed := true, recurses := true, plainKeys := false, apart := false }
def UnblockTurnedSaid : Prop := unblockTurnedRow.holds Try.pinned (OpenSpec.ofChange unblockTurnedSpec)

/-- ITS FALSE NEIGHBOUR: 'it returns false'. Refute it at one input. -/
def unblockTurnedWrong : ChangeSpec := { name := "unblockTurned", fn := fun _ => fun
  | [d1, d2, d3] => { results := [.lit (.bool false)], args := [d1, d2, d3] }
  | _ => none }
def UnblockTurnedWrongFalsely : Prop := unblockTurnedRow.holds Try.pinned (OpenSpec.ofChange unblockTurnedWrong)

/-- 'tachographlaw15.UnblockGets': WHATEVER THE INPUT: true; the input reads as it did. -/
def unblockGetsSpec : ChangeSpec := { name := "unblockGets", fn := fun _ => fun
  | [d1, d2] => { results := [.lit (.bool true)], args := [d1, d2] }
  | _ => none }
def unblockGetsRow : OpenClaim := { program := "ytjfklfmfeghjnab", sum := "ef69be61cc839ef3877321552b4a04e8da193ffaf1e66916790556d61906b440", func := "tachograph/tachographlaw15.UnblockGets", spec := "unblockGets", unfollowed := true, recurses := true, plainKeys := false, apart := false }
def UnblockGetsSaid : Prop := unblockGetsRow.holds Try.pinned (OpenSpec.ofChange unblockGetsSpec)

/-- ITS FALSE NEIGHBOUR: 'it returns false'. Refute it at one input. -/
def unblockGetsWrong : ChangeSpec := { name := "unblockGets", fn := fun _ => fun
  | [d1, d2] => { results := [.lit (.bool false)], args := [d1, d2] }
  | _ => none }
def UnblockGetsWrongFalsely : Prop := unblockGetsRow.holds Try.pinned (OpenSpec.ofChange unblockGetsWrong)

/-- 'tachographlaw16.CutNoLess': WHATEVER THE INPUT: true; the input reads as it did. -/
def cutNoLessSpec : ChangeSpec := { name := "cutNoLess", fn := fun _ => fun
  | [d1, d2, d3] => { results := [.lit (.bool true)], args := [d1, d2, d3] }
  | _ => none }
def cutNoLessRow : OpenClaim := { program := "ytjfklfmfeghjnab", sum := "ef69be61cc839ef3877321552b4a04e8da193ffaf1e66916790556d61906b440", func := "tachograph/tachographlaw16.CutNoLess", spec := "cutNoLess", unfollowed := true, recurses := true, plainKeys := false, apart := false }
def CutNoLessSaid : Prop := cutNoLessRow.holds Try.pinned (OpenSpec.ofChange cutNoLessSpec)

/-- ITS FALSE NEIGHBOUR: 'it returns false'. Refute it at one input. -/
def cutNoLessWrong : ChangeSpec := { name := "cutNoLess", fn := fun _ => fun
  | [d1, d2, d3] => { results := [.lit (.bool false)], args := [d1, d2, d3] }
  | _ => none }
def CutNoLessWrongFalsely : Prop := cutNoLessRow.holds Try.pinned (OpenSpec.ofChange cutNoLessWrong)

/- THE SECOND FORM. 'bulk': how many values and letters a reading holds, each counted each time it is reached (what is shared counts as often as it is met; a slice's spare places count too). A statement '..UptoSaid' is the law's where the arguments, and the package variables that the reading takes, are together of bulk at most 1048576: NARROWER than '..Said'. Prove '..Said' where nothing that the law and all that it calls make is longer than what came in: it says more and counts as full. Else prove '..UptoSaid'. A law counts once. -/
mutual
def uptoBulk {H : Type} : DataW H → Nat
  | .lit (.string bytes) => bytes.length + 1
  | .lit _ => 1
  | .nil => 1
  | .ptr d => uptoBulk d + 1
  | .slice elems spare => uptoBulkAll elems + uptoBulkAll spare + 1
  | .agg parts => uptoBulkAll parts + 1
  | .iface _ d => uptoBulk d + 1
  | .map entries => uptoBulkEntries entries + 1
  | .held _ => 1
def uptoBulkAll {H : Type} : List (DataW H) → Nat
  | [] => 0
  | d :: r => uptoBulk d + uptoBulkAll r
def uptoBulkEntries {H : Type} : List (Lit × DataW H) → Nat
  | [] => 0
  | x :: r => uptoBulkEntry x + uptoBulkEntries r
def uptoBulkEntry {H : Type} : Lit × DataW H → Nat
  | (.string bytes, d) => bytes.length + uptoBulk d + 1
  | (_, d) => uptoBulk d + 1
 end
def uptoSmall : (H : Type) → List (DataW H) → Bool := fun _ ds => decide (uptoBulkAll ds ≤ 1048576)
def OpenSpec.upto (s : _root_.Go.ChangeSpec) : _root_.Go.OpenSpec := { _root_.Go.OpenSpec.ofChange s with cond := some uptoSmall }

/-- 'tachographlaw13.DictPlays', WHERE WHAT IT READS IS OF BULK AT MOST 1048576: true; the input reads as it did. -/
def dictPlaysUptoRow : OpenClaim := { program := "ytjfklfmfeghjnab", sum := "ef69be61cc839ef3877321552b4a04e8da193ffaf1e66916790556d61906b440", func := "tachograph/tachographlaw13.DictPlays", spec := "dictPlays", plainKeys := false, apart := false, narrowed := true }
def DictPlaysUptoSaid : Prop := dictPlaysUptoRow.holds Try.pinned (OpenSpec.upto dictPlaysSpec)

/-- 'tachographlaw13.DictOf', WHERE WHAT IT READS IS OF BULK AT MOST 1048576: true; the input reads as it did. -/
def dictOfUptoRow : OpenClaim := { program := "ytjfklfmfeghjnab", sum := "ef69be61cc839ef3877321552b4a04e8da193ffaf1e66916790556d61906b440", func := "tachograph/tachographlaw13.DictOf", spec := "dictOf", plainKeys := false, apart := false, narrowed := true }
def DictOfUptoSaid : Prop := dictOfUptoRow.holds Try.pinned (OpenSpec.upto dictOfSpec)

/-- 'tachographlaw12.TraceChecks', WHERE WHAT IT READS IS OF BULK AT MOST 1048576: true; the input reads as it did. -/
def traceChecksUptoRow : OpenClaim := { program := "ytjfklfmfeghjnab", sum := "ef69be61cc839ef3877321552b4a04e8da193ffaf1e66916790556d61906b440", func := "tachograph/tachographlaw12.TraceChecks", spec := "traceChecks", unfollowed := true, recurses := true, plainKeys := false, apart := false, narrowed := true }
def TraceChecksUptoSaid : Prop := traceChecksUptoRow.holds Try.pinned (OpenSpec.upto traceChecksSpec)

/-- 'tachographlaw12.TraceParts', WHERE WHAT IT READS IS OF BULK AT MOST 1048576: true; the input reads as it did. -/
def tracePartsUptoRow : OpenClaim := { program := "ytjfklfmfeghjnab", sum := "ef69be61cc839ef3877321552b4a04e8da193ffaf1e66916790556d61906b440", func := "tachograph/tachographlaw12.TraceParts", spec := "traceParts", unfollowed := true, recurses := true, plainKeys := false, apart := false, narrowed := true }
def TracePartsUptoSaid : Prop := tracePartsUptoRow.holds Try.pinned (OpenSpec.upto tracePartsSpec)

/-- 'tachographlaw12.TraceSame', WHERE WHAT IT READS IS OF BULK AT MOST 1048576: true; the input reads as it did. -/
def traceSameUptoRow : OpenClaim := { program := "ytjfklfmfeghjnab", sum := "ef69be61cc839ef3877321552b4a04e8da193ffaf1e66916790556d61906b440", func := "tachograph/tachographlaw12.TraceSame", spec := "traceSame", unfollowed := true, recurses := true, plainKeys := false, apart := false, narrowed := true }
def TraceSameUptoSaid : Prop := traceSameUptoRow.holds Try.pinned (OpenSpec.upto traceSameSpec)

/-- 'tachographlaw11.SigbinGets', WHERE WHAT IT READS IS OF BULK AT MOST 1048576: true; the input reads as it did. -/
def sigbinGetsUptoRow : OpenClaim := { program := "ytjfklfmfeghjnab", sum := "ef69be61cc839ef3877321552b4a04e8da193ffaf1e66916790556d61906b440", func := "tachograph/tachographlaw11.SigbinGets", spec := "sigbinGets", unfollowed := true, recurses := true, plainKeys := false, apart := false, narrowed := true }
def SigbinGetsUptoSaid : Prop := sigbinGetsUptoRow.holds Try.pinned (OpenSpec.upto sigbinGetsSpec)

/-- 'tachographlaw11.SigbinCuts', WHERE WHAT IT READS IS OF BULK AT MOST 1048576: true; the input reads as it did. -/
def sigbinCutsUptoRow : OpenClaim := { program := "ytjfklfmfeghjnab", sum := "ef69be61cc839ef3877321552b4a04e8da193ffaf1e66916790556d61906b440", func := "tachograph/tachographlaw11.SigbinCuts", spec := "sigbinCuts", unfollowed := true, recurses := true, plainKeys := false, apart := false, narrowed := true }
def SigbinCutsUptoSaid : Prop := sigbinCutsUptoRow.holds Try.pinned (OpenSpec.upto sigbinCutsSpec)

/-- 'tachographlaw14.BlockShifts', WHERE WHAT IT READS IS OF BULK AT MOST 1048576: true; the input reads as it did. -/
def blockShiftsUptoRow : OpenClaim := { program := "ytjfklfmfeghjnab", sum := "ef69be61cc839ef3877321552b4a04e8da193ffaf1e66916790556d61906b440", func := "tachograph/tachographlaw14.BlockShifts", spec := "blockShifts", unfollowed := true, recurses := true, plainKeys := false, apart := false, narrowed := true }
def BlockShiftsUptoSaid : Prop := blockShiftsUptoRow.holds Try.pinned (OpenSpec.upto blockShiftsSpec)

/-- 'tachographlaw15.UnblockBack', WHERE WHAT IT READS IS OF BULK AT MOST 1048576: true; the input reads as it did. -/
def unblockBackUptoRow : OpenClaim := { program := "ytjfklfmfeghjnab", sum := "ef69be61cc839ef3877321552b4a04e8da193ffaf1e66916790556d61906b440", func := "tachograph/tachographlaw15.UnblockBack", spec := "unblockBack", unfollowed := true, recurses := true, plainKeys := false, apart := false, narrowed := true }
def UnblockBackUptoSaid : Prop := unblockBackUptoRow.holds Try.pinned (OpenSpec.upto unblockBackSpec)

/-- 'tachographlaw15.UnblockTurned', WHERE WHAT IT READS IS OF BULK AT MOST 1048576: true; the input reads as it did. -/
def unblockTurnedUptoRow : OpenClaim := { program := "ytjfklfmfeghjnab", sum := "ef69be61cc839ef3877321552b4a04e8da193ffaf1e66916790556d61906b440", func := "tachograph/tachographlaw15.UnblockTurned", spec := "unblockTurned", unfollowed := true, recurses := true, plainKeys := false, apart := false, narrowed := true }
def UnblockTurnedUptoSaid : Prop := unblockTurnedUptoRow.holds Try.pinned (OpenSpec.upto unblockTurnedSpec)

/-- 'tachographlaw15.UnblockGets', WHERE WHAT IT READS IS OF BULK AT MOST 1048576: true; the input reads as it did. -/
def unblockGetsUptoRow : OpenClaim := { program := "ytjfklfmfeghjnab", sum := "ef69be61cc839ef3877321552b4a04e8da193ffaf1e66916790556d61906b440", func := "tachograph/tachographlaw15.UnblockGets", spec := "unblockGets", unfollowed := true, recurses := true, plainKeys := false, apart := false, narrowed := true }
def UnblockGetsUptoSaid : Prop := unblockGetsUptoRow.holds Try.pinned (OpenSpec.upto unblockGetsSpec)

/-- 'tachographlaw16.CutNoLess', WHERE WHAT IT READS IS OF BULK AT MOST 1048576: true; the input reads as it did. -/
def cutNoLessUptoRow : OpenClaim := { program := "ytjfklfmfeghjnab", sum := "ef69be61cc839ef3877321552b4a04e8da193ffaf1e66916790556d61906b440", func := "tachograph/tachographlaw16.CutNoLess", spec := "cutNoLess", unfollowed := true, recurses := true, plainKeys := false, apart := false, narrowed := true }
def CutNoLessUptoSaid : Prop := cutNoLessUptoRow.holds Try.pinned (OpenSpec.upto cutNoLessSpec)

end Rows
end Go.Proofs.Ytjfklfmfeghjnab
