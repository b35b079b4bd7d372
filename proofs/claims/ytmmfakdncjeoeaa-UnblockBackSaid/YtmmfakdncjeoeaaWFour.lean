-- WORDS of the kit's print for this program, without those that no text of this claim names: cut by wip/tools/prune.py.
import Derived.Test.YtmmfakdncjeoeaaWTab
namespace Go.Proofs.YtmmfakdncjeoeaaW.PrintLast
section
variable {P : Program} {ops : Array Oper} {Q : Exit → Act → World → Prop} {md : Region.Mode} {S : World → Prop} {ds : List Nat} {T : Bool × List (List Nat × List Nat)}
end
end Go.Proofs.YtmmfakdncjeoeaaW.PrintLast
-- NARROW
