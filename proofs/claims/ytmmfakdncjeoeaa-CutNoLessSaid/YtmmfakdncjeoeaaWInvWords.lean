-- WORDS of the kit's print for this program, without those that no text of this claim names: cut by wip/tools/prune.py.
import Derived.Test.YtmmfakdncjeoeaaWInv
import Derived.Test.YtmmfakdncjeoeaaWFootNe
namespace Go.Proofs.YtmmfakdncjeoeaaW.PrintWords
open Go.RowKit
end Go.Proofs.YtmmfakdncjeoeaaW.PrintWords
namespace Go.Proofs.YtmmfakdncjeoeaaW.PrintLast
section
variable {ops : Array Oper} {a : Act} {o og : Oper} {g : Nat} {t : Tmp} {u : Bool}
end
end Go.Proofs.YtmmfakdncjeoeaaW.PrintLast
