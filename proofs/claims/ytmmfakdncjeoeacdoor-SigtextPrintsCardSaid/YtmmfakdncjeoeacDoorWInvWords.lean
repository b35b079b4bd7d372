-- WORDS of the kit's print for this program, without those that no text of this claim names: cut by wip/tools/prune.py.
import Derived.Test.YtmmfakdncjeoeacDoorWInv
import Derived.Test.YtmmfakdncjeoeacDoorWFootNe
namespace Go.Proofs.YtmmfakdncjeoeacDoorW.PrintWords
open Go.RowKit
end Go.Proofs.YtmmfakdncjeoeacDoorW.PrintWords
namespace Go.Proofs.YtmmfakdncjeoeacDoorW.PrintLast
section
variable {ops : Array Oper} {a : Act} {o og : Oper} {g : Nat} {t : Tmp} {u : Bool}
end
end Go.Proofs.YtmmfakdncjeoeacDoorW.PrintLast
