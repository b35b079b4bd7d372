-- WORDS of the kit's print for this program, without those that no text of this claim names: cut by wip/tools/prune.py.
import Derived.Test.YtmmfakdncjeoeaaWWords
import Derived.Laws.StructEq
namespace Go.Proofs.YtmmfakdncjeoeaaW.PrintWords
open Go.RowKit
section
variable {P : Program} {d : Nat} {xs ys : Array Value} {f : Field} {fs : List Field} {a b : Value} {r s : Bool} {w : World}
end
end Go.Proofs.YtmmfakdncjeoeaaW.PrintWords
