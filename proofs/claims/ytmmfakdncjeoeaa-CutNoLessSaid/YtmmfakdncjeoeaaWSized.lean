-- WORDS of the kit's print for this program, without those that no text of this claim names: cut by wip/tools/prune.py.
import Derived.SizedLaws
import Derived.ChangeSlices
namespace Go.Proofs.YtmmfakdncjeoeaaW.PrintWords
open Go.ChangeShapes Go.WideShapes
end Go.Proofs.YtmmfakdncjeoeaaW.PrintWords
