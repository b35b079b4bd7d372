-- WORDS of the kit's print for this program, without those that no text of this claim names: cut by wip/tools/prune.py.
import Derived.Test.YtmmfakdncjeoeaaWN
namespace Go.Proofs.YtmmfakdncjeoeaaW.PrintWords
open Go.RowKit
namespace Kd
section
variable {α : Type} {d : Kd α} {W : World} {g n : Nat} {S ok : Nat → Prop} {A : Option Addr} {ad : Addr} {xs : List α}
end
end Kd
end Go.Proofs.YtmmfakdncjeoeaaW.PrintWords
