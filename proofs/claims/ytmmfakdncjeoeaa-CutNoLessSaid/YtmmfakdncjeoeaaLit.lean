/- Literals whose elements share rows: told as what is read. -/
import Derived.Test.YtmmfakdncjeoeaaAid
import Derived.ChangeKeysEq
namespace Go.Proofs.YtmmfakdncjeoeaaAid
open Go Go.RowKit
open Go.Proofs.YtmmfakdncjeoeaaW.PrintWords Go.Proofs.YtmmfakdncjeoeaaW.PrintWords.Kd
variable {P : Program}

end Go.Proofs.YtmmfakdncjeoeaaAid
