-- Contracts of Go functions, each with its plain Lean function: written by wip/tools/myprint.py of this work (the kit's print, with contracts proved by hand spliced in).
import Derived.Test.YtjfklfmfeghjnaaPWirex0
import Derived.Test.YtjfklfmfeghjnaaPWirex1
import Derived.Test.YtjfklfmfeghjnaaPWirex2
import Derived.Test.YtjfklfmfeghjnaaPWirex3
import Derived.Test.YtjfklfmfeghjnaaPWirex4
import Derived.Test.YtjfklfmfeghjnaaPWirex5
namespace Go.Proofs.Ytjfklfmfeghjnaa.PWire
open Go.RowKit Go.Proofs.YtjfklfmfeghjnaaW.PrintWords Go.Proofs.YtjfklfmfeghjnaaW.PrintLast Go.Proofs.YtjfklfmfeghjnaaW.PrintMore
attribute [local go_sem] max2_int min2_int max_two min_two max_three min_three max_four min_four   -- for this text's walks alone
set_option linter.unusedVariables false
set_option linter.unusedSimpArgs false

end Go.Proofs.Ytjfklfmfeghjnaa.PWire
