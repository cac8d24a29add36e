
import Derived.WalkKit
import Derived.Laws.Bits64
import Derived.Laws.BitsLemmas
import Derived.Laws.BitsAllLaws
import Derived.RowKit
import Derived.Test.YtjiejmkkaekefaaVWords
import Derived.Test.YtjiejmkkaekefaaVMore


/-
  Plain laws on bits and wraps: masks, joins, complements of words of 64 bits; no program in sight.
-/
namespace Go.Proofs.YtjiejmkkaekefaaH
open Go.RowKit Go.Proofs.YtjiejmkkaekefaaW.PrintWords Go.Proofs.YtjiejmkkaekefaaW.PrintMore

end Go.Proofs.YtjiejmkkaekefaaH
