-- What of the words that the kit's print wrote for this seat is used here: wip/scratch/trim/trim.py
import Derived.Test.YtjiejmkkaekefaaVTab
namespace Go.Proofs.YtjiejmkkaekefaaW.PrintLast
def up (b : Nat → Bool) (i : Nat) : Nat → Bool := fun j => if j = i then true else b j
end Go.Proofs.YtjiejmkkaekefaaW.PrintLast
