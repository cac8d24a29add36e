/-
  No cell of these rows narrows 'for every input' (looked for: loops, veiled, ifaces, maps, wideKeys, modest, calm, conditions, laid).
  DERIVED. THE GIVEN ROWS OF THIS SEAT. 11 by the template 'for every input the law returns true; each argument reads behind the call as it read before'; 0 by the template 'total and deterministic' (their statements: YtcjkjlopbjijaaaTotals.lean).
  GIVEN WITH THE SEED: the statements are not yours to turn. If you find one false, say at which input.
  Laid BY PROGRAM, IN A SANDBOX (cutbox-rows.mjs): the forced cells as the released guide's own fill.sh prints them over the translation ae516df1262c9671… (all of the seat's roots in one cut). By AI agents, Wed Nov 11 2026. No macro, syntax, notation, axiom, sorry.
-/
import Derived.Test.YtcjkjlopbjijaaaChecked
import GoSem.Claim
import GoSem.ClaimJoined
import GoSem.ClaimMapViews
import Derived.JoinedTies
import Derived.KernelRfl
namespace Go.Proofs.Ytcjkjlopbjijaaa
/- THE CELL 'sum', in the pinned program and in every row, IS THE sha256 OF THE DUMP (.gsa) THAT YtcjkjlopbjijaaaProg.lean LOADS. Nothing in Lean hashes anything: it is a label: what it is worth is what the hold of that sum in a sandbox is worth. -/
noncomputable def Try.pinned : Pinned := { name := "ytcjkjlopbjijaaa", sum := "ae516df1262c9671b39c392cc34291075ff7473ae530aa37257ebaef39a3bbc9", checked := Try.checked }
namespace Rows
def none {H : Type} : Left H := { results := [], args := [] }

/-- 'treillagelaw15.MemDoes': WHATEVER THE INPUT: true; the input reads as it did. -/
def memDoesSpec : ChangeSpec := { name := "memDoes", fn := fun _ => fun
  | [d1, d2] => { results := [.lit (.bool true)], args := [d1, d2] }
  | _ => none }
def memDoesRow : OpenClaim := { program := "ytcjkjlopbjijaaa", sum := "ae516df1262c9671b39c392cc34291075ff7473ae530aa37257ebaef39a3bbc9", func := "treillage/treillagelaw15.MemDoes", spec := "memDoes", apart := false }
def MemDoesSaid : Prop := memDoesRow.holds Try.pinned (OpenSpec.ofChange memDoesSpec)

/-- ITS FALSE NEIGHBOUR: 'it returns false'. Refute it at one input. -/
def memDoesWrong : ChangeSpec := { name := "memDoes", fn := fun _ => fun
  | [d1, d2] => { results := [.lit (.bool false)], args := [d1, d2] }
  | _ => none }
def MemDoesWrongFalsely : Prop := memDoesRow.holds Try.pinned (OpenSpec.ofChange memDoesWrong)

/-- 'treillagelaw15.MemCas': WHATEVER THE INPUT: true; the input reads as it did. -/
def memCasSpec : ChangeSpec := { name := "memCas", fn := fun _ => fun
  | [d1, d2, d3, d4] => { results := [.lit (.bool true)], args := [d1, d2, d3, d4] }
  | _ => none }
def memCasRow : OpenClaim := { program := "ytcjkjlopbjijaaa", sum := "ae516df1262c9671b39c392cc34291075ff7473ae530aa37257ebaef39a3bbc9", func := "treillage/treillagelaw15.MemCas", spec := "memCas", apart := false }
def MemCasSaid : Prop := memCasRow.holds Try.pinned (OpenSpec.ofChange memCasSpec)

/-- ITS FALSE NEIGHBOUR: 'it returns false'. Refute it at one input. -/
def memCasWrong : ChangeSpec := { name := "memCas", fn := fun _ => fun
  | [d1, d2, d3, d4] => { results := [.lit (.bool false)], args := [d1, d2, d3, d4] }
  | _ => none }
def MemCasWrongFalsely : Prop := memCasRow.holds Try.pinned (OpenSpec.ofChange memCasWrong)

/-- 'treillagelaw15.MemTold': WHATEVER THE INPUT: true; the input reads as it did. -/
def memToldSpec : ChangeSpec := { name := "memTold", fn := fun _ => fun
  | [d1, d2, d3, d4] => { results := [.lit (.bool true)], args := [d1, d2, d3, d4] }
  | _ => none }
def memToldRow : OpenClaim := { program := "ytcjkjlopbjijaaa", sum := "ae516df1262c9671b39c392cc34291075ff7473ae530aa37257ebaef39a3bbc9", func := "treillage/treillagelaw15.MemTold", spec := "memTold", apart := false }
def MemToldSaid : Prop := memToldRow.holds Try.pinned (OpenSpec.ofChange memToldSpec)

/-- ITS FALSE NEIGHBOUR: 'it returns false'. Refute it at one input. -/
def memToldWrong : ChangeSpec := { name := "memTold", fn := fun _ => fun
  | [d1, d2, d3, d4] => { results := [.lit (.bool false)], args := [d1, d2, d3, d4] }
  | _ => none }
def MemToldWrongFalsely : Prop := memToldRow.holds Try.pinned (OpenSpec.ofChange memToldWrong)

/-- 'treillagelaw15.MemCells': WHATEVER THE INPUT: true; the input reads as it did. -/
def memCellsSpec : ChangeSpec := { name := "memCells", fn := fun _ => fun
  | [d1, d2, d3] => { results := [.lit (.bool true)], args := [d1, d2, d3] }
  | _ => none }
def memCellsRow : OpenClaim := { program := "ytcjkjlopbjijaaa", sum := "ae516df1262c9671b39c392cc34291075ff7473ae530aa37257ebaef39a3bbc9", func := "treillage/treillagelaw15.MemCells", spec := "memCells", apart := false }
def MemCellsSaid : Prop := memCellsRow.holds Try.pinned (OpenSpec.ofChange memCellsSpec)

/-- ITS FALSE NEIGHBOUR: 'it returns false'. Refute it at one input. -/
def memCellsWrong : ChangeSpec := { name := "memCells", fn := fun _ => fun
  | [d1, d2, d3] => { results := [.lit (.bool false)], args := [d1, d2, d3] }
  | _ => none }
def MemCellsWrongFalsely : Prop := memCellsRow.holds Try.pinned (OpenSpec.ofChange memCellsWrong)

/-- 'treillagelaw15.MemApart': WHATEVER THE INPUT: true; the input reads as it did. -/
def memApartSpec : ChangeSpec := { name := "memApart", fn := fun _ => fun
  | [d1, d2] => { results := [.lit (.bool true)], args := [d1, d2] }
  | _ => none }
def memApartRow : OpenClaim := { program := "ytcjkjlopbjijaaa", sum := "ae516df1262c9671b39c392cc34291075ff7473ae530aa37257ebaef39a3bbc9", func := "treillage/treillagelaw15.MemApart", spec := "memApart", apart := false }
def MemApartSaid : Prop := memApartRow.holds Try.pinned (OpenSpec.ofChange memApartSpec)

/-- ITS FALSE NEIGHBOUR: 'it returns false'. Refute it at one input. -/
def memApartWrong : ChangeSpec := { name := "memApart", fn := fun _ => fun
  | [d1, d2] => { results := [.lit (.bool false)], args := [d1, d2] }
  | _ => none }
def MemApartWrongFalsely : Prop := memApartRow.holds Try.pinned (OpenSpec.ofChange memApartWrong)

/-- 'treillagelaw16.QueueTells': WHATEVER THE INPUT: true; the input reads as it did. -/
def queueTellsSpec : ChangeSpec := { name := "queueTells", fn := fun _ => fun
  | [d1, d2, d3, d4, d5] => { results := [.lit (.bool true)], args := [d1, d2, d3, d4, d5] }
  | _ => none }
def queueTellsRow : OpenClaim := { program := "ytcjkjlopbjijaaa", sum := "ae516df1262c9671b39c392cc34291075ff7473ae530aa37257ebaef39a3bbc9", func := "treillage/treillagelaw16.QueueTells", spec := "queueTells", unfollowed := true, recurses := true, apart := false }
def QueueTellsSaid : Prop := queueTellsRow.holds Try.pinned (OpenSpec.ofChange queueTellsSpec)

/-- ITS FALSE NEIGHBOUR: 'it returns false'. Refute it at one input. -/
def queueTellsWrong : ChangeSpec := { name := "queueTells", fn := fun _ => fun
  | [d1, d2, d3, d4, d5] => { results := [.lit (.bool false)], args := [d1, d2, d3, d4, d5] }
  | _ => none }
def QueueTellsWrongFalsely : Prop := queueTellsRow.holds Try.pinned (OpenSpec.ofChange queueTellsWrong)

/-- 'treillagelaw16.QueuePlays': WHATEVER THE INPUT: true; the input reads as it did. -/
def queuePlaysSpec : ChangeSpec := { name := "queuePlays", fn := fun _ => fun
  | [d1, d2, d3] => { results := [.lit (.bool true)], args := [d1, d2, d3] }
  | _ => none }
def queuePlaysRow : OpenClaim := { program := "ytcjkjlopbjijaaa", sum := "ae516df1262c9671b39c392cc34291075ff7473ae530aa37257ebaef39a3bbc9", func := "treillage/treillagelaw16.QueuePlays", spec := "queuePlays", unfollowed := true, recurses := true, apart := false }
def QueuePlaysSaid : Prop := queuePlaysRow.holds Try.pinned (OpenSpec.ofChange queuePlaysSpec)

/-- ITS FALSE NEIGHBOUR: 'it returns false'. Refute it at one input. -/
def queuePlaysWrong : ChangeSpec := { name := "queuePlays", fn := fun _ => fun
  | [d1, d2, d3] => { results := [.lit (.bool false)], args := [d1, d2, d3] }
  | _ => none }
def QueuePlaysWrongFalsely : Prop := queuePlaysRow.holds Try.pinned (OpenSpec.ofChange queuePlaysWrong)

/-- 'treillagelaw16.QueueOrder': WHATEVER THE INPUT: true; the input reads as it did. -/
def queueOrderSpec : ChangeSpec := { name := "queueOrder", fn := fun _ => fun
  | [d1, d2, d3] => { results := [.lit (.bool true)], args := [d1, d2, d3] }
  | _ => none }
def queueOrderRow : OpenClaim := { program := "ytcjkjlopbjijaaa", sum := "ae516df1262c9671b39c392cc34291075ff7473ae530aa37257ebaef39a3bbc9", func := "treillage/treillagelaw16.QueueOrder", spec := "queueOrder", unfollowed := true, recurses := true, apart := false }
def QueueOrderSaid : Prop := queueOrderRow.holds Try.pinned (OpenSpec.ofChange queueOrderSpec)

/-- ITS FALSE NEIGHBOUR: 'it returns false'. Refute it at one input. -/
def queueOrderWrong : ChangeSpec := { name := "queueOrder", fn := fun _ => fun
  | [d1, d2, d3] => { results := [.lit (.bool false)], args := [d1, d2, d3] }
  | _ => none }
def QueueOrderWrongFalsely : Prop := queueOrderRow.holds Try.pinned (OpenSpec.ofChange queueOrderWrong)

/-- 'treillagelaw16.QueueAll': WHATEVER THE INPUT: true; the input reads as it did. -/
def queueAllSpec : ChangeSpec := { name := "queueAll", fn := fun _ => fun
  | [d1, d2, d3] => { results := [.lit (.bool true)], args := [d1, d2, d3] }
  | _ => none }
def queueAllRow : OpenClaim := { program := "ytcjkjlopbjijaaa", sum := "ae516df1262c9671b39c392cc34291075ff7473ae530aa37257ebaef39a3bbc9", func := "treillage/treillagelaw16.QueueAll", spec := "queueAll", unfollowed := true, recurses := true, apart := false }
def QueueAllSaid : Prop := queueAllRow.holds Try.pinned (OpenSpec.ofChange queueAllSpec)

/-- ITS FALSE NEIGHBOUR: 'it returns false'. Refute it at one input. -/
def queueAllWrong : ChangeSpec := { name := "queueAll", fn := fun _ => fun
  | [d1, d2, d3] => { results := [.lit (.bool false)], args := [d1, d2, d3] }
  | _ => none }
def QueueAllWrongFalsely : Prop := queueAllRow.holds Try.pinned (OpenSpec.ofChange queueAllWrong)

/-- 'treillagelaw16.QueueOne': WHATEVER THE INPUT: true; the input reads as it did. -/
def queueOneSpec : ChangeSpec := { name := "queueOne", fn := fun _ => fun
  | [d1, d2, d3] => { results := [.lit (.bool true)], args := [d1, d2, d3] }
  | _ => none }
def queueOneRow : OpenClaim := { program := "ytcjkjlopbjijaaa", sum := "ae516df1262c9671b39c392cc34291075ff7473ae530aa37257ebaef39a3bbc9", func := "treillage/treillagelaw16.QueueOne", spec := "queueOne", unfollowed := true, recurses := true, apart := false }
def QueueOneSaid : Prop := queueOneRow.holds Try.pinned (OpenSpec.ofChange queueOneSpec)

/-- ITS FALSE NEIGHBOUR: 'it returns false'. Refute it at one input. -/
def queueOneWrong : ChangeSpec := { name := "queueOne", fn := fun _ => fun
  | [d1, d2, d3] => { results := [.lit (.bool false)], args := [d1, d2, d3] }
  | _ => none }
def QueueOneWrongFalsely : Prop := queueOneRow.holds Try.pinned (OpenSpec.ofChange queueOneWrong)

/-- 'treillagelaw16.QueuePutters': WHATEVER THE INPUT: true; the input reads as it did. -/
def queuePuttersSpec : ChangeSpec := { name := "queuePutters", fn := fun _ => fun
  | [d1, d2, d3, d4] => { results := [.lit (.bool true)], args := [d1, d2, d3, d4] }
  | _ => none }
def queuePuttersRow : OpenClaim := { program := "ytcjkjlopbjijaaa", sum := "ae516df1262c9671b39c392cc34291075ff7473ae530aa37257ebaef39a3bbc9", func := "treillage/treillagelaw16.QueuePutters", spec := "queuePutters", unfollowed := true, recurses := true, apart := false }
def QueuePuttersSaid : Prop := queuePuttersRow.holds Try.pinned (OpenSpec.ofChange queuePuttersSpec)

/-- ITS FALSE NEIGHBOUR: 'it returns false'. Refute it at one input. -/
def queuePuttersWrong : ChangeSpec := { name := "queuePutters", fn := fun _ => fun
  | [d1, d2, d3, d4] => { results := [.lit (.bool false)], args := [d1, d2, d3, d4] }
  | _ => none }
def QueuePuttersWrongFalsely : Prop := queuePuttersRow.holds Try.pinned (OpenSpec.ofChange queuePuttersWrong)

/- THE SECOND FORM. 'bulk': how many values and letters a reading holds, each counted each time it is reached (what is shared counts as often as it is met; a slice's spare places count too). A statement '..UptoSaid' is the law's where the arguments, and the package variables that the reading takes, are together of bulk at most 1048576: NARROWER than '..Said'. Prove '..Said' where nothing that the law and all that it calls make is longer than what came in: it says more and counts as full. Else prove '..UptoSaid'. A law counts once. -/
mutual
def uptoBulk {H : Type} : DataW H → Nat
  | .lit (.string bytes) => bytes.length + 1
  | .lit _ => 1
  | .nil => 1
  | .ptr d => uptoBulk d + 1
  | .slice elems spare => uptoBulkAll elems + uptoBulkAll spare + 1
  | .agg parts => uptoBulkAll parts + 1
  | .iface _ d => uptoBulk d + 1
  | .map entries => uptoBulkEntries entries + 1
  | .held _ => 1
def uptoBulkAll {H : Type} : List (DataW H) → Nat
  | [] => 0
  | d :: r => uptoBulk d + uptoBulkAll r
def uptoBulkEntries {H : Type} : List (Lit × DataW H) → Nat
  | [] => 0
  | x :: r => uptoBulkEntry x + uptoBulkEntries r
def uptoBulkEntry {H : Type} : Lit × DataW H → Nat
  | (.string bytes, d) => bytes.length + uptoBulk d + 1
  | (_, d) => uptoBulk d + 1
 end
def uptoSmall : (H : Type) → List (DataW H) → Bool := fun _ ds => decide (uptoBulkAll ds ≤ 1048576)
def OpenSpec.upto (s : _root_.Go.ChangeSpec) : _root_.Go.OpenSpec := { _root_.Go.OpenSpec.ofChange s with cond := some uptoSmall }

/-- 'treillagelaw15.MemDoes', WHERE WHAT IT READS IS OF BULK AT MOST 1048576: true; the input reads as it did. -/
def memDoesUptoRow : OpenClaim := { program := "ytcjkjlopbjijaaa", sum := "ae516df1262c9671b39c392cc34291075ff7473ae530aa37257ebaef39a3bbc9", func := "treillage/treillagelaw15.MemDoes", spec := "memDoes", apart := false, narrowed := true }
def MemDoesUptoSaid : Prop := memDoesUptoRow.holds Try.pinned (OpenSpec.upto memDoesSpec)

/-- 'treillagelaw15.MemCas', WHERE WHAT IT READS IS OF BULK AT MOST 1048576: true; the input reads as it did. -/
def memCasUptoRow : OpenClaim := { program := "ytcjkjlopbjijaaa", sum := "ae516df1262c9671b39c392cc34291075ff7473ae530aa37257ebaef39a3bbc9", func := "treillage/treillagelaw15.MemCas", spec := "memCas", apart := false, narrowed := true }
def MemCasUptoSaid : Prop := memCasUptoRow.holds Try.pinned (OpenSpec.upto memCasSpec)

/-- 'treillagelaw15.MemTold', WHERE WHAT IT READS IS OF BULK AT MOST 1048576: true; the input reads as it did. -/
def memToldUptoRow : OpenClaim := { program := "ytcjkjlopbjijaaa", sum := "ae516df1262c9671b39c392cc34291075ff7473ae530aa37257ebaef39a3bbc9", func := "treillage/treillagelaw15.MemTold", spec := "memTold", apart := false, narrowed := true }
def MemToldUptoSaid : Prop := memToldUptoRow.holds Try.pinned (OpenSpec.upto memToldSpec)

/-- 'treillagelaw15.MemCells', WHERE WHAT IT READS IS OF BULK AT MOST 1048576: true; the input reads as it did. -/
def memCellsUptoRow : OpenClaim := { program := "ytcjkjlopbjijaaa", sum := "ae516df1262c9671b39c392cc34291075ff7473ae530aa37257ebaef39a3bbc9", func := "treillage/treillagelaw15.MemCells", spec := "memCells", apart := false, narrowed := true }
def MemCellsUptoSaid : Prop := memCellsUptoRow.holds Try.pinned (OpenSpec.upto memCellsSpec)

/-- 'treillagelaw15.MemApart', WHERE WHAT IT READS IS OF BULK AT MOST 1048576: true; the input reads as it did. -/
def memApartUptoRow : OpenClaim := { program := "ytcjkjlopbjijaaa", sum := "ae516df1262c9671b39c392cc34291075ff7473ae530aa37257ebaef39a3bbc9", func := "treillage/treillagelaw15.MemApart", spec := "memApart", apart := false, narrowed := true }
def MemApartUptoSaid : Prop := memApartUptoRow.holds Try.pinned (OpenSpec.upto memApartSpec)

/-- 'treillagelaw16.QueueTells', WHERE WHAT IT READS IS OF BULK AT MOST 1048576: true; the input reads as it did. -/
def queueTellsUptoRow : OpenClaim := { program := "ytcjkjlopbjijaaa", sum := "ae516df1262c9671b39c392cc34291075ff7473ae530aa37257ebaef39a3bbc9", func := "treillage/treillagelaw16.QueueTells", spec := "queueTells", unfollowed := true, recurses := true, apart := false, narrowed := true }
def QueueTellsUptoSaid : Prop := queueTellsUptoRow.holds Try.pinned (OpenSpec.upto queueTellsSpec)

/-- 'treillagelaw16.QueuePlays', WHERE WHAT IT READS IS OF BULK AT MOST 1048576: true; the input reads as it did. -/
def queuePlaysUptoRow : OpenClaim := { program := "ytcjkjlopbjijaaa", sum := "ae516df1262c9671b39c392cc34291075ff7473ae530aa37257ebaef39a3bbc9", func := "treillage/treillagelaw16.QueuePlays", spec := "queuePlays", unfollowed := true, recurses := true, apart := false, narrowed := true }
def QueuePlaysUptoSaid : Prop := queuePlaysUptoRow.holds Try.pinned (OpenSpec.upto queuePlaysSpec)

/-- 'treillagelaw16.QueueOrder', WHERE WHAT IT READS IS OF BULK AT MOST 1048576: true; the input reads as it did. -/
def queueOrderUptoRow : OpenClaim := { program := "ytcjkjlopbjijaaa", sum := "ae516df1262c9671b39c392cc34291075ff7473ae530aa37257ebaef39a3bbc9", func := "treillage/treillagelaw16.QueueOrder", spec := "queueOrder", unfollowed := true, recurses := true, apart := false, narrowed := true }
def QueueOrderUptoSaid : Prop := queueOrderUptoRow.holds Try.pinned (OpenSpec.upto queueOrderSpec)

/-- 'treillagelaw16.QueueAll', WHERE WHAT IT READS IS OF BULK AT MOST 1048576: true; the input reads as it did. -/
def queueAllUptoRow : OpenClaim := { program := "ytcjkjlopbjijaaa", sum := "ae516df1262c9671b39c392cc34291075ff7473ae530aa37257ebaef39a3bbc9", func := "treillage/treillagelaw16.QueueAll", spec := "queueAll", unfollowed := true, recurses := true, apart := false, narrowed := true }
def QueueAllUptoSaid : Prop := queueAllUptoRow.holds Try.pinned (OpenSpec.upto queueAllSpec)

/-- 'treillagelaw16.QueueOne', WHERE WHAT IT READS IS OF BULK AT MOST 1048576: true; the input reads as it did. -/
def queueOneUptoRow : OpenClaim := { program := "ytcjkjlopbjijaaa", sum := "ae516df1262c9671b39c392cc34291075ff7473ae530aa37257ebaef39a3bbc9", func := "treillage/treillagelaw16.QueueOne", spec := "queueOne", unfollowed := true, recurses := true, apart := false, narrowed := true }
def QueueOneUptoSaid : Prop := queueOneUptoRow.holds Try.pinned (OpenSpec.upto queueOneSpec)

/-- 'treillagelaw16.QueuePutters', WHERE WHAT IT READS IS OF BULK AT MOST 1048576: true; the input reads as it did. -/
def queuePuttersUptoRow : OpenClaim := { program := "ytcjkjlopbjijaaa", sum := "ae516df1262c9671b39c392cc34291075ff7473ae530aa37257ebaef39a3bbc9", func := "treillage/treillagelaw16.QueuePutters", spec := "queuePutters", unfollowed := true, recurses := true, apart := false, narrowed := true }
def QueuePuttersUptoSaid : Prop := queuePuttersUptoRow.holds Try.pinned (OpenSpec.upto queuePuttersSpec)

end Rows
end Go.Proofs.Ytcjkjlopbjijaaa
