/-
  No cell of these rows narrows 'for every input' (looked for: loops, veiled, ifaces, maps, wideKeys, modest, calm, conditions, laid).
  DERIVED. THE GIVEN ROWS OF THIS SEAT. 5 by the template 'for every input the law returns true; each argument reads behind the call as it read before'; 0 by the template 'total and deterministic' (their statements: YtjnfllaonkeefaaTotals.lean).
  GIVEN WITH THE SEED: the statements are not yours to turn. If you find one false, say at which input.
  Laid BY PROGRAM, IN A SANDBOX (cutbox-rows.mjs): the forced cells as the released guide's own fill.sh prints them over the translation d630b5341b7b51c4… (all of the seat's roots in one cut). By AI agents, Wed Nov 11 2026. No macro, syntax, notation, axiom, sorry.
-/
import Derived.Test.YtjnfllaonkeefaaChecked
import GoSem.Claim
import GoSem.ClaimJoined
import GoSem.ClaimMapViews
import Derived.JoinedTies
import Derived.KernelRfl
namespace Go.Proofs.Ytjnfllaonkeefaa
/- THE CELL 'sum', in the pinned program and in every row, IS THE sha256 OF THE DUMP (.gsa) THAT YtjnfllaonkeefaaProg.lean LOADS. Nothing in Lean hashes anything: it is a label: what it is worth is what the hold of that sum in a sandbox is worth. -/
noncomputable def Try.pinned : Pinned := { name := "ytjnfllaonkeefaa", sum := "d630b5341b7b51c4f2ffb2237ffa84772f4732b01f9642976ef88e224be7c431", checked := Try.checked }
namespace Rows
def none {H : Type} : Left H := { results := [], args := [] }

/-- 'treillagelaw14.EpochNone': WHATEVER THE INPUT: true; the input reads as it did. -/
def epochNoneSpec : ChangeSpec := { name := "epochNone", fn := fun _ => fun
  | [d1, d2] => { results := [.lit (.bool true)], args := [d1, d2] }
  | _ => none }
def epochNoneRow : OpenClaim := { program := "ytjnfllaonkeefaa", sum := "d630b5341b7b51c4f2ffb2237ffa84772f4732b01f9642976ef88e224be7c431", func := "treillage/treillagelaw14.EpochNone", spec := "epochNone", unfollowed := true, recurses := true, apart := false }
def EpochNoneSaid : Prop := epochNoneRow.holds Try.pinned (OpenSpec.ofChange epochNoneSpec)

/-- ITS FALSE NEIGHBOUR: 'it returns false'. Refute it at one input. -/
def epochNoneWrong : ChangeSpec := { name := "epochNone", fn := fun _ => fun
  | [d1, d2] => { results := [.lit (.bool false)], args := [d1, d2] }
  | _ => none }
def EpochNoneWrongFalsely : Prop := epochNoneRow.holds Try.pinned (OpenSpec.ofChange epochNoneWrong)

/-- 'treillagelaw14.EpochActs': WHATEVER THE INPUT: true; the input reads as it did. -/
def epochActsSpec : ChangeSpec := { name := "epochActs", fn := fun _ => fun
  | [d1, d2] => { results := [.lit (.bool true)], args := [d1, d2] }
  | _ => none }
def epochActsRow : OpenClaim := { program := "ytjnfllaonkeefaa", sum := "d630b5341b7b51c4f2ffb2237ffa84772f4732b01f9642976ef88e224be7c431", func := "treillage/treillagelaw14.EpochActs", spec := "epochActs", unfollowed := true, recurses := true, apart := false }
def EpochActsSaid : Prop := epochActsRow.holds Try.pinned (OpenSpec.ofChange epochActsSpec)

/-- ITS FALSE NEIGHBOUR: 'it returns false'. Refute it at one input. -/
def epochActsWrong : ChangeSpec := { name := "epochActs", fn := fun _ => fun
  | [d1, d2] => { results := [.lit (.bool false)], args := [d1, d2] }
  | _ => none }
def EpochActsWrongFalsely : Prop := epochActsRow.holds Try.pinned (OpenSpec.ofChange epochActsWrong)

/-- 'treillagelaw14.EpochHolds': WHATEVER THE INPUT: true; the input reads as it did. -/
def epochHoldsSpec : ChangeSpec := { name := "epochHolds", fn := fun _ => fun
  | [d] => { results := [.lit (.bool true)], args := [d] }
  | _ => none }
def epochHoldsRow : OpenClaim := { program := "ytjnfllaonkeefaa", sum := "d630b5341b7b51c4f2ffb2237ffa84772f4732b01f9642976ef88e224be7c431", func := "treillage/treillagelaw14.EpochHolds", spec := "epochHolds", unfollowed := true, recurses := true, apart := false }
def EpochHoldsSaid : Prop := epochHoldsRow.holds Try.pinned (OpenSpec.ofChange epochHoldsSpec)

/-- ITS FALSE NEIGHBOUR: 'it returns false'. Refute it at one input. -/
def epochHoldsWrong : ChangeSpec := { name := "epochHolds", fn := fun _ => fun
  | [d] => { results := [.lit (.bool false)], args := [d] }
  | _ => none }
def EpochHoldsWrongFalsely : Prop := epochHoldsRow.holds Try.pinned (OpenSpec.ofChange epochHoldsWrong)

/-- 'treillagelaw14.EpochAll': WHATEVER THE INPUT: true; the input reads as it did. -/
def epochAllSpec : ChangeSpec := { name := "epochAll", fn := fun _ => fun
  | [d] => { results := [.lit (.bool true)], args := [d] }
  | _ => none }
def epochAllRow : OpenClaim := { program := "ytjnfllaonkeefaa", sum := "d630b5341b7b51c4f2ffb2237ffa84772f4732b01f9642976ef88e224be7c431", func := "treillage/treillagelaw14.EpochAll", spec := "epochAll", unfollowed := true, recurses := true, apart := false }
def EpochAllSaid : Prop := epochAllRow.holds Try.pinned (OpenSpec.ofChange epochAllSpec)

/-- ITS FALSE NEIGHBOUR: 'it returns false'. Refute it at one input. -/
def epochAllWrong : ChangeSpec := { name := "epochAll", fn := fun _ => fun
  | [d] => { results := [.lit (.bool false)], args := [d] }
  | _ => none }
def EpochAllWrongFalsely : Prop := epochAllRow.holds Try.pinned (OpenSpec.ofChange epochAllWrong)

/-- 'treillagelaw14.EpochPins': WHATEVER THE INPUT: true; the input reads as it did. -/
def epochPinsSpec : ChangeSpec := { name := "epochPins", fn := fun _ => fun
  | [d1, d2, d3] => { results := [.lit (.bool true)], args := [d1, d2, d3] }
  | _ => none }
def epochPinsRow : OpenClaim := { program := "ytjnfllaonkeefaa", sum := "d630b5341b7b51c4f2ffb2237ffa84772f4732b01f9642976ef88e224be7c431", func := "treillage/treillagelaw14.EpochPins", spec := "epochPins", unfollowed := true, recurses := true, apart := false }
def EpochPinsSaid : Prop := epochPinsRow.holds Try.pinned (OpenSpec.ofChange epochPinsSpec)

/-- ITS FALSE NEIGHBOUR: 'it returns false'. Refute it at one input. -/
def epochPinsWrong : ChangeSpec := { name := "epochPins", fn := fun _ => fun
  | [d1, d2, d3] => { results := [.lit (.bool false)], args := [d1, d2, d3] }
  | _ => none }
def EpochPinsWrongFalsely : Prop := epochPinsRow.holds Try.pinned (OpenSpec.ofChange epochPinsWrong)

/- THE SECOND FORM. 'bulk': how many values and letters a reading holds, each counted each time it is reached (what is shared counts as often as it is met; a slice's spare places count too). A statement '..UptoSaid' is the law's where the arguments, and the package variables that the reading takes, are together of bulk at most 1048576: NARROWER than '..Said'. Prove '..Said' where nothing that the law and all that it calls make is longer than what came in: it says more and counts as full. Else prove '..UptoSaid'. A law counts once. -/
mutual
def uptoBulk {H : Type} : DataW H → Nat
  | .lit (.string bytes) => bytes.length + 1
  | .lit _ => 1
  | .nil => 1
  | .ptr d => uptoBulk d + 1
  | .slice elems spare => uptoBulkAll elems + uptoBulkAll spare + 1
  | .agg parts => uptoBulkAll parts + 1
  | .iface _ d => uptoBulk d + 1
  | .map entries => uptoBulkEntries entries + 1
  | .held _ => 1
def uptoBulkAll {H : Type} : List (DataW H) → Nat
  | [] => 0
  | d :: r => uptoBulk d + uptoBulkAll r
def uptoBulkEntries {H : Type} : List (Lit × DataW H) → Nat
  | [] => 0
  | x :: r => uptoBulkEntry x + uptoBulkEntries r
def uptoBulkEntry {H : Type} : Lit × DataW H → Nat
  | (.string bytes, d) => bytes.length + uptoBulk d + 1
  | (_, d) => uptoBulk d + 1
 end
def uptoSmall : (H : Type) → List (DataW H) → Bool := fun _ ds => decide (uptoBulkAll ds ≤ 1048576)
def OpenSpec.upto (s : _root_.Go.ChangeSpec) : _root_.Go.OpenSpec := { _root_.Go.OpenSpec.ofChange s with cond := some uptoSmall }

/-- 'treillagelaw14.EpochNone', WHERE WHAT IT READS IS OF BULK AT MOST 1048576: true; the input reads as it did. -/
def epochNoneUptoRow : OpenClaim := { program := "ytjnfllaonkeefaa", sum := "d630b5341b7b51c4f2ffb2237ffa84772f4732b01f9642976ef88e224be7c431", func := "treillage/treillagelaw14.EpochNone", spec := "epochNone", unfollowed := true, recurses := true, apart := false, narrowed := true }
def EpochNoneUptoSaid : Prop := epochNoneUptoRow.holds Try.pinned (OpenSpec.upto epochNoneSpec)

/-- 'treillagelaw14.EpochActs', WHERE WHAT IT READS IS OF BULK AT MOST 1048576: true; the input reads as it did. -/
def epochActsUptoRow : OpenClaim := { program := "ytjnfllaonkeefaa", sum := "d630b5341b7b51c4f2ffb2237ffa84772f4732b01f9642976ef88e224be7c431", func := "treillage/treillagelaw14.EpochActs", spec := "epochActs", unfollowed := true, recurses := true, apart := false, narrowed := true }
def EpochActsUptoSaid : Prop := epochActsUptoRow.holds Try.pinned (OpenSpec.upto epochActsSpec)

/-- 'treillagelaw14.EpochHolds', WHERE WHAT IT READS IS OF BULK AT MOST 1048576: true; the input reads as it did. -/
def epochHoldsUptoRow : OpenClaim := { program := "ytjnfllaonkeefaa", sum := "d630b5341b7b51c4f2ffb2237ffa84772f4732b01f9642976ef88e224be7c431", func := "treillage/treillagelaw14.EpochHolds", spec := "epochHolds", unfollowed := true, recurses := true, apart := false, narrowed := true }
def EpochHoldsUptoSaid : Prop := epochHoldsUptoRow.holds Try.pinned (OpenSpec.upto epochHoldsSpec)

/-- 'treillagelaw14.EpochAll', WHERE WHAT IT READS IS OF BULK AT MOST 1048576: true; the input reads as it did. -/
def epochAllUptoRow : OpenClaim := { program := "ytjnfllaonkeefaa", sum := "d630b5341b7b51c4f2ffb2237ffa84772f4732b01f9642976ef88e224be7c431", func := "treillage/treillagelaw14.EpochAll", spec := "epochAll", unfollowed := true, recurses := true, apart := false, narrowed := true }
def EpochAllUptoSaid : Prop := epochAllUptoRow.holds Try.pinned (OpenSpec.upto epochAllSpec)

/-- 'treillagelaw14.EpochPins', WHERE WHAT IT READS IS OF BULK AT MOST 1048576: true; the input reads as it did. -/
def epochPinsUptoRow : OpenClaim := { program := "ytjnfllaonkeefaa", sum := "d630b5341b7b51c4f2ffb2237ffa84772f4732b01f9642976ef88e224be7c431", func := "treillage/treillagelaw14.EpochPins", spec := "epochPins", unfollowed := true, recurses := true, apart := false, narrowed := true }
def EpochPinsUptoSaid : Prop := epochPinsUptoRow.holds Try.pinned (OpenSpec.upto epochPinsSpec)

end Rows
end Go.Proofs.Ytjnfllaonkeefaa
