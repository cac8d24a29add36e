/-
  No cell of these rows narrows 'for every input' (looked for: loops, veiled, ifaces, maps, wideKeys, modest, calm, conditions, laid).
  DERIVED. THE GIVEN ROWS OF THIS SEAT. 4 by the template 'for every input the law returns true; each argument reads behind the call as it read before'; 0 by the template 'total and deterministic' (their statements: YtieglelnpiogcaaTotals.lean).
  GIVEN WITH THE SEED: the statements are not yours to turn. If you find one false, say at which input.
  Laid BY PROGRAM, IN A SANDBOX (cutbox-rows.mjs): the forced cells as the released guide's own fill.sh prints them over the translation a99921998e5ca88d… (all of the seat's roots in one cut). By AI agents, Wed Nov 11 2026. No macro, syntax, notation, axiom, sorry.
-/
import Derived.Test.YtieglelnpiogcaaChecked
import GoSem.Claim
import GoSem.ClaimJoined
import GoSem.ClaimMapViews
import Derived.JoinedTies
import Derived.KernelRfl
namespace Go.Proofs.Ytieglelnpiogcaa
/- THE CELL 'sum', in the pinned program and in every row, IS THE sha256 OF THE DUMP (.gsa) THAT YtieglelnpiogcaaProg.lean LOADS. Nothing in Lean hashes anything: it is a label: what it is worth is what the hold of that sum in a sandbox is worth. -/
noncomputable def Try.pinned : Pinned := { name := "ytieglelnpiogcaa", sum := "a99921998e5ca88d90a12f85c87a09a5d08bdb97927dc1f8f298ea15d04b3c3a", checked := Try.checked }
namespace Rows
def none {H : Type} : Left H := { results := [], args := [] }

/-- 'treillagelaw17.ClientItems': WHATEVER THE INPUT: true; the input reads as it did. -/
def clientItemsSpec : ChangeSpec := { name := "clientItems", fn := fun _ => fun
  | [d1, d2, d3] => { results := [.lit (.bool true)], args := [d1, d2, d3] }
  | _ => none }
def clientItemsRow : OpenClaim := { program := "ytieglelnpiogcaa", sum := "a99921998e5ca88d90a12f85c87a09a5d08bdb97927dc1f8f298ea15d04b3c3a", func := "treillage/treillagelaw17.ClientItems", spec := "clientItems", unfollowed := true, recurses := true, apart := false }
def ClientItemsSaid : Prop := clientItemsRow.holds Try.pinned (OpenSpec.ofChange clientItemsSpec)

/-- ITS FALSE NEIGHBOUR: 'it returns false'. Refute it at one input. -/
def clientItemsWrong : ChangeSpec := { name := "clientItems", fn := fun _ => fun
  | [d1, d2, d3] => { results := [.lit (.bool false)], args := [d1, d2, d3] }
  | _ => none }
def ClientItemsWrongFalsely : Prop := clientItemsRow.holds Try.pinned (OpenSpec.ofChange clientItemsWrong)

/-- 'treillagelaw17.ClientEnds': WHATEVER THE INPUT: true; the input reads as it did. -/
def clientEndsSpec : ChangeSpec := { name := "clientEnds", fn := fun _ => fun
  | [d1, d2, d3] => { results := [.lit (.bool true)], args := [d1, d2, d3] }
  | _ => none }
def clientEndsRow : OpenClaim := { program := "ytieglelnpiogcaa", sum := "a99921998e5ca88d90a12f85c87a09a5d08bdb97927dc1f8f298ea15d04b3c3a", func := "treillage/treillagelaw17.ClientEnds", spec := "clientEnds", unfollowed := true, recurses := true, apart := false }
def ClientEndsSaid : Prop := clientEndsRow.holds Try.pinned (OpenSpec.ofChange clientEndsSpec)

/-- ITS FALSE NEIGHBOUR: 'it returns false'. Refute it at one input. -/
def clientEndsWrong : ChangeSpec := { name := "clientEnds", fn := fun _ => fun
  | [d1, d2, d3] => { results := [.lit (.bool false)], args := [d1, d2, d3] }
  | _ => none }
def ClientEndsWrongFalsely : Prop := clientEndsRow.holds Try.pinned (OpenSpec.ofChange clientEndsWrong)

/-- 'treillagelaw17.ClientGoes': WHATEVER THE INPUT: true; the input reads as it did. -/
def clientGoesSpec : ChangeSpec := { name := "clientGoes", fn := fun _ => fun
  | [d1, d2, d3, d4, d5] => { results := [.lit (.bool true)], args := [d1, d2, d3, d4, d5] }
  | _ => none }
def clientGoesRow : OpenClaim := { program := "ytieglelnpiogcaa", sum := "a99921998e5ca88d90a12f85c87a09a5d08bdb97927dc1f8f298ea15d04b3c3a", func := "treillage/treillagelaw17.ClientGoes", spec := "clientGoes", unfollowed := true, recurses := true, apart := false }
def ClientGoesSaid : Prop := clientGoesRow.holds Try.pinned (OpenSpec.ofChange clientGoesSpec)

/-- ITS FALSE NEIGHBOUR: 'it returns false'. Refute it at one input. -/
def clientGoesWrong : ChangeSpec := { name := "clientGoes", fn := fun _ => fun
  | [d1, d2, d3, d4, d5] => { results := [.lit (.bool false)], args := [d1, d2, d3, d4, d5] }
  | _ => none }
def ClientGoesWrongFalsely : Prop := clientGoesRow.holds Try.pinned (OpenSpec.ofChange clientGoesWrong)

/-- 'treillagelaw17.ClientWaits': WHATEVER THE INPUT: true; the input reads as it did. -/
def clientWaitsSpec : ChangeSpec := { name := "clientWaits", fn := fun _ => fun
  | [d1, d2, d3, d4] => { results := [.lit (.bool true)], args := [d1, d2, d3, d4] }
  | _ => none }
def clientWaitsRow : OpenClaim := { program := "ytieglelnpiogcaa", sum := "a99921998e5ca88d90a12f85c87a09a5d08bdb97927dc1f8f298ea15d04b3c3a", func := "treillage/treillagelaw17.ClientWaits", spec := "clientWaits", unfollowed := true, recurses := true, apart := false }
def ClientWaitsSaid : Prop := clientWaitsRow.holds Try.pinned (OpenSpec.ofChange clientWaitsSpec)

/-- ITS FALSE NEIGHBOUR: 'it returns false'. Refute it at one input. -/
def clientWaitsWrong : ChangeSpec := { name := "clientWaits", fn := fun _ => fun
  | [d1, d2, d3, d4] => { results := [.lit (.bool false)], args := [d1, d2, d3, d4] }
  | _ => none }
def ClientWaitsWrongFalsely : Prop := clientWaitsRow.holds Try.pinned (OpenSpec.ofChange clientWaitsWrong)

/- THE SECOND FORM. 'bulk': how many values and letters a reading holds, each counted each time it is reached (what is shared counts as often as it is met; a slice's spare places count too). A statement '..UptoSaid' is the law's where the arguments, and the package variables that the reading takes, are together of bulk at most 1048576: NARROWER than '..Said'. Prove '..Said' where nothing that the law and all that it calls make is longer than what came in: it says more and counts as full. Else prove '..UptoSaid'. A law counts once. -/
mutual
def uptoBulk {H : Type} : DataW H → Nat
  | .lit (.string bytes) => bytes.length + 1
  | .lit _ => 1
  | .nil => 1
  | .ptr d => uptoBulk d + 1
  | .slice elems spare => uptoBulkAll elems + uptoBulkAll spare + 1
  | .agg parts => uptoBulkAll parts + 1
  | .iface _ d => uptoBulk d + 1
  | .map entries => uptoBulkEntries entries + 1
  | .held _ => 1
def uptoBulkAll {H : Type} : List (DataW H) → Nat
  | [] => 0
  | d :: r => uptoBulk d + uptoBulkAll r
def uptoBulkEntries {H : Type} : List (Lit × DataW H) → Nat
  | [] => 0
  | x :: r => uptoBulkEntry x + uptoBulkEntries r
def uptoBulkEntry {H : Type} : Lit × DataW H → Nat
  | (.string bytes, d) => bytes.length + uptoBulk d + 1
  | (_, d) => uptoBulk d + 1
 end
def uptoSmall : (H : Type) → List (DataW H) → Bool := fun _ ds => decide (uptoBulkAll ds ≤ 1048576)
def OpenSpec.upto (s : _root_.Go.ChangeSpec) : _root_.Go.OpenSpec := { _root_.Go.OpenSpec.ofChange s with cond := some uptoSmall }

/-- 'treillagelaw17.ClientItems', WHERE WHAT IT READS IS OF BULK AT MOST 1048576: true; the input reads as it did. -/
def clientItemsUptoRow : OpenClaim := { program := "ytieglelnpiogcaa", sum := "a99921998e5ca88d90a12f85c87a09a5d08bdb97927dc1f8f298ea15d04b3c3a", func := "treillage/treillagelaw17.ClientItems", spec := "clientItems", unfollowed := true, recurses := true, apart := false, narrowed := true }
def ClientItemsUptoSaid : Prop := clientItemsUptoRow.holds Try.pinned (OpenSpec.upto clientItemsSpec)

/-- 'treillagelaw17.ClientEnds', WHERE WHAT IT READS IS OF BULK AT MOST 1048576: true; the input reads as it did. -/
def clientEndsUptoRow : OpenClaim := { program := "ytieglelnpiogcaa", sum := "a99921998e5ca88d90a12f85c87a09a5d08bdb97927dc1f8f298ea15d04b3c3a", func := "treillage/treillagelaw17.ClientEnds", spec := "clientEnds", unfollowed := true, recurses := true, apart := false, narrowed := true }
def ClientEndsUptoSaid : Prop := clientEndsUptoRow.holds Try.pinned (OpenSpec.upto clientEndsSpec)

/-- 'treillagelaw17.ClientGoes', WHERE WHAT IT READS IS OF BULK AT MOST 1048576: true; the input reads as it did. -/
def clientGoesUptoRow : OpenClaim := { program := "ytieglelnpiogcaa", sum := "a99921998e5ca88d90a12f85c87a09a5d08bdb97927dc1f8f298ea15d04b3c3a", func := "treillage/treillagelaw17.ClientGoes", spec := "clientGoes", unfollowed := true, recurses := true, apart := false, narrowed := true }
def ClientGoesUptoSaid : Prop := clientGoesUptoRow.holds Try.pinned (OpenSpec.upto clientGoesSpec)

/-- 'treillagelaw17.ClientWaits', WHERE WHAT IT READS IS OF BULK AT MOST 1048576: true; the input reads as it did. -/
def clientWaitsUptoRow : OpenClaim := { program := "ytieglelnpiogcaa", sum := "a99921998e5ca88d90a12f85c87a09a5d08bdb97927dc1f8f298ea15d04b3c3a", func := "treillage/treillagelaw17.ClientWaits", spec := "clientWaits", unfollowed := true, recurses := true, apart := false, narrowed := true }
def ClientWaitsUptoSaid : Prop := clientWaitsUptoRow.holds Try.pinned (OpenSpec.upto clientWaitsSpec)

end Rows
end Go.Proofs.Ytieglelnpiogcaa
