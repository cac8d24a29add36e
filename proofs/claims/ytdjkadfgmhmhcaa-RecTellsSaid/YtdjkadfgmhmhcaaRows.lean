/-
  No cell of these rows narrows 'for every input' (looked for: loops, veiled, ifaces, maps, wideKeys, modest, calm, conditions, laid).
  DERIVED. THE GIVEN ROWS OF THIS SEAT. 6 by the template 'for every input the law returns true; each argument reads behind the call as it read before'; 0 by the template 'total and deterministic' (their statements: YtdjkadfgmhmhcaaTotals.lean).
  GIVEN WITH THE SEED: the statements are not yours to turn. If you find one false, say at which input.
  Laid BY PROGRAM, IN A SANDBOX (cutbox-rows.mjs): the forced cells as the released guide's own fill.sh prints them over the translation b74fa8176c40776a… (all of the seat's roots in one cut). By AI agents, Wed Nov 11 2026. No macro, syntax, notation, axiom, sorry.
-/
import Derived.Test.YtdjkadfgmhmhcaaChecked
import GoSem.Claim
import GoSem.ClaimJoined
import GoSem.ClaimMapViews
import Derived.JoinedTies
import Derived.KernelRfl
namespace Go.Proofs.Ytdjkadfgmhmhcaa
/- THE CELL 'sum', in the pinned program and in every row, IS THE sha256 OF THE DUMP (.gsa) THAT YtdjkadfgmhmhcaaProg.lean LOADS. Nothing in Lean hashes anything: it is a label: what it is worth is what the hold of that sum in a sandbox is worth. -/
noncomputable def Try.pinned : Pinned := { name := "ytdjkadfgmhmhcaa", sum := "b74fa8176c40776aded9e67285d261cac250d26db8346462500d62605a51e4ca", checked := Try.checked }
namespace Rows
def none {H : Type} : Left H := { results := [], args := [] }

/-- 'treillagelaw11.RecTells': WHATEVER THE INPUT: true; the input reads as it did. -/
def recTellsSpec : ChangeSpec := { name := "recTells", fn := fun _ => fun
  | [d1, d2] => { results := [.lit (.bool true)], args := [d1, d2] }
  | _ => none }
def recTellsRow : OpenClaim := { program := "ytdjkadfgmhmhcaa", sum := "b74fa8176c40776aded9e67285d261cac250d26db8346462500d62605a51e4ca", func := "treillage/treillagelaw11.RecTells", spec := "recTells", unfollowed := true, recurses := true, apart := false }
def RecTellsSaid : Prop := recTellsRow.holds Try.pinned (OpenSpec.ofChange recTellsSpec)

/-- ITS FALSE NEIGHBOUR: 'it returns false'. Refute it at one input. -/
def recTellsWrong : ChangeSpec := { name := "recTells", fn := fun _ => fun
  | [d1, d2] => { results := [.lit (.bool false)], args := [d1, d2] }
  | _ => none }
def RecTellsWrongFalsely : Prop := recTellsRow.holds Try.pinned (OpenSpec.ofChange recTellsWrong)

/-- 'treillagelaw11.RecBack': WHATEVER THE INPUT: true; the input reads as it did. -/
def recBackSpec : ChangeSpec := { name := "recBack", fn := fun _ => fun
  | [d1, d2] => { results := [.lit (.bool true)], args := [d1, d2] }
  | _ => none }
def recBackRow : OpenClaim := { program := "ytdjkadfgmhmhcaa", sum := "b74fa8176c40776aded9e67285d261cac250d26db8346462500d62605a51e4ca", func := "treillage/treillagelaw11.RecBack", spec := "recBack", unfollowed := true, recurses := true, apart := false }
def RecBackSaid : Prop := recBackRow.holds Try.pinned (OpenSpec.ofChange recBackSpec)

/-- ITS FALSE NEIGHBOUR: 'it returns false'. Refute it at one input. -/
def recBackWrong : ChangeSpec := { name := "recBack", fn := fun _ => fun
  | [d1, d2] => { results := [.lit (.bool false)], args := [d1, d2] }
  | _ => none }
def RecBackWrongFalsely : Prop := recBackRow.holds Try.pinned (OpenSpec.ofChange recBackWrong)

/-- 'treillagelaw11.RecWords': WHATEVER THE INPUT: true; the input reads as it did. -/
def recWordsSpec : ChangeSpec := { name := "recWords", fn := fun _ => fun
  | [d1, d2, d3] => { results := [.lit (.bool true)], args := [d1, d2, d3] }
  | _ => none }
def recWordsRow : OpenClaim := { program := "ytdjkadfgmhmhcaa", sum := "b74fa8176c40776aded9e67285d261cac250d26db8346462500d62605a51e4ca", func := "treillage/treillagelaw11.RecWords", spec := "recWords", unfollowed := true, recurses := true, apart := false }
def RecWordsSaid : Prop := recWordsRow.holds Try.pinned (OpenSpec.ofChange recWordsSpec)

/-- ITS FALSE NEIGHBOUR: 'it returns false'. Refute it at one input. -/
def recWordsWrong : ChangeSpec := { name := "recWords", fn := fun _ => fun
  | [d1, d2, d3] => { results := [.lit (.bool false)], args := [d1, d2, d3] }
  | _ => none }
def RecWordsWrongFalsely : Prop := recWordsRow.holds Try.pinned (OpenSpec.ofChange recWordsWrong)

/-- 'treillagelaw11.RecLong': WHATEVER THE INPUT: true; the input reads as it did. -/
def recLongSpec : ChangeSpec := { name := "recLong", fn := fun _ => fun
  | [d] => { results := [.lit (.bool true)], args := [d] }
  | _ => none }
def recLongRow : OpenClaim := { program := "ytdjkadfgmhmhcaa", sum := "b74fa8176c40776aded9e67285d261cac250d26db8346462500d62605a51e4ca", func := "treillage/treillagelaw11.RecLong", spec := "recLong", unfollowed := true, recurses := true, apart := false }
def RecLongSaid : Prop := recLongRow.holds Try.pinned (OpenSpec.ofChange recLongSpec)

/-- ITS FALSE NEIGHBOUR: 'it returns false'. Refute it at one input. -/
def recLongWrong : ChangeSpec := { name := "recLong", fn := fun _ => fun
  | [d] => { results := [.lit (.bool false)], args := [d] }
  | _ => none }
def RecLongWrongFalsely : Prop := recLongRow.holds Try.pinned (OpenSpec.ofChange recLongWrong)

/-- 'treillagelaw11.RecApart': WHATEVER THE INPUT: true; the input reads as it did. -/
def recApartSpec : ChangeSpec := { name := "recApart", fn := fun _ => fun
  | [d1, d2] => { results := [.lit (.bool true)], args := [d1, d2] }
  | _ => none }
def recApartRow : OpenClaim := { program := "ytdjkadfgmhmhcaa", sum := "b74fa8176c40776aded9e67285d261cac250d26db8346462500d62605a51e4ca", func := "treillage/treillagelaw11.RecApart", spec := "recApart", unfollowed := true, recurses := true, apart := false }
def RecApartSaid : Prop := recApartRow.holds Try.pinned (OpenSpec.ofChange recApartSpec)

/-- ITS FALSE NEIGHBOUR: 'it returns false'. Refute it at one input. -/
def recApartWrong : ChangeSpec := { name := "recApart", fn := fun _ => fun
  | [d1, d2] => { results := [.lit (.bool false)], args := [d1, d2] }
  | _ => none }
def RecApartWrongFalsely : Prop := recApartRow.holds Try.pinned (OpenSpec.ofChange recApartWrong)

/-- 'treillagelaw11.RecTexts': WHATEVER THE INPUT: true; the input reads as it did. -/
def recTextsSpec : ChangeSpec := { name := "recTexts", fn := fun _ => fun
  | [d1, d2] => { results := [.lit (.bool true)], args := [d1, d2] }
  | _ => none }
def recTextsRow : OpenClaim := { program := "ytdjkadfgmhmhcaa", sum := "b74fa8176c40776aded9e67285d261cac250d26db8346462500d62605a51e4ca", func := "treillage/treillagelaw11.RecTexts", spec := "recTexts", unfollowed := true, recurses := true, apart := false }
def RecTextsSaid : Prop := recTextsRow.holds Try.pinned (OpenSpec.ofChange recTextsSpec)

/-- ITS FALSE NEIGHBOUR: 'it returns false'. Refute it at one input. -/
def recTextsWrong : ChangeSpec := { name := "recTexts", fn := fun _ => fun
  | [d1, d2] => { results := [.lit (.bool false)], args := [d1, d2] }
  | _ => none }
def RecTextsWrongFalsely : Prop := recTextsRow.holds Try.pinned (OpenSpec.ofChange recTextsWrong)

/- THE SECOND FORM. 'bulk': how many values and letters a reading holds, each counted each time it is reached (what is shared counts as often as it is met; a slice's spare places count too). A statement '..UptoSaid' is the law's where the arguments, and the package variables that the reading takes, are together of bulk at most 1048576: NARROWER than '..Said'. Prove '..Said' where nothing that the law and all that it calls make is longer than what came in: it says more and counts as full. Else prove '..UptoSaid'. A law counts once. -/
mutual
def uptoBulk {H : Type} : DataW H → Nat
  | .lit (.string bytes) => bytes.length + 1
  | .lit _ => 1
  | .nil => 1
  | .ptr d => uptoBulk d + 1
  | .slice elems spare => uptoBulkAll elems + uptoBulkAll spare + 1
  | .agg parts => uptoBulkAll parts + 1
  | .iface _ d => uptoBulk d + 1
  | .map entries => uptoBulkEntries entries + 1
  | .held _ => 1
def uptoBulkAll {H : Type} : List (DataW H) → Nat
  | [] => 0
  | d :: r => uptoBulk d + uptoBulkAll r
def uptoBulkEntries {H : Type} : List (Lit × DataW H) → Nat
  | [] => 0
  | x :: r => uptoBulkEntry x + uptoBulkEntries r
def uptoBulkEntry {H : Type} : Lit × DataW H → Nat
  | (.string bytes, d) => bytes.length + uptoBulk d + 1
  | (_, d) => uptoBulk d + 1
 end
def uptoSmall : (H : Type) → List (DataW H) → Bool := fun _ ds => decide (uptoBulkAll ds ≤ 1048576)
def OpenSpec.upto (s : _root_.Go.ChangeSpec) : _root_.Go.OpenSpec := { _root_.Go.OpenSpec.ofChange s with cond := some uptoSmall }

/-- 'treillagelaw11.RecTells', WHERE WHAT IT READS IS OF BULK AT MOST 1048576: true; the input reads as it did. -/
def recTellsUptoRow : OpenClaim := { program := "ytdjkadfgmhmhcaa", sum := "b74fa8176c40776aded9e67285d261cac250d26db8346462500d62605a51e4ca", func := "treillage/treillagelaw11.RecTells", spec := "recTells", unfollowed := true, recurses := true, apart := false, narrowed := true }
def RecTellsUptoSaid : Prop := recTellsUptoRow.holds Try.pinned (OpenSpec.upto recTellsSpec)

/-- 'treillagelaw11.RecBack', WHERE WHAT IT READS IS OF BULK AT MOST 1048576: true; the input reads as it did. -/
def recBackUptoRow : OpenClaim := { program := "ytdjkadfgmhmhcaa", sum := "b74fa8176c40776aded9e67285d261cac250d26db8346462500d62605a51e4ca", func := "treillage/treillagelaw11.RecBack", spec := "recBack", unfollowed := true, recurses := true, apart := false, narrowed := true }
def RecBackUptoSaid : Prop := recBackUptoRow.holds Try.pinned (OpenSpec.upto recBackSpec)

/-- 'treillagelaw11.RecWords', WHERE WHAT IT READS IS OF BULK AT MOST 1048576: true; the input reads as it did. -/
def recWordsUptoRow : OpenClaim := { program := "ytdjkadfgmhmhcaa", sum := "b74fa8176c40776aded9e67285d261cac250d26db8346462500d62605a51e4ca", func := "treillage/treillagelaw11.RecWords", spec := "recWords", unfollowed := true, recurses := true, apart := false, narrowed := true }
def RecWordsUptoSaid : Prop := recWordsUptoRow.holds Try.pinned (OpenSpec.upto recWordsSpec)

/-- 'treillagelaw11.RecLong', WHERE WHAT IT READS IS OF BULK AT MOST 1048576: true; the input reads as it did. -/
def recLongUptoRow : OpenClaim := { program := "ytdjkadfgmhmhcaa", sum := "b74fa8176c40776aded9e67285d261cac250d26db8346462500d62605a51e4ca", func := "treillage/treillagelaw11.RecLong", spec := "recLong", unfollowed := true, recurses := true, apart := false, narrowed := true }
def RecLongUptoSaid : Prop := recLongUptoRow.holds Try.pinned (OpenSpec.upto recLongSpec)

/-- 'treillagelaw11.RecApart', WHERE WHAT IT READS IS OF BULK AT MOST 1048576: true; the input reads as it did. -/
def recApartUptoRow : OpenClaim := { program := "ytdjkadfgmhmhcaa", sum := "b74fa8176c40776aded9e67285d261cac250d26db8346462500d62605a51e4ca", func := "treillage/treillagelaw11.RecApart", spec := "recApart", unfollowed := true, recurses := true, apart := false, narrowed := true }
def RecApartUptoSaid : Prop := recApartUptoRow.holds Try.pinned (OpenSpec.upto recApartSpec)

/-- 'treillagelaw11.RecTexts', WHERE WHAT IT READS IS OF BULK AT MOST 1048576: true; the input reads as it did. -/
def recTextsUptoRow : OpenClaim := { program := "ytdjkadfgmhmhcaa", sum := "b74fa8176c40776aded9e67285d261cac250d26db8346462500d62605a51e4ca", func := "treillage/treillagelaw11.RecTexts", spec := "recTexts", unfollowed := true, recurses := true, apart := false, narrowed := true }
def RecTextsUptoSaid : Prop := recTextsUptoRow.holds Try.pinned (OpenSpec.upto recTextsSpec)

end Rows
end Go.Proofs.Ytdjkadfgmhmhcaa
