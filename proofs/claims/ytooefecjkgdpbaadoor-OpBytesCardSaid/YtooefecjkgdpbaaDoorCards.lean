/-
  DERIVED. GIVEN WITH THE SEED: THE CARDS: each row of YtooefecjkgdpbaaDoorRows.lean that lists a variable, with what it lists TIED to the program's text (the seventh form; the later family's looks); each row that meets fmt, with fmt's text TOLD by the authors' own Lean function (tested against real Go, not proved from fmt's source: count such statements apart). THE CARD IS WHAT COUNTS. Prove the row's statement (the work); the ties are given (YtooefecjkgdpbaaDoorTie.lean); close each card by the builder's one call (the guide's Derived/Test/ToyasCard.lean, 'card_holds'). Laid BY PROGRAM, IN A SANDBOX (cutbox-door.mjs). By AI agents, Wed Nov 11 2026. No macro, syntax, notation, axiom, sorry.
-/
import Derived.Test.YtooefecjkgdpbaaDoorRows
import GoSem.ClaimSeven
namespace Go.Proofs.YtooefecjkgdpbaaDoor
namespace Rows

/-- THE TIED CARD OF 'treillagelaw06.OpTells'. -/
def opTellsCard : Claim7 := { stood := { row := opTellsRow, standIns := [], harness := (true, "3e51e105df88229ceed0da3550f31a46825ca7731c634d2e0af0a16d2fa55a24"), looks := false }, kinds := [], alts := [], laidByText := true, laidKinds := [.data, .data, .data], laidTests := true, laidLooks := .later }
def OpTellsCardSaid : Prop := Claim7.holds Tryd.pinned (.plain (OpenSpec.ofChange opTellsSpec)) opTellsCard

/-- THE TIED CARD OF 'treillagelaw06.OpBytes'. -/
def opBytesCard : Claim7 := { stood := { row := opBytesRow, standIns := [], harness := (true, "3e51e105df88229ceed0da3550f31a46825ca7731c634d2e0af0a16d2fa55a24"), looks := false }, kinds := [], alts := [], laidByText := true, laidKinds := [.data, .data, .data], laidTests := true, laidLooks := .later }
def OpBytesCardSaid : Prop := Claim7.holds Tryd.pinned (.plain (OpenSpec.ofChange opBytesSpec)) opBytesCard

/-- THE TIED CARD OF 'treillagelaw06.OpBack'. -/
def opBackCard : Claim7 := { stood := { row := opBackRow, standIns := [], harness := (true, "3e51e105df88229ceed0da3550f31a46825ca7731c634d2e0af0a16d2fa55a24"), looks := false }, kinds := [], alts := [], laidByText := true, laidKinds := [.data, .data, .data], laidTests := true, laidLooks := .later }
def OpBackCardSaid : Prop := Claim7.holds Tryd.pinned (.plain (OpenSpec.ofChange opBackSpec)) opBackCard

/-- THE TIED CARD OF 'treillagelaw06.OpJoins'. -/
def opJoinsCard : Claim7 := { stood := { row := opJoinsRow, standIns := [], harness := (true, "3e51e105df88229ceed0da3550f31a46825ca7731c634d2e0af0a16d2fa55a24"), looks := false }, kinds := [], alts := [], laidByText := true, laidKinds := [.data, .data, .data], laidTests := true, laidLooks := .later }
def OpJoinsCardSaid : Prop := Claim7.holds Tryd.pinned (.plain (OpenSpec.ofChange opJoinsSpec)) opJoinsCard

/-- THE TIED CARD OF 'treillagelaw06.OpMay'. -/
def opMayCard : Claim7 := { stood := { row := opMayRow, standIns := [], harness := (true, "3e51e105df88229ceed0da3550f31a46825ca7731c634d2e0af0a16d2fa55a24"), looks := false }, kinds := [], alts := [], laidByText := true, laidKinds := [.data, .data, .data], laidTests := true, laidLooks := .later }
def OpMayCardSaid : Prop := Claim7.holds Tryd.pinned (.plain (OpenSpec.ofChange opMaySpec)) opMayCard

/-- THE TIED CARD OF 'treillagelaw06.OpApart'. -/
def opApartCard : Claim7 := { stood := { row := opApartRow, standIns := [], harness := (true, "3e51e105df88229ceed0da3550f31a46825ca7731c634d2e0af0a16d2fa55a24"), looks := false }, kinds := [], alts := [], laidByText := true, laidKinds := [.data, .data, .data], laidTests := true, laidLooks := .later }
def OpApartCardSaid : Prop := Claim7.holds Tryd.pinned (.plain (OpenSpec.ofChange opApartSpec)) opApartCard

/-- THE SECOND FORM's CARD OF 'treillagelaw06.OpTells'. -/
def opTellsUptoCard : Claim7 := { stood := { row := opTellsUptoRow, standIns := [], harness := (true, "3e51e105df88229ceed0da3550f31a46825ca7731c634d2e0af0a16d2fa55a24"), looks := false }, kinds := [], alts := [], laidByText := true, laidKinds := [.data, .data, .data], laidTests := true, laidLooks := .later }
def OpTellsUptoCardSaid : Prop := Claim7.holds Tryd.pinned (.plain (OpenSpec.upto opTellsSpec)) opTellsUptoCard

/-- THE SECOND FORM's CARD OF 'treillagelaw06.OpBytes'. -/
def opBytesUptoCard : Claim7 := { stood := { row := opBytesUptoRow, standIns := [], harness := (true, "3e51e105df88229ceed0da3550f31a46825ca7731c634d2e0af0a16d2fa55a24"), looks := false }, kinds := [], alts := [], laidByText := true, laidKinds := [.data, .data, .data], laidTests := true, laidLooks := .later }
def OpBytesUptoCardSaid : Prop := Claim7.holds Tryd.pinned (.plain (OpenSpec.upto opBytesSpec)) opBytesUptoCard

/-- THE SECOND FORM's CARD OF 'treillagelaw06.OpBack'. -/
def opBackUptoCard : Claim7 := { stood := { row := opBackUptoRow, standIns := [], harness := (true, "3e51e105df88229ceed0da3550f31a46825ca7731c634d2e0af0a16d2fa55a24"), looks := false }, kinds := [], alts := [], laidByText := true, laidKinds := [.data, .data, .data], laidTests := true, laidLooks := .later }
def OpBackUptoCardSaid : Prop := Claim7.holds Tryd.pinned (.plain (OpenSpec.upto opBackSpec)) opBackUptoCard

/-- THE SECOND FORM's CARD OF 'treillagelaw06.OpJoins'. -/
def opJoinsUptoCard : Claim7 := { stood := { row := opJoinsUptoRow, standIns := [], harness := (true, "3e51e105df88229ceed0da3550f31a46825ca7731c634d2e0af0a16d2fa55a24"), looks := false }, kinds := [], alts := [], laidByText := true, laidKinds := [.data, .data, .data], laidTests := true, laidLooks := .later }
def OpJoinsUptoCardSaid : Prop := Claim7.holds Tryd.pinned (.plain (OpenSpec.upto opJoinsSpec)) opJoinsUptoCard

/-- THE SECOND FORM's CARD OF 'treillagelaw06.OpMay'. -/
def opMayUptoCard : Claim7 := { stood := { row := opMayUptoRow, standIns := [], harness := (true, "3e51e105df88229ceed0da3550f31a46825ca7731c634d2e0af0a16d2fa55a24"), looks := false }, kinds := [], alts := [], laidByText := true, laidKinds := [.data, .data, .data], laidTests := true, laidLooks := .later }
def OpMayUptoCardSaid : Prop := Claim7.holds Tryd.pinned (.plain (OpenSpec.upto opMaySpec)) opMayUptoCard

/-- THE SECOND FORM's CARD OF 'treillagelaw06.OpApart'. -/
def opApartUptoCard : Claim7 := { stood := { row := opApartUptoRow, standIns := [], harness := (true, "3e51e105df88229ceed0da3550f31a46825ca7731c634d2e0af0a16d2fa55a24"), looks := false }, kinds := [], alts := [], laidByText := true, laidKinds := [.data, .data, .data], laidTests := true, laidLooks := .later }
def OpApartUptoCardSaid : Prop := Claim7.holds Tryd.pinned (.plain (OpenSpec.upto opApartSpec)) opApartUptoCard
end Rows
end Go.Proofs.YtooefecjkgdpbaaDoor
