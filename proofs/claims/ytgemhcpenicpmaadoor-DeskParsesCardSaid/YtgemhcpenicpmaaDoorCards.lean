/-
  DERIVED. GIVEN WITH THE SEED: THE CARDS: each row of YtgemhcpenicpmaaDoorRows.lean that lists a variable, with what it lists TIED to the program's text (the seventh form; the later family's looks); each row that meets fmt, with fmt's text TOLD by the authors' own Lean function (tested against real Go, not proved from fmt's source: count such statements apart). THE CARD IS WHAT COUNTS. Prove the row's statement (the work); the ties are given (YtgemhcpenicpmaaDoorTie.lean); close each card by the builder's one call (the guide's Derived/Test/ToyasCard.lean, 'card_holds'). Laid BY PROGRAM, IN A SANDBOX (cutbox-door.mjs). By AI agents, Wed Nov 11 2026. No macro, syntax, notation, axiom, sorry.
-/
import Derived.Test.YtgemhcpenicpmaaDoorRows
import GoSem.ClaimSeven
namespace Go.Proofs.YtgemhcpenicpmaaDoor
namespace Rows

/-- THE TIED CARD OF 'estreatlaw21.DeskParses'. -/
def deskParsesCard : Claim7 := { stood := { row := deskParsesRow, standIns := [], harness := (true, "c94f385853dfe4a35fa7687c879868cf85dada3b87eb2c3d29849c9e79231160"), looks := true }, kinds := [], alts := [], laidByText := true, laidKinds := [.data, .data, .data, .sentinel, .sentinel], laidTests := true, laidLooks := .later }
def DeskParsesCardSaid : Prop := Claim7.holds Tryd.pinned (.plain (OpenSpec.ofChange deskParsesSpec)) deskParsesCard

/-- THE TIED CARD OF 'estreatlaw21.DeskPrints'. -/
def deskPrintsCard : Claim7 := { stood := { row := deskPrintsRow, standIns := [], harness := (true, "c94f385853dfe4a35fa7687c879868cf85dada3b87eb2c3d29849c9e79231160"), looks := true }, kinds := [], alts := [], laidByText := true, laidKinds := [.data, .data, .data, .sentinel, .sentinel], laidTests := true, laidLooks := .later }
def DeskPrintsCardSaid : Prop := Claim7.holds Tryd.pinned (.plain (OpenSpec.ofChange deskPrintsSpec)) deskPrintsCard

/-- THE SECOND FORM's CARD OF 'estreatlaw21.DeskParses'. -/
def deskParsesUptoCard : Claim7 := { stood := { row := deskParsesUptoRow, standIns := [], harness := (true, "c94f385853dfe4a35fa7687c879868cf85dada3b87eb2c3d29849c9e79231160"), looks := true }, kinds := [], alts := [], laidByText := true, laidKinds := [.data, .data, .data, .sentinel, .sentinel], laidTests := true, laidLooks := .later }
def DeskParsesUptoCardSaid : Prop := Claim7.holds Tryd.pinned (.plain (OpenSpec.upto deskParsesSpec)) deskParsesUptoCard

/-- THE SECOND FORM's CARD OF 'estreatlaw21.DeskPrints'. -/
def deskPrintsUptoCard : Claim7 := { stood := { row := deskPrintsUptoRow, standIns := [], harness := (true, "c94f385853dfe4a35fa7687c879868cf85dada3b87eb2c3d29849c9e79231160"), looks := true }, kinds := [], alts := [], laidByText := true, laidKinds := [.data, .data, .data, .sentinel, .sentinel], laidTests := true, laidLooks := .later }
def DeskPrintsUptoCardSaid : Prop := Claim7.holds Tryd.pinned (.plain (OpenSpec.upto deskPrintsSpec)) deskPrintsUptoCard
end Rows
end Go.Proofs.YtgemhcpenicpmaaDoor
