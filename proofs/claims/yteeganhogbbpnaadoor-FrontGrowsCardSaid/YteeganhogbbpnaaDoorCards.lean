/-
  DERIVED. GIVEN WITH THE SEED: THE CARDS: each row of YteeganhogbbpnaaDoorRows.lean that lists a variable, with what it lists TIED to the program's text (the seventh form; the later family's looks); each row that meets fmt, with fmt's text TOLD by the authors' own Lean function (tested against real Go, not proved from fmt's source: count such statements apart). THE CARD IS WHAT COUNTS. Prove the row's statement (the work); the ties are given (YteeganhogbbpnaaDoorTie.lean); close each card by the builder's one call (the guide's Derived/Test/ToyasCard.lean, 'card_holds'). Laid BY PROGRAM, IN A SANDBOX (cutbox-door.mjs). By AI agents, Wed Nov 11 2026. No macro, syntax, notation, axiom, sorry.
-/
import Derived.Test.YteeganhogbbpnaaDoorRows
import GoSem.ClaimSeven
namespace Go.Proofs.YteeganhogbbpnaaDoor
namespace Rows

/-- THE TIED CARD OF 'estreatlaw04.FrontChecks'. -/
def frontChecksCard : Claim7 := { stood := { row := frontChecksRow, standIns := [], harness := (true, "12ff7f123811a15e3206426a5f452c0d699de0d8d04484e0ab7470bf3e60ef31"), looks := false }, kinds := [], alts := [], laidByText := true, laidKinds := [.data, .data, .data, .data], laidTests := true, laidLooks := .later }
def FrontChecksCardSaid : Prop := Claim7.holds Tryd.pinned (.plain (OpenSpec.ofChange frontChecksSpec)) frontChecksCard

/-- THE TIED CARD OF 'estreatlaw04.FrontLists'. -/
def frontListsCard : Claim7 := { stood := { row := frontListsRow, standIns := [], harness := (true, "12ff7f123811a15e3206426a5f452c0d699de0d8d04484e0ab7470bf3e60ef31"), looks := false }, kinds := [], alts := [], laidByText := true, laidKinds := [.data, .data, .data, .data], laidTests := true, laidLooks := .later }
def FrontListsCardSaid : Prop := Claim7.holds Tryd.pinned (.plain (OpenSpec.ofChange frontListsSpec)) frontListsCard

/-- THE TIED CARD OF 'estreatlaw04.FrontAdds'. -/
def frontAddsCard : Claim7 := { stood := { row := frontAddsRow, standIns := [], harness := (true, "12ff7f123811a15e3206426a5f452c0d699de0d8d04484e0ab7470bf3e60ef31"), looks := false }, kinds := [], alts := [], laidByText := true, laidKinds := [.data, .data, .data, .data], laidTests := true, laidLooks := .later }
def FrontAddsCardSaid : Prop := Claim7.holds Tryd.pinned (.plain (OpenSpec.ofChange frontAddsSpec)) frontAddsCard

/-- THE TIED CARD OF 'estreatlaw04.FrontKeeps'. -/
def frontKeepsCard : Claim7 := { stood := { row := frontKeepsRow, standIns := [], harness := (true, "12ff7f123811a15e3206426a5f452c0d699de0d8d04484e0ab7470bf3e60ef31"), looks := false }, kinds := [], alts := [], laidByText := true, laidKinds := [.data, .data, .data], laidTests := true, laidLooks := .later }
def FrontKeepsCardSaid : Prop := Claim7.holds Tryd.pinned (.plain (OpenSpec.ofChange frontKeepsSpec)) frontKeepsCard

/-- THE TIED CARD OF 'estreatlaw04.FrontGrows'. -/
def frontGrowsCard : Claim7 := { stood := { row := frontGrowsRow, standIns := [], harness := (true, "12ff7f123811a15e3206426a5f452c0d699de0d8d04484e0ab7470bf3e60ef31"), looks := false }, kinds := [], alts := [], laidByText := true, laidKinds := [.data, .data, .data], laidTests := true, laidLooks := .later }
def FrontGrowsCardSaid : Prop := Claim7.holds Tryd.pinned (.plain (OpenSpec.ofChange frontGrowsSpec)) frontGrowsCard

/-- THE SECOND FORM's CARD OF 'estreatlaw04.FrontChecks'. -/
def frontChecksUptoCard : Claim7 := { stood := { row := frontChecksUptoRow, standIns := [], harness := (true, "12ff7f123811a15e3206426a5f452c0d699de0d8d04484e0ab7470bf3e60ef31"), looks := false }, kinds := [], alts := [], laidByText := true, laidKinds := [.data, .data, .data, .data], laidTests := true, laidLooks := .later }
def FrontChecksUptoCardSaid : Prop := Claim7.holds Tryd.pinned (.plain (OpenSpec.upto frontChecksSpec)) frontChecksUptoCard

/-- THE SECOND FORM's CARD OF 'estreatlaw04.FrontLists'. -/
def frontListsUptoCard : Claim7 := { stood := { row := frontListsUptoRow, standIns := [], harness := (true, "12ff7f123811a15e3206426a5f452c0d699de0d8d04484e0ab7470bf3e60ef31"), looks := false }, kinds := [], alts := [], laidByText := true, laidKinds := [.data, .data, .data, .data], laidTests := true, laidLooks := .later }
def FrontListsUptoCardSaid : Prop := Claim7.holds Tryd.pinned (.plain (OpenSpec.upto frontListsSpec)) frontListsUptoCard

/-- THE SECOND FORM's CARD OF 'estreatlaw04.FrontAdds'. -/
def frontAddsUptoCard : Claim7 := { stood := { row := frontAddsUptoRow, standIns := [], harness := (true, "12ff7f123811a15e3206426a5f452c0d699de0d8d04484e0ab7470bf3e60ef31"), looks := false }, kinds := [], alts := [], laidByText := true, laidKinds := [.data, .data, .data, .data], laidTests := true, laidLooks := .later }
def FrontAddsUptoCardSaid : Prop := Claim7.holds Tryd.pinned (.plain (OpenSpec.upto frontAddsSpec)) frontAddsUptoCard

/-- THE SECOND FORM's CARD OF 'estreatlaw04.FrontKeeps'. -/
def frontKeepsUptoCard : Claim7 := { stood := { row := frontKeepsUptoRow, standIns := [], harness := (true, "12ff7f123811a15e3206426a5f452c0d699de0d8d04484e0ab7470bf3e60ef31"), looks := false }, kinds := [], alts := [], laidByText := true, laidKinds := [.data, .data, .data], laidTests := true, laidLooks := .later }
def FrontKeepsUptoCardSaid : Prop := Claim7.holds Tryd.pinned (.plain (OpenSpec.upto frontKeepsSpec)) frontKeepsUptoCard

/-- THE SECOND FORM's CARD OF 'estreatlaw04.FrontGrows'. -/
def frontGrowsUptoCard : Claim7 := { stood := { row := frontGrowsUptoRow, standIns := [], harness := (true, "12ff7f123811a15e3206426a5f452c0d699de0d8d04484e0ab7470bf3e60ef31"), looks := false }, kinds := [], alts := [], laidByText := true, laidKinds := [.data, .data, .data], laidTests := true, laidLooks := .later }
def FrontGrowsUptoCardSaid : Prop := Claim7.holds Tryd.pinned (.plain (OpenSpec.upto frontGrowsSpec)) frontGrowsUptoCard
end Rows
end Go.Proofs.YteeganhogbbpnaaDoor
