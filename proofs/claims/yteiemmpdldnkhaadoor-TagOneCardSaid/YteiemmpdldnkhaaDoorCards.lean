/-
  DERIVED. GIVEN WITH THE SEED: THE CARDS: each row of YteiemmpdldnkhaaDoorRows.lean that lists a variable, with what it lists TIED to the program's text (the seventh form; the later family's looks); each row that meets fmt, with fmt's text TOLD by the authors' own Lean function (tested against real Go, not proved from fmt's source: count such statements apart). THE CARD IS WHAT COUNTS. Prove the row's statement (the work); the ties are given (YteiemmpdldnkhaaDoorTie.lean); close each card by the builder's one call (the guide's Derived/Test/ToyasCard.lean, 'card_holds'). Laid BY PROGRAM, IN A SANDBOX (cutbox-door.mjs). By AI agents, Wed Nov 11 2026. No macro, syntax, notation, axiom, sorry.
-/
import Derived.Test.YteiemmpdldnkhaaDoorRows
import GoSem.ClaimSeven
namespace Go.Proofs.YteiemmpdldnkhaaDoor
namespace Rows

/-- THE TIED CARD OF 'estreatlaw06.TagMacsTwo'. -/
def tagMacsTwoCard : Claim7 := { stood := { row := tagMacsTwoRow, standIns := [], harness := (true, "d19d4028cd6dfed205fe6c65f58d563f66dcfa36806d66a429ae10b19469691c"), looks := false }, kinds := [], alts := [], laidByText := true, laidKinds := [.data], laidTests := true, laidLooks := .later }
def TagMacsTwoCardSaid : Prop := Claim7.holds Tryd.pinned (.plain (OpenSpec.ofChange tagMacsTwoSpec)) tagMacsTwoCard

/-- THE TIED CARD OF 'estreatlaw06.TagMacs'. -/
def tagMacsCard : Claim7 := { stood := { row := tagMacsRow, standIns := [], harness := (true, "d19d4028cd6dfed205fe6c65f58d563f66dcfa36806d66a429ae10b19469691c"), looks := false }, kinds := [], alts := [], laidByText := true, laidKinds := [.data, .data], laidTests := true, laidLooks := .later }
def TagMacsCardSaid : Prop := Claim7.holds Tryd.pinned (.plain (OpenSpec.ofChange tagMacsSpec)) tagMacsCard

/-- THE TIED CARD OF 'estreatlaw06.TagKeys'. -/
def tagKeysCard : Claim7 := { stood := { row := tagKeysRow, standIns := [], harness := (true, "d19d4028cd6dfed205fe6c65f58d563f66dcfa36806d66a429ae10b19469691c"), looks := false }, kinds := [], alts := [], laidByText := true, laidKinds := [.data, .data], laidTests := true, laidLooks := .later }
def TagKeysCardSaid : Prop := Claim7.holds Tryd.pinned (.plain (OpenSpec.ofChange tagKeysSpec)) tagKeysCard

/-- THE TIED CARD OF 'estreatlaw06.TagHolds'. -/
def tagHoldsCard : Claim7 := { stood := { row := tagHoldsRow, standIns := [], harness := (true, "d19d4028cd6dfed205fe6c65f58d563f66dcfa36806d66a429ae10b19469691c"), looks := false }, kinds := [], alts := [], laidByText := true, laidKinds := [.data], laidTests := true, laidLooks := .later }
def TagHoldsCardSaid : Prop := Claim7.holds Tryd.pinned (.plain (OpenSpec.ofChange tagHoldsSpec)) tagHoldsCard

/-- THE TIED CARD OF 'estreatlaw06.TagOne'. -/
def tagOneCard : Claim7 := { stood := { row := tagOneRow, standIns := [], harness := (true, "d19d4028cd6dfed205fe6c65f58d563f66dcfa36806d66a429ae10b19469691c"), looks := false }, kinds := [], alts := [], laidByText := true, laidKinds := [.data], laidTests := true, laidLooks := .later }
def TagOneCardSaid : Prop := Claim7.holds Tryd.pinned (.plain (OpenSpec.ofChange tagOneSpec)) tagOneCard

/-- THE SECOND FORM's CARD OF 'estreatlaw06.TagMacsTwo'. -/
def tagMacsTwoUptoCard : Claim7 := { stood := { row := tagMacsTwoUptoRow, standIns := [], harness := (true, "d19d4028cd6dfed205fe6c65f58d563f66dcfa36806d66a429ae10b19469691c"), looks := false }, kinds := [], alts := [], laidByText := true, laidKinds := [.data], laidTests := true, laidLooks := .later }
def TagMacsTwoUptoCardSaid : Prop := Claim7.holds Tryd.pinned (.plain (OpenSpec.upto tagMacsTwoSpec)) tagMacsTwoUptoCard

/-- THE SECOND FORM's CARD OF 'estreatlaw06.TagMacs'. -/
def tagMacsUptoCard : Claim7 := { stood := { row := tagMacsUptoRow, standIns := [], harness := (true, "d19d4028cd6dfed205fe6c65f58d563f66dcfa36806d66a429ae10b19469691c"), looks := false }, kinds := [], alts := [], laidByText := true, laidKinds := [.data, .data], laidTests := true, laidLooks := .later }
def TagMacsUptoCardSaid : Prop := Claim7.holds Tryd.pinned (.plain (OpenSpec.upto tagMacsSpec)) tagMacsUptoCard

/-- THE SECOND FORM's CARD OF 'estreatlaw06.TagKeys'. -/
def tagKeysUptoCard : Claim7 := { stood := { row := tagKeysUptoRow, standIns := [], harness := (true, "d19d4028cd6dfed205fe6c65f58d563f66dcfa36806d66a429ae10b19469691c"), looks := false }, kinds := [], alts := [], laidByText := true, laidKinds := [.data, .data], laidTests := true, laidLooks := .later }
def TagKeysUptoCardSaid : Prop := Claim7.holds Tryd.pinned (.plain (OpenSpec.upto tagKeysSpec)) tagKeysUptoCard

/-- THE SECOND FORM's CARD OF 'estreatlaw06.TagHolds'. -/
def tagHoldsUptoCard : Claim7 := { stood := { row := tagHoldsUptoRow, standIns := [], harness := (true, "d19d4028cd6dfed205fe6c65f58d563f66dcfa36806d66a429ae10b19469691c"), looks := false }, kinds := [], alts := [], laidByText := true, laidKinds := [.data], laidTests := true, laidLooks := .later }
def TagHoldsUptoCardSaid : Prop := Claim7.holds Tryd.pinned (.plain (OpenSpec.upto tagHoldsSpec)) tagHoldsUptoCard

/-- THE SECOND FORM's CARD OF 'estreatlaw06.TagOne'. -/
def tagOneUptoCard : Claim7 := { stood := { row := tagOneUptoRow, standIns := [], harness := (true, "d19d4028cd6dfed205fe6c65f58d563f66dcfa36806d66a429ae10b19469691c"), looks := false }, kinds := [], alts := [], laidByText := true, laidKinds := [.data], laidTests := true, laidLooks := .later }
def TagOneUptoCardSaid : Prop := Claim7.holds Tryd.pinned (.plain (OpenSpec.upto tagOneSpec)) tagOneUptoCard
end Rows
end Go.Proofs.YteiemmpdldnkhaaDoor
