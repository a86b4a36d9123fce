/-
  DERIVED. GIVEN WITH THE SEED: THE CARDS: each row of YtbdajleccbdodaaDoorRows.lean that lists a variable, with what it lists TIED to the program's text (the seventh form; the later family's looks); each row that meets fmt, with fmt's text TOLD by the authors' own Lean function (tested against real Go, not proved from fmt's source: count such statements apart). THE CARD IS WHAT COUNTS. Prove the row's statement (the work); the ties are given (YtbdajleccbdodaaDoorTie.lean); close each card by the builder's one call (the guide's Derived/Test/ToyasCard.lean, 'card_holds'). Laid BY PROGRAM, IN A SANDBOX (cutbox-door.mjs). By AI agents, Wed Nov 11 2026. No macro, syntax, notation, axiom, sorry.
-/
import Derived.Test.YtbdajleccbdodaaDoorRows
import GoSem.ClaimSeven
namespace Go.Proofs.YtbdajleccbdodaaDoor
namespace Rows

/-- THE TIED CARD OF 'estreatlaw02.ShaSums'. -/
def shaSumsCard : Claim7 := { stood := { row := shaSumsRow, standIns := [], harness := (true, "2eb2781896645389ef559744a88be9b0b264cf84c62c9823e826c4db40421783"), looks := false }, kinds := [], alts := [], laidByText := true, laidKinds := [.data, .data], laidTests := true, laidLooks := .later }
def ShaSumsCardSaid : Prop := Claim7.holds Tryd.pinned (.plain (OpenSpec.ofChange shaSumsSpec)) shaSumsCard

/-- THE TIED CARD OF 'estreatlaw02.ShaParts'. -/
def shaPartsCard : Claim7 := { stood := { row := shaPartsRow, standIns := [], harness := (true, "2eb2781896645389ef559744a88be9b0b264cf84c62c9823e826c4db40421783"), looks := false }, kinds := [], alts := [], laidByText := true, laidKinds := [.data], laidTests := true, laidLooks := .later }
def ShaPartsCardSaid : Prop := Claim7.holds Tryd.pinned (.plain (OpenSpec.ofChange shaPartsSpec)) shaPartsCard

/-- THE TIED CARD OF 'estreatlaw02.ShaTrees'. -/
def shaTreesCard : Claim7 := { stood := { row := shaTreesRow, standIns := [], harness := (true, "2eb2781896645389ef559744a88be9b0b264cf84c62c9823e826c4db40421783"), looks := false }, kinds := [], alts := [], laidByText := true, laidKinds := [.data, .data], laidTests := true, laidLooks := .later }
def ShaTreesCardSaid : Prop := Claim7.holds Tryd.pinned (.plain (OpenSpec.ofChange shaTreesSpec)) shaTreesCard

/-- THE TIED CARD OF 'estreatlaw02.ShaKnots'. -/
def shaKnotsCard : Claim7 := { stood := { row := shaKnotsRow, standIns := [], harness := (true, "2eb2781896645389ef559744a88be9b0b264cf84c62c9823e826c4db40421783"), looks := false }, kinds := [], alts := [], laidByText := true, laidKinds := [.data], laidTests := true, laidLooks := .later }
def ShaKnotsCardSaid : Prop := Claim7.holds Tryd.pinned (.plain (OpenSpec.ofChange shaKnotsSpec)) shaKnotsCard

/-- THE TIED CARD OF 'estreatlaw02.ShaLeaves'. -/
def shaLeavesCard : Claim7 := { stood := { row := shaLeavesRow, standIns := [], harness := (true, "2eb2781896645389ef559744a88be9b0b264cf84c62c9823e826c4db40421783"), looks := false }, kinds := [], alts := [], laidByText := true, laidKinds := [.data], laidTests := true, laidLooks := .later }
def ShaLeavesCardSaid : Prop := Claim7.holds Tryd.pinned (.plain (OpenSpec.ofChange shaLeavesSpec)) shaLeavesCard

/-- THE SECOND FORM's CARD OF 'estreatlaw02.ShaSums'. -/
def shaSumsUptoCard : Claim7 := { stood := { row := shaSumsUptoRow, standIns := [], harness := (true, "2eb2781896645389ef559744a88be9b0b264cf84c62c9823e826c4db40421783"), looks := false }, kinds := [], alts := [], laidByText := true, laidKinds := [.data, .data], laidTests := true, laidLooks := .later }
def ShaSumsUptoCardSaid : Prop := Claim7.holds Tryd.pinned (.plain (OpenSpec.upto shaSumsSpec)) shaSumsUptoCard

/-- THE SECOND FORM's CARD OF 'estreatlaw02.ShaParts'. -/
def shaPartsUptoCard : Claim7 := { stood := { row := shaPartsUptoRow, standIns := [], harness := (true, "2eb2781896645389ef559744a88be9b0b264cf84c62c9823e826c4db40421783"), looks := false }, kinds := [], alts := [], laidByText := true, laidKinds := [.data], laidTests := true, laidLooks := .later }
def ShaPartsUptoCardSaid : Prop := Claim7.holds Tryd.pinned (.plain (OpenSpec.upto shaPartsSpec)) shaPartsUptoCard

/-- THE SECOND FORM's CARD OF 'estreatlaw02.ShaTrees'. -/
def shaTreesUptoCard : Claim7 := { stood := { row := shaTreesUptoRow, standIns := [], harness := (true, "2eb2781896645389ef559744a88be9b0b264cf84c62c9823e826c4db40421783"), looks := false }, kinds := [], alts := [], laidByText := true, laidKinds := [.data, .data], laidTests := true, laidLooks := .later }
def ShaTreesUptoCardSaid : Prop := Claim7.holds Tryd.pinned (.plain (OpenSpec.upto shaTreesSpec)) shaTreesUptoCard

/-- THE SECOND FORM's CARD OF 'estreatlaw02.ShaKnots'. -/
def shaKnotsUptoCard : Claim7 := { stood := { row := shaKnotsUptoRow, standIns := [], harness := (true, "2eb2781896645389ef559744a88be9b0b264cf84c62c9823e826c4db40421783"), looks := false }, kinds := [], alts := [], laidByText := true, laidKinds := [.data], laidTests := true, laidLooks := .later }
def ShaKnotsUptoCardSaid : Prop := Claim7.holds Tryd.pinned (.plain (OpenSpec.upto shaKnotsSpec)) shaKnotsUptoCard

/-- THE SECOND FORM's CARD OF 'estreatlaw02.ShaLeaves'. -/
def shaLeavesUptoCard : Claim7 := { stood := { row := shaLeavesUptoRow, standIns := [], harness := (true, "2eb2781896645389ef559744a88be9b0b264cf84c62c9823e826c4db40421783"), looks := false }, kinds := [], alts := [], laidByText := true, laidKinds := [.data], laidTests := true, laidLooks := .later }
def ShaLeavesUptoCardSaid : Prop := Claim7.holds Tryd.pinned (.plain (OpenSpec.upto shaLeavesSpec)) shaLeavesUptoCard
end Rows
end Go.Proofs.YtbdajleccbdodaaDoor
