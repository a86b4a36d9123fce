/-
  No cell of these rows narrows 'for every input' (looked for: loops, veiled, ifaces, maps, wideKeys, modest, calm, conditions, laid).
  DERIVED. THE GIVEN ROWS OF THIS SEAT. 7 by the template 'for every input the law returns true; each argument reads behind the call as it read before'; 0 by the template 'total and deterministic' (their statements: YthefefnbonidaaaTotals.lean).
  GIVEN WITH THE SEED: the statements are not yours to turn. If you find one false, say at which input.
  Laid BY PROGRAM, IN A SANDBOX (cutbox-rows.mjs): the forced cells as the released guide's own fill.sh prints them over the translation 474e264d90846358… (all of the seat's roots in one cut). By AI agents, Wed Nov 11 2026. No macro, syntax, notation, axiom, sorry.
-/
import Derived.Test.YthefefnbonidaaaChecked
import GoSem.Claim
import GoSem.ClaimJoined
import GoSem.ClaimMapViews
import Derived.JoinedTies
import Derived.KernelRfl
namespace Go.Proofs.Ythefefnbonidaaa
/- THE CELL 'sum', in the pinned program and in every row, IS THE sha256 OF THE DUMP (.gsa) THAT YthefefnbonidaaaProg.lean LOADS. Nothing in Lean hashes anything: it is a label: what it is worth is what the hold of that sum in a sandbox is worth. -/
noncomputable def Try.pinned : Pinned := { name := "ythefefnbonidaaa", sum := "474e264d908463584fcfe4169882dcc8940fdfdb53cbd3448bcf41c204c4548a", checked := Try.checked }
namespace Rows
def none {H : Type} : Left H := { results := [], args := [] }

/-- 'estreatlaw09.DiskBytes': WHATEVER THE INPUT: true; the input reads as it did. -/
def diskBytesSpec : ChangeSpec := { name := "diskBytes", fn := fun _ => fun
  | [d1, d2, d3, d4, d5, d6, d7] => { results := [.lit (.bool true)], args := [d1, d2, d3, d4, d5, d6, d7] }
  | _ => none }
def diskBytesRow : OpenClaim := { program := "ythefefnbonidaaa", sum := "474e264d908463584fcfe4169882dcc8940fdfdb53cbd3448bcf41c204c4548a", func := "estreat/estreatlaw09.DiskBytes", spec := "diskBytes", unfollowed := true, recurses := true, apart := false }
def DiskBytesSaid : Prop := diskBytesRow.holds Try.pinned (OpenSpec.ofChange diskBytesSpec)

/-- ITS FALSE NEIGHBOUR: 'it returns false'. Refute it at one input. -/
def diskBytesWrong : ChangeSpec := { name := "diskBytes", fn := fun _ => fun
  | [d1, d2, d3, d4, d5, d6, d7] => { results := [.lit (.bool false)], args := [d1, d2, d3, d4, d5, d6, d7] }
  | _ => none }
def DiskBytesWrongFalsely : Prop := diskBytesRow.holds Try.pinned (OpenSpec.ofChange diskBytesWrong)

/-- 'estreatlaw09.DiskWhole': WHATEVER THE INPUT: true; the input reads as it did. -/
def diskWholeSpec : ChangeSpec := { name := "diskWhole", fn := fun _ => fun
  | [d1, d2] => { results := [.lit (.bool true)], args := [d1, d2] }
  | _ => none }
def diskWholeRow : OpenClaim := { program := "ythefefnbonidaaa", sum := "474e264d908463584fcfe4169882dcc8940fdfdb53cbd3448bcf41c204c4548a", func := "estreat/estreatlaw09.DiskWhole", spec := "diskWhole", unfollowed := true, recurses := true, apart := false }
def DiskWholeSaid : Prop := diskWholeRow.holds Try.pinned (OpenSpec.ofChange diskWholeSpec)

/-- ITS FALSE NEIGHBOUR: 'it returns false'. Refute it at one input. -/
def diskWholeWrong : ChangeSpec := { name := "diskWhole", fn := fun _ => fun
  | [d1, d2] => { results := [.lit (.bool false)], args := [d1, d2] }
  | _ => none }
def DiskWholeWrongFalsely : Prop := diskWholeRow.holds Try.pinned (OpenSpec.ofChange diskWholeWrong)

/-- 'estreatlaw09.DiskApart': WHATEVER THE INPUT: true; the input reads as it did. -/
def diskApartSpec : ChangeSpec := { name := "diskApart", fn := fun _ => fun
  | [d1, d2, d3] => { results := [.lit (.bool true)], args := [d1, d2, d3] }
  | _ => none }
def diskApartRow : OpenClaim := { program := "ythefefnbonidaaa", sum := "474e264d908463584fcfe4169882dcc8940fdfdb53cbd3448bcf41c204c4548a", func := "estreat/estreatlaw09.DiskApart", spec := "diskApart", unfollowed := true, recurses := true, apart := false }
def DiskApartSaid : Prop := diskApartRow.holds Try.pinned (OpenSpec.ofChange diskApartSpec)

/-- ITS FALSE NEIGHBOUR: 'it returns false'. Refute it at one input. -/
def diskApartWrong : ChangeSpec := { name := "diskApart", fn := fun _ => fun
  | [d1, d2, d3] => { results := [.lit (.bool false)], args := [d1, d2, d3] }
  | _ => none }
def DiskApartWrongFalsely : Prop := diskApartRow.holds Try.pinned (OpenSpec.ofChange diskApartWrong)

/-- 'estreatlaw09.DiskRuns': WHATEVER THE INPUT: true; the input reads as it did. -/
def diskRunsSpec : ChangeSpec := { name := "diskRuns", fn := fun _ => fun
  | [d1, d2] => { results := [.lit (.bool true)], args := [d1, d2] }
  | _ => none }
def diskRunsRow : OpenClaim := { program := "ythefefnbonidaaa", sum := "474e264d908463584fcfe4169882dcc8940fdfdb53cbd3448bcf41c204c4548a", func := "estreat/estreatlaw09.DiskRuns", spec := "diskRuns", unfollowed := true, recurses := true, apart := false }
def DiskRunsSaid : Prop := diskRunsRow.holds Try.pinned (OpenSpec.ofChange diskRunsSpec)

/-- ITS FALSE NEIGHBOUR: 'it returns false'. Refute it at one input. -/
def diskRunsWrong : ChangeSpec := { name := "diskRuns", fn := fun _ => fun
  | [d1, d2] => { results := [.lit (.bool false)], args := [d1, d2] }
  | _ => none }
def DiskRunsWrongFalsely : Prop := diskRunsRow.holds Try.pinned (OpenSpec.ofChange diskRunsWrong)

/-- 'estreatlaw09.DiskSynced': WHATEVER THE INPUT: true; the input reads as it did. -/
def diskSyncedSpec : ChangeSpec := { name := "diskSynced", fn := fun _ => fun
  | [d1, d2, d3, d4, d5, d6] => { results := [.lit (.bool true)], args := [d1, d2, d3, d4, d5, d6] }
  | _ => none }
def diskSyncedRow : OpenClaim := { program := "ythefefnbonidaaa", sum := "474e264d908463584fcfe4169882dcc8940fdfdb53cbd3448bcf41c204c4548a", func := "estreat/estreatlaw09.DiskSynced", spec := "diskSynced", unfollowed := true, recurses := true, apart := false }
def DiskSyncedSaid : Prop := diskSyncedRow.holds Try.pinned (OpenSpec.ofChange diskSyncedSpec)

/-- ITS FALSE NEIGHBOUR: 'it returns false'. Refute it at one input. -/
def diskSyncedWrong : ChangeSpec := { name := "diskSynced", fn := fun _ => fun
  | [d1, d2, d3, d4, d5, d6] => { results := [.lit (.bool false)], args := [d1, d2, d3, d4, d5, d6] }
  | _ => none }
def DiskSyncedWrongFalsely : Prop := diskSyncedRow.holds Try.pinned (OpenSpec.ofChange diskSyncedWrong)

/-- 'estreatlaw09.DiskStops': WHATEVER THE INPUT: true; the input reads as it did. -/
def diskStopsSpec : ChangeSpec := { name := "diskStops", fn := fun _ => fun
  | [d1, d2, d3] => { results := [.lit (.bool true)], args := [d1, d2, d3] }
  | _ => none }
def diskStopsRow : OpenClaim := { program := "ythefefnbonidaaa", sum := "474e264d908463584fcfe4169882dcc8940fdfdb53cbd3448bcf41c204c4548a", func := "estreat/estreatlaw09.DiskStops", spec := "diskStops", unfollowed := true, recurses := true, apart := false }
def DiskStopsSaid : Prop := diskStopsRow.holds Try.pinned (OpenSpec.ofChange diskStopsSpec)

/-- ITS FALSE NEIGHBOUR: 'it returns false'. Refute it at one input. -/
def diskStopsWrong : ChangeSpec := { name := "diskStops", fn := fun _ => fun
  | [d1, d2, d3] => { results := [.lit (.bool false)], args := [d1, d2, d3] }
  | _ => none }
def DiskStopsWrongFalsely : Prop := diskStopsRow.holds Try.pinned (OpenSpec.ofChange diskStopsWrong)

/-- 'estreatlaw09.DiskNil': WHATEVER THE INPUT: true; the input reads as it did. -/
def diskNilSpec : ChangeSpec := { name := "diskNil", fn := fun _ => fun
  | [d] => { results := [.lit (.bool true)], args := [d] }
  | _ => none }
def diskNilRow : OpenClaim := { program := "ythefefnbonidaaa", sum := "474e264d908463584fcfe4169882dcc8940fdfdb53cbd3448bcf41c204c4548a", func := "estreat/estreatlaw09.DiskNil", spec := "diskNil", unfollowed := true, recurses := true, apart := false }
def DiskNilSaid : Prop := diskNilRow.holds Try.pinned (OpenSpec.ofChange diskNilSpec)

/-- ITS FALSE NEIGHBOUR: 'it returns false'. Refute it at one input. -/
def diskNilWrong : ChangeSpec := { name := "diskNil", fn := fun _ => fun
  | [d] => { results := [.lit (.bool false)], args := [d] }
  | _ => none }
def DiskNilWrongFalsely : Prop := diskNilRow.holds Try.pinned (OpenSpec.ofChange diskNilWrong)

/- THE SECOND FORM. 'bulk': how many values and letters a reading holds, each counted each time it is reached (what is shared counts as often as it is met; a slice's spare places count too). A statement '..UptoSaid' is the law's where the arguments, and the package variables that the reading takes, are together of bulk at most 1048576: NARROWER than '..Said'. Prove '..Said' where nothing that the law and all that it calls make is longer than what came in: it says more and counts as full. Else prove '..UptoSaid'. A law counts once. -/
mutual
def uptoBulk {H : Type} : DataW H → Nat
  | .lit (.string bytes) => bytes.length + 1
  | .lit _ => 1
  | .nil => 1
  | .ptr d => uptoBulk d + 1
  | .slice elems spare => uptoBulkAll elems + uptoBulkAll spare + 1
  | .agg parts => uptoBulkAll parts + 1
  | .iface _ d => uptoBulk d + 1
  | .map entries => uptoBulkEntries entries + 1
  | .held _ => 1
def uptoBulkAll {H : Type} : List (DataW H) → Nat
  | [] => 0
  | d :: r => uptoBulk d + uptoBulkAll r
def uptoBulkEntries {H : Type} : List (Lit × DataW H) → Nat
  | [] => 0
  | x :: r => uptoBulkEntry x + uptoBulkEntries r
def uptoBulkEntry {H : Type} : Lit × DataW H → Nat
  | (.string bytes, d) => bytes.length + uptoBulk d + 1
  | (_, d) => uptoBulk d + 1
 end
def uptoSmall : (H : Type) → List (DataW H) → Bool := fun _ ds => decide (uptoBulkAll ds ≤ 1048576)
def OpenSpec.upto (s : _root_.Go.ChangeSpec) : _root_.Go.OpenSpec := { _root_.Go.OpenSpec.ofChange s with cond := some uptoSmall }

/-- 'estreatlaw09.DiskBytes', WHERE WHAT IT READS IS OF BULK AT MOST 1048576: true; the input reads as it did. -/
def diskBytesUptoRow : OpenClaim := { program := "ythefefnbonidaaa", sum := "474e264d908463584fcfe4169882dcc8940fdfdb53cbd3448bcf41c204c4548a", func := "estreat/estreatlaw09.DiskBytes", spec := "diskBytes", unfollowed := true, recurses := true, apart := false, narrowed := true }
def DiskBytesUptoSaid : Prop := diskBytesUptoRow.holds Try.pinned (OpenSpec.upto diskBytesSpec)

/-- 'estreatlaw09.DiskWhole', WHERE WHAT IT READS IS OF BULK AT MOST 1048576: true; the input reads as it did. -/
def diskWholeUptoRow : OpenClaim := { program := "ythefefnbonidaaa", sum := "474e264d908463584fcfe4169882dcc8940fdfdb53cbd3448bcf41c204c4548a", func := "estreat/estreatlaw09.DiskWhole", spec := "diskWhole", unfollowed := true, recurses := true, apart := false, narrowed := true }
def DiskWholeUptoSaid : Prop := diskWholeUptoRow.holds Try.pinned (OpenSpec.upto diskWholeSpec)

/-- 'estreatlaw09.DiskApart', WHERE WHAT IT READS IS OF BULK AT MOST 1048576: true; the input reads as it did. -/
def diskApartUptoRow : OpenClaim := { program := "ythefefnbonidaaa", sum := "474e264d908463584fcfe4169882dcc8940fdfdb53cbd3448bcf41c204c4548a", func := "estreat/estreatlaw09.DiskApart", spec := "diskApart", unfollowed := true, recurses := true, apart := false, narrowed := true }
def DiskApartUptoSaid : Prop := diskApartUptoRow.holds Try.pinned (OpenSpec.upto diskApartSpec)

/-- 'estreatlaw09.DiskRuns', WHERE WHAT IT READS IS OF BULK AT MOST 1048576: true; the input reads as it did. -/
def diskRunsUptoRow : OpenClaim := { program := "ythefefnbonidaaa", sum := "474e264d908463584fcfe4169882dcc8940fdfdb53cbd3448bcf41c204c4548a", func := "estreat/estreatlaw09.DiskRuns", spec := "diskRuns", unfollowed := true, recurses := true, apart := false, narrowed := true }
def DiskRunsUptoSaid : Prop := diskRunsUptoRow.holds Try.pinned (OpenSpec.upto diskRunsSpec)

/-- 'estreatlaw09.DiskSynced', WHERE WHAT IT READS IS OF BULK AT MOST 1048576: true; the input reads as it did. -/
def diskSyncedUptoRow : OpenClaim := { program := "ythefefnbonidaaa", sum := "474e264d908463584fcfe4169882dcc8940fdfdb53cbd3448bcf41c204c4548a", func := "estreat/estreatlaw09.DiskSynced", spec := "diskSynced", unfollowed := true, recurses := true, apart := false, narrowed := true }
def DiskSyncedUptoSaid : Prop := diskSyncedUptoRow.holds Try.pinned (OpenSpec.upto diskSyncedSpec)

/-- 'estreatlaw09.DiskStops', WHERE WHAT IT READS IS OF BULK AT MOST 1048576: true; the input reads as it did. -/
def diskStopsUptoRow : OpenClaim := { program := "ythefefnbonidaaa", sum := "474e264d908463584fcfe4169882dcc8940fdfdb53cbd3448bcf41c204c4548a", func := "estreat/estreatlaw09.DiskStops", spec := "diskStops", unfollowed := true, recurses := true, apart := false, narrowed := true }
def DiskStopsUptoSaid : Prop := diskStopsUptoRow.holds Try.pinned (OpenSpec.upto diskStopsSpec)

/-- 'estreatlaw09.DiskNil', WHERE WHAT IT READS IS OF BULK AT MOST 1048576: true; the input reads as it did. -/
def diskNilUptoRow : OpenClaim := { program := "ythefefnbonidaaa", sum := "474e264d908463584fcfe4169882dcc8940fdfdb53cbd3448bcf41c204c4548a", func := "estreat/estreatlaw09.DiskNil", spec := "diskNil", unfollowed := true, recurses := true, apart := false, narrowed := true }
def DiskNilUptoSaid : Prop := diskNilUptoRow.holds Try.pinned (OpenSpec.upto diskNilSpec)

end Rows
end Go.Proofs.Ythefefnbonidaaa
