/-
  No cell of these rows narrows 'for every input' (looked for: loops, veiled, ifaces, maps, wideKeys, modest, calm, conditions, laid).
  DERIVED. THE GIVEN ROWS OF THIS SEAT. 7 by the template 'for every input the law returns true; each argument reads behind the call as it read before'; 0 by the template 'total and deterministic' (their statements: YtaikibmgchjbdaaTotals.lean).
  GIVEN WITH THE SEED: the statements are not yours to turn. If you find one false, say at which input.
  Laid BY PROGRAM, IN A SANDBOX (cutbox-rows.mjs): the forced cells as the released guide's own fill.sh prints them over the translation 061c9f7d4740f23a… (all of the seat's roots in one cut). By AI agents, Wed Nov 11 2026. No macro, syntax, notation, axiom, sorry.
-/
import Derived.Test.YtaikibmgchjbdaaChecked
import GoSem.Claim
import GoSem.ClaimJoined
import GoSem.ClaimMapViews
import Derived.JoinedTies
import Derived.KernelRfl
namespace Go.Proofs.Ytaikibmgchjbdaa
/- THE CELL 'sum', in the pinned program and in every row, IS THE sha256 OF THE DUMP (.gsa) THAT YtaikibmgchjbdaaProg.lean LOADS. Nothing in Lean hashes anything: it is a label: what it is worth is what the hold of that sum in a sandbox is worth. -/
noncomputable def Try.pinned : Pinned := { name := "ytaikibmgchjbdaa", sum := "061c9f7d4740f23a3189409d5b2560c9759c1a74feaa8e713412a5a7cd3f926f", checked := Try.checked }
namespace Rows
def none {H : Type} : Left H := { results := [], args := [] }

/-- 'estreatlaw12.ClaimsEnough': WHATEVER THE INPUT: true; the input reads as it did. -/
def claimsEnoughSpec : ChangeSpec := { name := "claimsEnough", fn := fun _ => fun
  | [d1, d2, d3, d4] => { results := [.lit (.bool true)], args := [d1, d2, d3, d4] }
  | _ => none }
def claimsEnoughRow : OpenClaim := { program := "ytaikibmgchjbdaa", sum := "061c9f7d4740f23a3189409d5b2560c9759c1a74feaa8e713412a5a7cd3f926f", func := "estreat/estreatlaw12.ClaimsEnough", spec := "claimsEnough", inPlace := ["slices.overlaps[estreat/api.Addr]"], unfollowed := true, recurses := true, plainKeys := false, apart := false }
def ClaimsEnoughSaid : Prop := claimsEnoughRow.holds Try.pinned (OpenSpec.ofChange claimsEnoughSpec)

/-- ITS FALSE NEIGHBOUR: 'it returns false'. Refute it at one input. -/
def claimsEnoughWrong : ChangeSpec := { name := "claimsEnough", fn := fun _ => fun
  | [d1, d2, d3, d4] => { results := [.lit (.bool false)], args := [d1, d2, d3, d4] }
  | _ => none }
def ClaimsEnoughWrongFalsely : Prop := claimsEnoughRow.holds Try.pinned (OpenSpec.ofChange claimsEnoughWrong)

/-- 'estreatlaw12.ClaimsMeet': WHATEVER THE INPUT: true; the input reads as it did. -/
def claimsMeetSpec : ChangeSpec := { name := "claimsMeet", fn := fun _ => fun
  | [d1, d2, d3, d4] => { results := [.lit (.bool true)], args := [d1, d2, d3, d4] }
  | _ => none }
def claimsMeetRow : OpenClaim := { program := "ytaikibmgchjbdaa", sum := "061c9f7d4740f23a3189409d5b2560c9759c1a74feaa8e713412a5a7cd3f926f", func := "estreat/estreatlaw12.ClaimsMeet", spec := "claimsMeet", inPlace := ["slices.overlaps[estreat/api.Addr]"], unfollowed := true, recurses := true, plainKeys := false, apart := false }
def ClaimsMeetSaid : Prop := claimsMeetRow.holds Try.pinned (OpenSpec.ofChange claimsMeetSpec)

/-- ITS FALSE NEIGHBOUR: 'it returns false'. Refute it at one input. -/
def claimsMeetWrong : ChangeSpec := { name := "claimsMeet", fn := fun _ => fun
  | [d1, d2, d3, d4] => { results := [.lit (.bool false)], args := [d1, d2, d3, d4] }
  | _ => none }
def ClaimsMeetWrongFalsely : Prop := claimsMeetRow.holds Try.pinned (OpenSpec.ofChange claimsMeetWrong)

/-- 'estreatlaw12.ClaimsMore': WHATEVER THE INPUT: true; the input reads as it did. -/
def claimsMoreSpec : ChangeSpec := { name := "claimsMore", fn := fun _ => fun
  | [d1, d2, d3, d4, d5] => { results := [.lit (.bool true)], args := [d1, d2, d3, d4, d5] }
  | _ => none }
def claimsMoreRow : OpenClaim := { program := "ytaikibmgchjbdaa", sum := "061c9f7d4740f23a3189409d5b2560c9759c1a74feaa8e713412a5a7cd3f926f", func := "estreat/estreatlaw12.ClaimsMore", spec := "claimsMore", inPlace := ["slices.overlaps[estreat/api.Addr]"], unfollowed := true, recurses := true, plainKeys := false, apart := false }
def ClaimsMoreSaid : Prop := claimsMoreRow.holds Try.pinned (OpenSpec.ofChange claimsMoreSpec)

/-- ITS FALSE NEIGHBOUR: 'it returns false'. Refute it at one input. -/
def claimsMoreWrong : ChangeSpec := { name := "claimsMore", fn := fun _ => fun
  | [d1, d2, d3, d4, d5] => { results := [.lit (.bool false)], args := [d1, d2, d3, d4, d5] }
  | _ => none }
def ClaimsMoreWrongFalsely : Prop := claimsMoreRow.holds Try.pinned (OpenSpec.ofChange claimsMoreWrong)

/-- 'estreatlaw12.ClaimsRise': WHATEVER THE INPUT: true; the input reads as it did. -/
def claimsRiseSpec : ChangeSpec := { name := "claimsRise", fn := fun _ => fun
  | [d1, d2] => { results := [.lit (.bool true)], args := [d1, d2] }
  | _ => none }
def claimsRiseRow : OpenClaim := { program := "ytaikibmgchjbdaa", sum := "061c9f7d4740f23a3189409d5b2560c9759c1a74feaa8e713412a5a7cd3f926f", func := "estreat/estreatlaw12.ClaimsRise", spec := "claimsRise", inPlace := ["slices.overlaps[estreat/api.Addr]"], unfollowed := true, recurses := true, plainKeys := false, apart := false }
def ClaimsRiseSaid : Prop := claimsRiseRow.holds Try.pinned (OpenSpec.ofChange claimsRiseSpec)

/-- ITS FALSE NEIGHBOUR: 'it returns false'. Refute it at one input. -/
def claimsRiseWrong : ChangeSpec := { name := "claimsRise", fn := fun _ => fun
  | [d1, d2] => { results := [.lit (.bool false)], args := [d1, d2] }
  | _ => none }
def ClaimsRiseWrongFalsely : Prop := claimsRiseRow.holds Try.pinned (OpenSpec.ofChange claimsRiseWrong)

/-- 'estreatlaw12.ClaimsRecords': WHATEVER THE INPUT: true; the input reads as it did. -/
def claimsRecordsSpec : ChangeSpec := { name := "claimsRecords", fn := fun _ => fun
  | [d1, d2, d3, d4] => { results := [.lit (.bool true)], args := [d1, d2, d3, d4] }
  | _ => none }
def claimsRecordsRow : OpenClaim := { program := "ytaikibmgchjbdaa", sum := "061c9f7d4740f23a3189409d5b2560c9759c1a74feaa8e713412a5a7cd3f926f", func := "estreat/estreatlaw12.ClaimsRecords", spec := "claimsRecords", inPlace := ["slices.overlaps[estreat/api.Claim]"], unfollowed := true, recurses := true, plainKeys := false, apart := false }
def ClaimsRecordsSaid : Prop := claimsRecordsRow.holds Try.pinned (OpenSpec.ofChange claimsRecordsSpec)

/-- ITS FALSE NEIGHBOUR: 'it returns false'. Refute it at one input. -/
def claimsRecordsWrong : ChangeSpec := { name := "claimsRecords", fn := fun _ => fun
  | [d1, d2, d3, d4] => { results := [.lit (.bool false)], args := [d1, d2, d3, d4] }
  | _ => none }
def ClaimsRecordsWrongFalsely : Prop := claimsRecordsRow.holds Try.pinned (OpenSpec.ofChange claimsRecordsWrong)

/-- 'estreatlaw12.ClaimsKeeps': WHATEVER THE INPUT: true; the input reads as it did. -/
def claimsKeepsSpec : ChangeSpec := { name := "claimsKeeps", fn := fun _ => fun
  | [d1, d2] => { results := [.lit (.bool true)], args := [d1, d2] }
  | _ => none }
def claimsKeepsRow : OpenClaim := { program := "ytaikibmgchjbdaa", sum := "061c9f7d4740f23a3189409d5b2560c9759c1a74feaa8e713412a5a7cd3f926f", func := "estreat/estreatlaw12.ClaimsKeeps", spec := "claimsKeeps", inPlace := ["slices.overlaps[estreat/api.Claim]"], unfollowed := true, recurses := true, plainKeys := false, apart := false }
def ClaimsKeepsSaid : Prop := claimsKeepsRow.holds Try.pinned (OpenSpec.ofChange claimsKeepsSpec)

/-- ITS FALSE NEIGHBOUR: 'it returns false'. Refute it at one input. -/
def claimsKeepsWrong : ChangeSpec := { name := "claimsKeeps", fn := fun _ => fun
  | [d1, d2] => { results := [.lit (.bool false)], args := [d1, d2] }
  | _ => none }
def ClaimsKeepsWrongFalsely : Prop := claimsKeepsRow.holds Try.pinned (OpenSpec.ofChange claimsKeepsWrong)

/-- 'estreatlaw12.ClaimsOne': WHATEVER THE INPUT: true; the input reads as it did. -/
def claimsOneSpec : ChangeSpec := { name := "claimsOne", fn := fun _ => fun
  | [d1, d2, d3] => { results := [.lit (.bool true)], args := [d1, d2, d3] }
  | _ => none }
def claimsOneRow : OpenClaim := { program := "ytaikibmgchjbdaa", sum := "061c9f7d4740f23a3189409d5b2560c9759c1a74feaa8e713412a5a7cd3f926f", func := "estreat/estreatlaw12.ClaimsOne", spec := "claimsOne", inPlace := ["slices.overlaps[estreat/api.Claim]", "slices.overlaps[estreat/api.Addr]"], unfollowed := true, recurses := true, plainKeys := false, apart := false }
def ClaimsOneSaid : Prop := claimsOneRow.holds Try.pinned (OpenSpec.ofChange claimsOneSpec)

/-- ITS FALSE NEIGHBOUR: 'it returns false'. Refute it at one input. -/
def claimsOneWrong : ChangeSpec := { name := "claimsOne", fn := fun _ => fun
  | [d1, d2, d3] => { results := [.lit (.bool false)], args := [d1, d2, d3] }
  | _ => none }
def ClaimsOneWrongFalsely : Prop := claimsOneRow.holds Try.pinned (OpenSpec.ofChange claimsOneWrong)

/- THE SECOND FORM. 'bulk': how many values and letters a reading holds, each counted each time it is reached (what is shared counts as often as it is met; a slice's spare places count too). A statement '..UptoSaid' is the law's where the arguments, and the package variables that the reading takes, are together of bulk at most 1048576: NARROWER than '..Said'. Prove '..Said' where nothing that the law and all that it calls make is longer than what came in: it says more and counts as full. Else prove '..UptoSaid'. A law counts once. -/
mutual
def uptoBulk {H : Type} : DataW H → Nat
  | .lit (.string bytes) => bytes.length + 1
  | .lit _ => 1
  | .nil => 1
  | .ptr d => uptoBulk d + 1
  | .slice elems spare => uptoBulkAll elems + uptoBulkAll spare + 1
  | .agg parts => uptoBulkAll parts + 1
  | .iface _ d => uptoBulk d + 1
  | .map entries => uptoBulkEntries entries + 1
  | .held _ => 1
def uptoBulkAll {H : Type} : List (DataW H) → Nat
  | [] => 0
  | d :: r => uptoBulk d + uptoBulkAll r
def uptoBulkEntries {H : Type} : List (Lit × DataW H) → Nat
  | [] => 0
  | x :: r => uptoBulkEntry x + uptoBulkEntries r
def uptoBulkEntry {H : Type} : Lit × DataW H → Nat
  | (.string bytes, d) => bytes.length + uptoBulk d + 1
  | (_, d) => uptoBulk d + 1
 end
def uptoSmall : (H : Type) → List (DataW H) → Bool := fun _ ds => decide (uptoBulkAll ds ≤ 1048576)
def OpenSpec.upto (s : _root_.Go.ChangeSpec) : _root_.Go.OpenSpec := { _root_.Go.OpenSpec.ofChange s with cond := some uptoSmall }

/-- 'estreatlaw12.ClaimsEnough', WHERE WHAT IT READS IS OF BULK AT MOST 1048576: true; the input reads as it did. -/
def claimsEnoughUptoRow : OpenClaim := { program := "ytaikibmgchjbdaa", sum := "061c9f7d4740f23a3189409d5b2560c9759c1a74feaa8e713412a5a7cd3f926f", func := "estreat/estreatlaw12.ClaimsEnough", spec := "claimsEnough", inPlace := ["slices.overlaps[estreat/api.Addr]"], unfollowed := true, recurses := true, plainKeys := false, apart := false, narrowed := true }
def ClaimsEnoughUptoSaid : Prop := claimsEnoughUptoRow.holds Try.pinned (OpenSpec.upto claimsEnoughSpec)

/-- 'estreatlaw12.ClaimsMeet', WHERE WHAT IT READS IS OF BULK AT MOST 1048576: true; the input reads as it did. -/
def claimsMeetUptoRow : OpenClaim := { program := "ytaikibmgchjbdaa", sum := "061c9f7d4740f23a3189409d5b2560c9759c1a74feaa8e713412a5a7cd3f926f", func := "estreat/estreatlaw12.ClaimsMeet", spec := "claimsMeet", inPlace := ["slices.overlaps[estreat/api.Addr]"], unfollowed := true, recurses := true, plainKeys := false, apart := false, narrowed := true }
def ClaimsMeetUptoSaid : Prop := claimsMeetUptoRow.holds Try.pinned (OpenSpec.upto claimsMeetSpec)

/-- 'estreatlaw12.ClaimsMore', WHERE WHAT IT READS IS OF BULK AT MOST 1048576: true; the input reads as it did. -/
def claimsMoreUptoRow : OpenClaim := { program := "ytaikibmgchjbdaa", sum := "061c9f7d4740f23a3189409d5b2560c9759c1a74feaa8e713412a5a7cd3f926f", func := "estreat/estreatlaw12.ClaimsMore", spec := "claimsMore", inPlace := ["slices.overlaps[estreat/api.Addr]"], unfollowed := true, recurses := true, plainKeys := false, apart := false, narrowed := true }
def ClaimsMoreUptoSaid : Prop := claimsMoreUptoRow.holds Try.pinned (OpenSpec.upto claimsMoreSpec)

/-- 'estreatlaw12.ClaimsRise', WHERE WHAT IT READS IS OF BULK AT MOST 1048576: true; the input reads as it did. -/
def claimsRiseUptoRow : OpenClaim := { program := "ytaikibmgchjbdaa", sum := "061c9f7d4740f23a3189409d5b2560c9759c1a74feaa8e713412a5a7cd3f926f", func := "estreat/estreatlaw12.ClaimsRise", spec := "claimsRise", inPlace := ["slices.overlaps[estreat/api.Addr]"], unfollowed := true, recurses := true, plainKeys := false, apart := false, narrowed := true }
def ClaimsRiseUptoSaid : Prop := claimsRiseUptoRow.holds Try.pinned (OpenSpec.upto claimsRiseSpec)

/-- 'estreatlaw12.ClaimsRecords', WHERE WHAT IT READS IS OF BULK AT MOST 1048576: true; the input reads as it did. -/
def claimsRecordsUptoRow : OpenClaim := { program := "ytaikibmgchjbdaa", sum := "061c9f7d4740f23a3189409d5b2560c9759c1a74feaa8e713412a5a7cd3f926f", func := "estreat/estreatlaw12.ClaimsRecords", spec := "claimsRecords", inPlace := ["slices.overlaps[estreat/api.Claim]"], unfollowed := true, recurses := true, plainKeys := false, apart := false, narrowed := true }
def ClaimsRecordsUptoSaid : Prop := claimsRecordsUptoRow.holds Try.pinned (OpenSpec.upto claimsRecordsSpec)

/-- 'estreatlaw12.ClaimsKeeps', WHERE WHAT IT READS IS OF BULK AT MOST 1048576: true; the input reads as it did. -/
def claimsKeepsUptoRow : OpenClaim := { program := "ytaikibmgchjbdaa", sum := "061c9f7d4740f23a3189409d5b2560c9759c1a74feaa8e713412a5a7cd3f926f", func := "estreat/estreatlaw12.ClaimsKeeps", spec := "claimsKeeps", inPlace := ["slices.overlaps[estreat/api.Claim]"], unfollowed := true, recurses := true, plainKeys := false, apart := false, narrowed := true }
def ClaimsKeepsUptoSaid : Prop := claimsKeepsUptoRow.holds Try.pinned (OpenSpec.upto claimsKeepsSpec)

/-- 'estreatlaw12.ClaimsOne', WHERE WHAT IT READS IS OF BULK AT MOST 1048576: true; the input reads as it did. -/
def claimsOneUptoRow : OpenClaim := { program := "ytaikibmgchjbdaa", sum := "061c9f7d4740f23a3189409d5b2560c9759c1a74feaa8e713412a5a7cd3f926f", func := "estreat/estreatlaw12.ClaimsOne", spec := "claimsOne", inPlace := ["slices.overlaps[estreat/api.Claim]", "slices.overlaps[estreat/api.Addr]"], unfollowed := true, recurses := true, plainKeys := false, apart := false, narrowed := true }
def ClaimsOneUptoSaid : Prop := claimsOneUptoRow.holds Try.pinned (OpenSpec.upto claimsOneSpec)

end Rows
end Go.Proofs.Ytaikibmgchjbdaa
