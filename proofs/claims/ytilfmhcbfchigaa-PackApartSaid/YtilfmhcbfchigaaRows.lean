/-
  No cell of these rows narrows 'for every input' (looked for: loops, veiled, ifaces, maps, wideKeys, modest, calm, conditions, laid).
  DERIVED. THE GIVEN ROWS OF THIS SEAT. 10 by the template 'for every input the law returns true; each argument reads behind the call as it read before'; 0 by the template 'total and deterministic' (their statements: YtilfmhcbfchigaaTotals.lean).
  GIVEN WITH THE SEED: the statements are not yours to turn. If you find one false, say at which input.
  Laid BY PROGRAM, IN A SANDBOX (cutbox-rows.mjs): the forced cells as the released guide's own fill.sh prints them over the translation 11fe55b211d0e56d… (all of the seat's roots in one cut). By AI agents, Wed Nov 11 2026. No macro, syntax, notation, axiom, sorry.
-/
import Derived.Test.YtilfmhcbfchigaaChecked
import GoSem.Claim
import GoSem.ClaimJoined
import GoSem.ClaimMapViews
import Derived.JoinedTies
import Derived.KernelRfl
namespace Go.Proofs.Ytilfmhcbfchigaa
/- THE CELL 'sum', in the pinned program and in every row, IS THE sha256 OF THE DUMP (.gsa) THAT YtilfmhcbfchigaaProg.lean LOADS. Nothing in Lean hashes anything: it is a label: what it is worth is what the hold of that sum in a sandbox is worth. -/
noncomputable def Try.pinned : Pinned := { name := "ytilfmhcbfchigaa", sum := "11fe55b211d0e56dd7d6d01fab2e396c1d9b85d77d89b1d97fd197272274afe8", checked := Try.checked }
namespace Rows
def none {H : Type} : Left H := { results := [], args := [] }

/-- 'estreatlaw01.PackNumbers': WHATEVER THE INPUT: true; the input reads as it did. -/
def packNumbersSpec : ChangeSpec := { name := "packNumbers", fn := fun _ => fun
  | [d1, d2] => { results := [.lit (.bool true)], args := [d1, d2] }
  | _ => none }
def packNumbersRow : OpenClaim := { program := "ytilfmhcbfchigaa", sum := "11fe55b211d0e56dd7d6d01fab2e396c1d9b85d77d89b1d97fd197272274afe8", func := "estreat/estreatlaw01.PackNumbers", spec := "packNumbers", apart := false }
def PackNumbersSaid : Prop := packNumbersRow.holds Try.pinned (OpenSpec.ofChange packNumbersSpec)

/-- ITS FALSE NEIGHBOUR: 'it returns false'. Refute it at one input. -/
def packNumbersWrong : ChangeSpec := { name := "packNumbers", fn := fun _ => fun
  | [d1, d2] => { results := [.lit (.bool false)], args := [d1, d2] }
  | _ => none }
def PackNumbersWrongFalsely : Prop := packNumbersRow.holds Try.pinned (OpenSpec.ofChange packNumbersWrong)

/-- 'estreatlaw01.PackValues': WHATEVER THE INPUT: true; the input reads as it did. -/
def packValuesSpec : ChangeSpec := { name := "packValues", fn := fun _ => fun
  | [d1, d2] => { results := [.lit (.bool true)], args := [d1, d2] }
  | _ => none }
def packValuesRow : OpenClaim := { program := "ytilfmhcbfchigaa", sum := "11fe55b211d0e56dd7d6d01fab2e396c1d9b85d77d89b1d97fd197272274afe8", func := "estreat/estreatlaw01.PackValues", spec := "packValues", apart := false }
def PackValuesSaid : Prop := packValuesRow.holds Try.pinned (OpenSpec.ofChange packValuesSpec)

/-- ITS FALSE NEIGHBOUR: 'it returns false'. Refute it at one input. -/
def packValuesWrong : ChangeSpec := { name := "packValues", fn := fun _ => fun
  | [d1, d2] => { results := [.lit (.bool false)], args := [d1, d2] }
  | _ => none }
def PackValuesWrongFalsely : Prop := packValuesRow.holds Try.pinned (OpenSpec.ofChange packValuesWrong)

/-- 'estreatlaw01.PackRises': WHATEVER THE INPUT: true; the input reads as it did. -/
def packRisesSpec : ChangeSpec := { name := "packRises", fn := fun _ => fun
  | [d1, d2] => { results := [.lit (.bool true)], args := [d1, d2] }
  | _ => none }
def packRisesRow : OpenClaim := { program := "ytilfmhcbfchigaa", sum := "11fe55b211d0e56dd7d6d01fab2e396c1d9b85d77d89b1d97fd197272274afe8", func := "estreat/estreatlaw01.PackRises", spec := "packRises", apart := false }
def PackRisesSaid : Prop := packRisesRow.holds Try.pinned (OpenSpec.ofChange packRisesSpec)

/-- ITS FALSE NEIGHBOUR: 'it returns false'. Refute it at one input. -/
def packRisesWrong : ChangeSpec := { name := "packRises", fn := fun _ => fun
  | [d1, d2] => { results := [.lit (.bool false)], args := [d1, d2] }
  | _ => none }
def PackRisesWrongFalsely : Prop := packRisesRow.holds Try.pinned (OpenSpec.ofChange packRisesWrong)

/-- 'estreatlaw01.PackFields': WHATEVER THE INPUT: true; the input reads as it did. -/
def packFieldsSpec : ChangeSpec := { name := "packFields", fn := fun _ => fun
  | [d1, d2, d3] => { results := [.lit (.bool true)], args := [d1, d2, d3] }
  | _ => none }
def packFieldsRow : OpenClaim := { program := "ytilfmhcbfchigaa", sum := "11fe55b211d0e56dd7d6d01fab2e396c1d9b85d77d89b1d97fd197272274afe8", func := "estreat/estreatlaw01.PackFields", spec := "packFields", apart := false }
def PackFieldsSaid : Prop := packFieldsRow.holds Try.pinned (OpenSpec.ofChange packFieldsSpec)

/-- ITS FALSE NEIGHBOUR: 'it returns false'. Refute it at one input. -/
def packFieldsWrong : ChangeSpec := { name := "packFields", fn := fun _ => fun
  | [d1, d2, d3] => { results := [.lit (.bool false)], args := [d1, d2, d3] }
  | _ => none }
def PackFieldsWrongFalsely : Prop := packFieldsRow.holds Try.pinned (OpenSpec.ofChange packFieldsWrong)

/-- 'estreatlaw01.PackGets': WHATEVER THE INPUT: true; the input reads as it did. -/
def packGetsSpec : ChangeSpec := { name := "packGets", fn := fun _ => fun
  | [d] => { results := [.lit (.bool true)], args := [d] }
  | _ => none }
def packGetsRow : OpenClaim := { program := "ytilfmhcbfchigaa", sum := "11fe55b211d0e56dd7d6d01fab2e396c1d9b85d77d89b1d97fd197272274afe8", func := "estreat/estreatlaw01.PackGets", spec := "packGets", apart := false }
def PackGetsSaid : Prop := packGetsRow.holds Try.pinned (OpenSpec.ofChange packGetsSpec)

/-- ITS FALSE NEIGHBOUR: 'it returns false'. Refute it at one input. -/
def packGetsWrong : ChangeSpec := { name := "packGets", fn := fun _ => fun
  | [d] => { results := [.lit (.bool false)], args := [d] }
  | _ => none }
def PackGetsWrongFalsely : Prop := packGetsRow.holds Try.pinned (OpenSpec.ofChange packGetsWrong)

/-- 'estreatlaw01.PackBack': WHATEVER THE INPUT: true; the input reads as it did. -/
def packBackSpec : ChangeSpec := { name := "packBack", fn := fun _ => fun
  | [d1, d2, d3] => { results := [.lit (.bool true)], args := [d1, d2, d3] }
  | _ => none }
def packBackRow : OpenClaim := { program := "ytilfmhcbfchigaa", sum := "11fe55b211d0e56dd7d6d01fab2e396c1d9b85d77d89b1d97fd197272274afe8", func := "estreat/estreatlaw01.PackBack", spec := "packBack", apart := false }
def PackBackSaid : Prop := packBackRow.holds Try.pinned (OpenSpec.ofChange packBackSpec)

/-- ITS FALSE NEIGHBOUR: 'it returns false'. Refute it at one input. -/
def packBackWrong : ChangeSpec := { name := "packBack", fn := fun _ => fun
  | [d1, d2, d3] => { results := [.lit (.bool false)], args := [d1, d2, d3] }
  | _ => none }
def PackBackWrongFalsely : Prop := packBackRow.holds Try.pinned (OpenSpec.ofChange packBackWrong)

/-- 'estreatlaw01.PackLays': WHATEVER THE INPUT: true; the input reads as it did. -/
def packLaysSpec : ChangeSpec := { name := "packLays", fn := fun _ => fun
  | [d] => { results := [.lit (.bool true)], args := [d] }
  | _ => none }
def packLaysRow : OpenClaim := { program := "ytilfmhcbfchigaa", sum := "11fe55b211d0e56dd7d6d01fab2e396c1d9b85d77d89b1d97fd197272274afe8", func := "estreat/estreatlaw01.PackLays", spec := "packLays", unfollowed := true, recurses := true, apart := false }
def PackLaysSaid : Prop := packLaysRow.holds Try.pinned (OpenSpec.ofChange packLaysSpec)

/-- ITS FALSE NEIGHBOUR: 'it returns false'. Refute it at one input. -/
def packLaysWrong : ChangeSpec := { name := "packLays", fn := fun _ => fun
  | [d] => { results := [.lit (.bool false)], args := [d] }
  | _ => none }
def PackLaysWrongFalsely : Prop := packLaysRow.holds Try.pinned (OpenSpec.ofChange packLaysWrong)

/-- 'estreatlaw01.PackReads': WHATEVER THE INPUT: true; the input reads as it did. -/
def packReadsSpec : ChangeSpec := { name := "packReads", fn := fun _ => fun
  | [d] => { results := [.lit (.bool true)], args := [d] }
  | _ => none }
def packReadsRow : OpenClaim := { program := "ytilfmhcbfchigaa", sum := "11fe55b211d0e56dd7d6d01fab2e396c1d9b85d77d89b1d97fd197272274afe8", func := "estreat/estreatlaw01.PackReads", spec := "packReads", unfollowed := true, recurses := true, apart := false }
def PackReadsSaid : Prop := packReadsRow.holds Try.pinned (OpenSpec.ofChange packReadsSpec)

/-- ITS FALSE NEIGHBOUR: 'it returns false'. Refute it at one input. -/
def packReadsWrong : ChangeSpec := { name := "packReads", fn := fun _ => fun
  | [d] => { results := [.lit (.bool false)], args := [d] }
  | _ => none }
def PackReadsWrongFalsely : Prop := packReadsRow.holds Try.pinned (OpenSpec.ofChange packReadsWrong)

/-- 'estreatlaw01.PackApart': WHATEVER THE INPUT: true; the input reads as it did. -/
def packApartSpec : ChangeSpec := { name := "packApart", fn := fun _ => fun
  | [d1, d2] => { results := [.lit (.bool true)], args := [d1, d2] }
  | _ => none }
def packApartRow : OpenClaim := { program := "ytilfmhcbfchigaa", sum := "11fe55b211d0e56dd7d6d01fab2e396c1d9b85d77d89b1d97fd197272274afe8", func := "estreat/estreatlaw01.PackApart", spec := "packApart", unfollowed := true, recurses := true, apart := false }
def PackApartSaid : Prop := packApartRow.holds Try.pinned (OpenSpec.ofChange packApartSpec)

/-- ITS FALSE NEIGHBOUR: 'it returns false'. Refute it at one input. -/
def packApartWrong : ChangeSpec := { name := "packApart", fn := fun _ => fun
  | [d1, d2] => { results := [.lit (.bool false)], args := [d1, d2] }
  | _ => none }
def PackApartWrongFalsely : Prop := packApartRow.holds Try.pinned (OpenSpec.ofChange packApartWrong)

/-- 'estreatlaw01.PackEnds': WHATEVER THE INPUT: true; the input reads as it did. -/
def packEndsSpec : ChangeSpec := { name := "packEnds", fn := fun _ => fun
  | [d1, d2] => { results := [.lit (.bool true)], args := [d1, d2] }
  | _ => none }
def packEndsRow : OpenClaim := { program := "ytilfmhcbfchigaa", sum := "11fe55b211d0e56dd7d6d01fab2e396c1d9b85d77d89b1d97fd197272274afe8", func := "estreat/estreatlaw01.PackEnds", spec := "packEnds", unfollowed := true, recurses := true, apart := false }
def PackEndsSaid : Prop := packEndsRow.holds Try.pinned (OpenSpec.ofChange packEndsSpec)

/-- ITS FALSE NEIGHBOUR: 'it returns false'. Refute it at one input. -/
def packEndsWrong : ChangeSpec := { name := "packEnds", fn := fun _ => fun
  | [d1, d2] => { results := [.lit (.bool false)], args := [d1, d2] }
  | _ => none }
def PackEndsWrongFalsely : Prop := packEndsRow.holds Try.pinned (OpenSpec.ofChange packEndsWrong)

/- THE SECOND FORM. 'bulk': how many values and letters a reading holds, each counted each time it is reached (what is shared counts as often as it is met; a slice's spare places count too). A statement '..UptoSaid' is the law's where the arguments, and the package variables that the reading takes, are together of bulk at most 1048576: NARROWER than '..Said'. Prove '..Said' where nothing that the law and all that it calls make is longer than what came in: it says more and counts as full. Else prove '..UptoSaid'. A law counts once. -/
mutual
def uptoBulk {H : Type} : DataW H → Nat
  | .lit (.string bytes) => bytes.length + 1
  | .lit _ => 1
  | .nil => 1
  | .ptr d => uptoBulk d + 1
  | .slice elems spare => uptoBulkAll elems + uptoBulkAll spare + 1
  | .agg parts => uptoBulkAll parts + 1
  | .iface _ d => uptoBulk d + 1
  | .map entries => uptoBulkEntries entries + 1
  | .held _ => 1
def uptoBulkAll {H : Type} : List (DataW H) → Nat
  | [] => 0
  | d :: r => uptoBulk d + uptoBulkAll r
def uptoBulkEntries {H : Type} : List (Lit × DataW H) → Nat
  | [] => 0
  | x :: r => uptoBulkEntry x + uptoBulkEntries r
def uptoBulkEntry {H : Type} : Lit × DataW H → Nat
  | (.string bytes, d) => bytes.length + uptoBulk d + 1
  | (_, d) => uptoBulk d + 1
 end
def uptoSmall : (H : Type) → List (DataW H) → Bool := fun _ ds => decide (uptoBulkAll ds ≤ 1048576)
def OpenSpec.upto (s : _root_.Go.ChangeSpec) : _root_.Go.OpenSpec := { _root_.Go.OpenSpec.ofChange s with cond := some uptoSmall }

/-- 'estreatlaw01.PackNumbers', WHERE WHAT IT READS IS OF BULK AT MOST 1048576: true; the input reads as it did. -/
def packNumbersUptoRow : OpenClaim := { program := "ytilfmhcbfchigaa", sum := "11fe55b211d0e56dd7d6d01fab2e396c1d9b85d77d89b1d97fd197272274afe8", func := "estreat/estreatlaw01.PackNumbers", spec := "packNumbers", apart := false, narrowed := true }
def PackNumbersUptoSaid : Prop := packNumbersUptoRow.holds Try.pinned (OpenSpec.upto packNumbersSpec)

/-- 'estreatlaw01.PackValues', WHERE WHAT IT READS IS OF BULK AT MOST 1048576: true; the input reads as it did. -/
def packValuesUptoRow : OpenClaim := { program := "ytilfmhcbfchigaa", sum := "11fe55b211d0e56dd7d6d01fab2e396c1d9b85d77d89b1d97fd197272274afe8", func := "estreat/estreatlaw01.PackValues", spec := "packValues", apart := false, narrowed := true }
def PackValuesUptoSaid : Prop := packValuesUptoRow.holds Try.pinned (OpenSpec.upto packValuesSpec)

/-- 'estreatlaw01.PackRises', WHERE WHAT IT READS IS OF BULK AT MOST 1048576: true; the input reads as it did. -/
def packRisesUptoRow : OpenClaim := { program := "ytilfmhcbfchigaa", sum := "11fe55b211d0e56dd7d6d01fab2e396c1d9b85d77d89b1d97fd197272274afe8", func := "estreat/estreatlaw01.PackRises", spec := "packRises", apart := false, narrowed := true }
def PackRisesUptoSaid : Prop := packRisesUptoRow.holds Try.pinned (OpenSpec.upto packRisesSpec)

/-- 'estreatlaw01.PackFields', WHERE WHAT IT READS IS OF BULK AT MOST 1048576: true; the input reads as it did. -/
def packFieldsUptoRow : OpenClaim := { program := "ytilfmhcbfchigaa", sum := "11fe55b211d0e56dd7d6d01fab2e396c1d9b85d77d89b1d97fd197272274afe8", func := "estreat/estreatlaw01.PackFields", spec := "packFields", apart := false, narrowed := true }
def PackFieldsUptoSaid : Prop := packFieldsUptoRow.holds Try.pinned (OpenSpec.upto packFieldsSpec)

/-- 'estreatlaw01.PackGets', WHERE WHAT IT READS IS OF BULK AT MOST 1048576: true; the input reads as it did. -/
def packGetsUptoRow : OpenClaim := { program := "ytilfmhcbfchigaa", sum := "11fe55b211d0e56dd7d6d01fab2e396c1d9b85d77d89b1d97fd197272274afe8", func := "estreat/estreatlaw01.PackGets", spec := "packGets", apart := false, narrowed := true }
def PackGetsUptoSaid : Prop := packGetsUptoRow.holds Try.pinned (OpenSpec.upto packGetsSpec)

/-- 'estreatlaw01.PackBack', WHERE WHAT IT READS IS OF BULK AT MOST 1048576: true; the input reads as it did. -/
def packBackUptoRow : OpenClaim := { program := "ytilfmhcbfchigaa", sum := "11fe55b211d0e56dd7d6d01fab2e396c1d9b85d77d89b1d97fd197272274afe8", func := "estreat/estreatlaw01.PackBack", spec := "packBack", apart := false, narrowed := true }
def PackBackUptoSaid : Prop := packBackUptoRow.holds Try.pinned (OpenSpec.upto packBackSpec)

/-- 'estreatlaw01.PackLays', WHERE WHAT IT READS IS OF BULK AT MOST 1048576: true; the input reads as it did. -/
def packLaysUptoRow : OpenClaim := { program := "ytilfmhcbfchigaa", sum := "11fe55b211d0e56dd7d6d01fab2e396c1d9b85d77d89b1d97fd197272274afe8", func := "estreat/estreatlaw01.PackLays", spec := "packLays", unfollowed := true, recurses := true, apart := false, narrowed := true }
def PackLaysUptoSaid : Prop := packLaysUptoRow.holds Try.pinned (OpenSpec.upto packLaysSpec)

/-- 'estreatlaw01.PackReads', WHERE WHAT IT READS IS OF BULK AT MOST 1048576: true; the input reads as it did. -/
def packReadsUptoRow : OpenClaim := { program := "ytilfmhcbfchigaa", sum := "11fe55b211d0e56dd7d6d01fab2e396c1d9b85d77d89b1d97fd197272274afe8", func := "estreat/estreatlaw01.PackReads", spec := "packReads", unfollowed := true, recurses := true, apart := false, narrowed := true }
def PackReadsUptoSaid : Prop := packReadsUptoRow.holds Try.pinned (OpenSpec.upto packReadsSpec)

/-- 'estreatlaw01.PackApart', WHERE WHAT IT READS IS OF BULK AT MOST 1048576: true; the input reads as it did. -/
def packApartUptoRow : OpenClaim := { program := "ytilfmhcbfchigaa", sum := "11fe55b211d0e56dd7d6d01fab2e396c1d9b85d77d89b1d97fd197272274afe8", func := "estreat/estreatlaw01.PackApart", spec := "packApart", unfollowed := true, recurses := true, apart := false, narrowed := true }
def PackApartUptoSaid : Prop := packApartUptoRow.holds Try.pinned (OpenSpec.upto packApartSpec)

/-- 'estreatlaw01.PackEnds', WHERE WHAT IT READS IS OF BULK AT MOST 1048576: true; the input reads as it did. -/
def packEndsUptoRow : OpenClaim := { program := "ytilfmhcbfchigaa", sum := "11fe55b211d0e56dd7d6d01fab2e396c1d9b85d77d89b1d97fd197272274afe8", func := "estreat/estreatlaw01.PackEnds", spec := "packEnds", unfollowed := true, recurses := true, apart := false, narrowed := true }
def PackEndsUptoSaid : Prop := packEndsUptoRow.holds Try.pinned (OpenSpec.upto packEndsSpec)

end Rows
end Go.Proofs.Ytilfmhcbfchigaa
