/- The law DeskParses: for every input the function returns true, and what came in reads behind the call as before; its condition: the listed package-level variables start as the program's text lays them (the card ties that). -/
import Derived.Test.YtgemhcpenicpmaaDoorRows
import Derived.Test.YtgemhcpenicpmaaDoorCards
import Derived.Test.YtgemhcpenicpmaaDoorTie
import Derived.Test.YtgemhcpenicpmaaDoorDeA
import Derived.WalkKit
import Derived.ProofKit
import Derived.OpenShut
import Derived.ShutString
import Derived.ChangeOld
import Derived.Below
import Derived.SizedLaws
import Derived.Carry
import Derived.LaidMore
import Derived.Stop.Joined
import Derived.SevenTiedAt
namespace Go.Proofs.YtgemhcpenicpmaaDoor.deskParses
open Go.ChangeShapes Go.WideShapes Go.ChangeAt Go.RowKit
open Go.ChangeMaps (open_string shut_string)
set_option linter.unusedVariables false
theorem own : ownKnob Tryd.prog.godebug = none := by kernel_rfl
theorem laidOut : laidOutB Tryd.prog = true := by kernel_rfl
abbrev shape0 : List Go.Abs.CSh := [.str]
theorem agg0 : Go.Abs.aggB Tryd.prog 9 = some false := by kernel_rfl
/-- what the row lists -/
abbrev laid : List (String × DataW Unit) := [("math/bits.deBruijn32tab", Rows.laid_math_bits_deBruijn32tab), ("math/bits.deBruijn64tab", Rows.laid_math_bits_deBruijn64tab), ("internal/strconv.uint64pow10", Rows.laid_internal_strconv_uint64pow10), ("strconv.ErrRange", Rows.laid_strconv_ErrRange), ("strconv.ErrSyntax", Rows.laid_strconv_ErrSyntax)]
theorem gN0 : Tryd.prog.globalNamed "math/bits.deBruijn32tab" = some 4 := by kernel_rfl
theorem gT0 : (Tryd.prog.globals[4]?).map (·.type) = some 97 := by kernel_rfl
theorem gN1 : Tryd.prog.globalNamed "math/bits.deBruijn64tab" = some 5 := by kernel_rfl
theorem gT1 : (Tryd.prog.globals[5]?).map (·.type) = some 98 := by kernel_rfl
theorem gN2 : Tryd.prog.globalNamed "internal/strconv.uint64pow10" = some 3 := by kernel_rfl
theorem gT2 : (Tryd.prog.globals[3]?).map (·.type) = some 93 := by kernel_rfl
def nums2 : List Int := Go.Abs.Tryd.glob3.map fun
  | .int _ n => n
  | _ => 0
theorem gA2 : Go.Abs.Tryd.glob3 = Go.Abs.ints .u64 nums2 := by kernel_rfl
theorem gD2 : (Rows.laid_internal_strconv_uint64pow10 : DataW Unit) = .agg (Go.Abs.lits .u64 nums2) := by kernel_rfl
theorem uC2 : Tryd.prog.cellsOf 93 = 20 := by kernel_rfl
theorem uT2 : Tryd.prog.underlying 93 = some (.array 20 75) := by kernel_rfl
theorem uE2 : Tryd.prog.underlying 75 = some (.int .u64) := by kernel_rfl
theorem cE2 : Tryd.prog.cellsOf 75 = 1 := by kernel_rfl
theorem gN3 : Tryd.prog.globalNamed "strconv.ErrRange" = some 2 := by kernel_rfl
theorem gT3 : (Tryd.prog.globals[2]?).map (·.type) = some 56 := by kernel_rfl
theorem gN4 : Tryd.prog.globalNamed "strconv.ErrSyntax" = some 1 := by kernel_rfl
theorem gT4 : (Tryd.prog.globals[1]?).map (·.type) = some 56 := by kernel_rfl
/-- what the condition gives the machine -/
theorem gok {W : World} (h : laidMetH Tryd.prog laid W) : Go.Abs.GlobOK (fun b => b < W.heap.size) W := by
  rw [MakeChecks.laidMetH_plain _ _ _ (by kernel_rfl)] at h
  obtain ⟨ps, ⟨g0, t0, cs0, f0, p0, q0, hg0, ht0, hv0, hd0, ⟨g1, t1, cs1, f1, p1, q1, hg1, ht1, hv1, hd1, ⟨g2, t2, cs2, f2, p2, q2, hg2, ht2, hv2, hd2, ⟨g3, t3, cs3, f3, p3, q3, hg3, ht3, hv3, hd3, ⟨g4, t4, cs4, f4, p4, q4, hg4, ht4, hv4, hd4, _, _⟩, _⟩, _⟩, _⟩, _⟩, _, _⟩ := h
  obtain rfl := Option.some.inj (gN0.symm.trans hg0)
  obtain rfl := Option.some.inj (gT0.symm.trans ht0)
  obtain rfl := Option.some.inj (gN1.symm.trans hg1)
  obtain rfl := Option.some.inj (gT1.symm.trans ht1)
  obtain rfl := Option.some.inj (gN2.symm.trans hg2)
  obtain rfl := Option.some.inj (gT2.symm.trans ht2)
  obtain rfl := Option.some.inj (gN3.symm.trans hg3)
  obtain rfl := Option.some.inj (gT3.symm.trans ht3)
  obtain rfl := Option.some.inj (gN4.symm.trans hg4)
  obtain rfl := Option.some.inj (gT4.symm.trans ht4)
  refine Go.Abs.GlobOK.of_all fun p hp => ?_
  have hp' : p ∈ [(1, Go.Abs.Tryd.glob1), (2, Go.Abs.Tryd.glob2), (3, Go.Abs.Tryd.glob3)] := hp
  simp only [List.mem_cons, List.not_mem_nil, or_false] at hp'
  rcases hp' with rfl | rfl | rfl
  · show Go.Abs.Glob1OK _ W 1 Go.Abs.Tryd.glob1
    exact Go.Abs.glob_ifc gN4 Tryd.underlying56 hv4 hd4
  · show Go.Abs.Glob1OK _ W 2 Go.Abs.Tryd.glob2
    exact Go.Abs.glob_ifc gN3 Tryd.underlying56 hv3 hd3
  · show Go.Abs.Glob1OK _ W 3 Go.Abs.Tryd.glob3
    rw [gA2]
    exact Go.Abs.glob_arr nums2 gN2 uT2 uE2 cE2 uC2 hv2 (by rw [← gD2]; exact hd2)
/-- the door's own heap meets the condition -/
theorem door_met (os : Os) (args : Array Value) : laidMetH Tryd.prog laid ((World.doorLaid Tryd.prog 62 os).forCall (fun _ _ => 0) ⟨#[], args, []⟩).memory :=
  laidMetH_of_parts3 (fuel := 8) (laidMet_of_run' 8 (by kernel_rfl) (by kernel_rfl)) (by kernel_rfl) (by kernel_rfl)
set_option maxRecDepth 100000 in
theorem lifted (os : Os) (started : os.Started) (H : Type) (enc : TypeId × Value → H) :
    ReturnsInHanded {} Tryd.checked os 3 .any (fun w args => (Rows.deskParsesSpec.pre enc Tryd.prog Tryd.f3 [] false w args ∧ laidMetH Tryd.prog laid w) ∧ sizedMet enc Tryd.prog Tryd.f3 (OpenSpec.ofChange Rows.deskParsesSpec) false w args) (Rows.deskParsesSpec.post enc Tryd.prog Tryd.f3 false true false false) := by
  refine returnsInHanded_of_change_and (C := Tryd.checked) (X := fun w _ => laidMetH Tryd.prog laid w) (fun _ _ _ hh h => h.of_heap hh) own started (by kernel_rfl) Tryd.func3
    (ChangeSpec.witness_shaped (enc := enc) (C := Tryd.checked) (os := os) (X := fun w _ => laidMetH Tryd.prog laid w) false (World.doorLaid Tryd.prog 62 os) #[.string ByteArray.empty] 8 rfl (World.shaped_of_RefB (by kernel_rfl) (by kernel_rfl)) (by kernel_rfl) (by kernel_rfl) (by kernel_rfl) (door_met os _)) ?_
  intro W base args ds gs before hval0 hW _ _ hL _
  have hval : ∀ (j : Nat) t v, Tryd.f3.params[j]? = some t → args[j]? = some v → Value.okWide Tryd.prog W .any base t v := hval0
  have hW' := hW
  obtain ⟨p, q, hA0, hV, rfl, hfz, hnd⟩ := hW
  have hA : DataW.TrodAll enc Tryd.prog W 0 (fun _ => true) true Tryd.f3.params.toList args.toList ds p := hA0
  rw [Tryd.params3] at hA hval
  obtain ⟨v0, vs0, d0, ds0, p0, q0, hargs, rfl, rfl, h0, r0⟩ := trodAll_cons hA
  obtain ⟨rfl, rfl, rfl⟩ := trodAll_nil r0
  obtain rfl : args = #[v0] := by cases args; simp_all
  obtain ⟨rfl, rfl⟩ := trodVars_none hV
  have k0 := h0
  have lt0 : ∀ x ∈ p0, x.block < W.heap.size := by obtain ⟨m, hm⟩ := k0; exact DataW.trod_lt m _ _ _ hm
  obtain ⟨x0, o0, f0⟩ := Go.Abs.open_arg (n := 16) (row := shape0) (by kernel_rfl) (hval 0 9 v0 rfl rfl) h0
  rw [Go.Abs.ArgOK, if_neg (by rw [agg0]; decide)] at o0
  clear hA0 hval0
  refine (Go.Abs.Tryd.ref3.law (Go.Abs.Tryd.law3 x0 o0) (gok hL) (.cons0 f0 .nil)).mono fun e W' ⟨he, bel⟩ => ?_
  subst he
  exact ⟨_, rfl, _, _, _, [], _, [], hW', trodAll_mk1 (shut_bool Tryd.underlying4 _), (trodAll_cons_mk (Below.trod laidOut (by kernel_rfl) (of_decide_eq_true (by kernel_rfl)) k0 bel lt0) trodAll_mk0), rfl, bel.frame _, fun h => by cases h⟩
theorem over : Rows.deskParsesRow.holds Tryd.pinned (OpenSpec.ofChange Rows.deskParsesSpec) :=
  OpenClaim.holds_of_wide 3 Tryd.f3 rfl rfl rfl rfl rfl rfl rfl ⟨rfl, rfl, rfl, rfl, rfl⟩ rfl rfl rfl rfl rfl (by kernel_rfl) Tryd.func3 (by kernel_rfl)
    (of_decide_eq_true (by kernel_rfl)) (by unfold Func.isWrapper; first | (rw [if_pos (by decide +kernel)]; kernel_rfl) | (rw [if_neg (by decide +kernel)]; exact ⟨rfl, rfl⟩))
    (fun os started H enc _ => lifted os started H enc)
theorem proved : Rows.DeskParsesSaid := over
theorem card : Rows.DeskParsesCardSaid :=
  Claim7.holds_tied_plain_at .later [] [.data, .data, .data, .sentinel, .sentinel] true (true, "c94f385853dfe4a35fa7687c879868cf85dada3b87eb2c3d29849c9e79231160") true
    proved (fun _ h => by cases h) (by kernel_rfl) (fun _ h => by cases h) deskParses_row_tie rfl ⟨rfl, rfl⟩ (by kernel_rfl) rfl
    (fun f fn hf hfn => by
      obtain rfl : f = 3 := Option.some.inj ((show Tryd.prog.funcNamed "estreat/estreatlaw21.DeskParses" = some 3 by kernel_rfl).symm.trans hf) |>.symm
      obtain rfl : fn = Tryd.f3 := (Option.some.inj (Tryd.func3.symm.trans hfn)).symm
      exact ⟨by kernel_rfl, fun j t ht => by
        rw [Tryd.params3] at ht
        have hm : t ∈ [9] := by simpa using Array.mem_of_getElem? ht
        have hall : ([9].all fun u => !Tryd.prog.wantsStandIn u) = true := by kernel_rfl
        exact (show Tryd.prog.wantsStandIn t = false by simpa using List.all_eq_true.1 hall t hm)⟩)
    (by kernel_rfl)
#print axioms card
end Go.Proofs.YtgemhcpenicpmaaDoor.deskParses
namespace Go.Proofs.YtgemhcpenicpmaaDoor
/-- The card, under a short name, for the claim. -/
theorem deskParses_card_holds : Rows.DeskParsesCardSaid := deskParses.card
end Go.Proofs.YtgemhcpenicpmaaDoor
