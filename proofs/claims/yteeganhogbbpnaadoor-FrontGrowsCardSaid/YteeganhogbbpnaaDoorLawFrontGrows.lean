/- The law FrontGrows: for every input the function returns true, and what came in reads behind the call as before; its condition: the listed package-level variables start as the program's text lays them (the card ties that). -/
import Derived.Test.YteeganhogbbpnaaDoorRows
import Derived.Test.YteeganhogbbpnaaDoorCards
import Derived.Test.YteeganhogbbpnaaDoorTie
import Derived.Test.YteeganhogbbpnaaDoorFAB
import Derived.WalkKit
import Derived.ProofKit
import Derived.OpenShut
import Derived.ShutString
import Derived.ChangeOld
import Derived.Below
import Derived.SizedLaws
import Derived.Carry
import Derived.LaidMore
import Derived.Stop.Joined
import Derived.SevenTiedAt
namespace Go.Proofs.YteeganhogbbpnaaDoor.frontGrows
open Go.ChangeShapes Go.WideShapes Go.ChangeAt Go.RowKit
open Go.ChangeMaps (open_string shut_string)
set_option linter.unusedVariables false
theorem own : ownKnob Tryd.prog.godebug = none := by kernel_rfl
theorem laidOut : laidOutB Tryd.prog = true := by kernel_rfl
abbrev shape0 : List Go.Abs.CSh := [.sl [.int .u8, .int .u8, .int .u8, .int .u8, .int .u8, .int .u8, .int .u8, .int .u8, .int .u8, .int .u8, .int .u8, .int .u8, .int .u8, .int .u8, .int .u8, .int .u8, .int .u8, .int .u8, .int .u8, .int .u8, .int .u8, .int .u8, .int .u8, .int .u8, .int .u8, .int .u8, .int .u8, .int .u8, .int .u8, .int .u8, .int .u8, .int .u8]]
theorem agg0 : Go.Abs.aggB Tryd.prog 22 = some false := by kernel_rfl
/-- what the row lists -/
abbrev laid : List (String × DataW Unit) := [("math/bits.deBruijn32tab", Rows.laid_math_bits_deBruijn32tab), ("math/bits.deBruijn64tab", Rows.laid_math_bits_deBruijn64tab), ("estreat/sha.table", Rows.laid_estreat_sha_table)]
def nums0 : List Int := Go.Abs.Tryd.glob1.map fun
  | .int _ n => n
  | _ => 0
theorem gN0 : Tryd.prog.globalNamed "math/bits.deBruijn32tab" = some 1 := by kernel_rfl
theorem gT0 : (Tryd.prog.globals[1]?).map (·.type) = some 28 := by kernel_rfl
theorem gA0 : Go.Abs.Tryd.glob1 = Go.Abs.ints .u8 nums0 := by kernel_rfl
theorem gD0 : (Rows.laid_math_bits_deBruijn32tab : DataW Unit) = .agg (Go.Abs.lits .u8 nums0) := by kernel_rfl
theorem uT0 : Tryd.prog.underlying 28 = some (.array 32 5) := by kernel_rfl
theorem uE0 : Tryd.prog.underlying 5 = some (.int .u8) := by kernel_rfl
theorem cE0 : Tryd.prog.cellsOf 5 = 1 := by kernel_rfl
def nums1 : List Int := Go.Abs.Tryd.glob2.map fun
  | .int _ n => n
  | _ => 0
theorem gN1 : Tryd.prog.globalNamed "math/bits.deBruijn64tab" = some 2 := by kernel_rfl
theorem gT1 : (Tryd.prog.globals[2]?).map (·.type) = some 75 := by kernel_rfl
theorem gA1 : Go.Abs.Tryd.glob2 = Go.Abs.ints .u8 nums1 := by kernel_rfl
theorem gD1 : (Rows.laid_math_bits_deBruijn64tab : DataW Unit) = .agg (Go.Abs.lits .u8 nums1) := by kernel_rfl
theorem uT1 : Tryd.prog.underlying 75 = some (.array 64 5) := by kernel_rfl
theorem uE1 : Tryd.prog.underlying 5 = some (.int .u8) := by kernel_rfl
theorem cE1 : Tryd.prog.cellsOf 5 = 1 := by kernel_rfl
def nums2 : List Int := Go.Abs.Tryd.glob3.map fun
  | .int _ n => n
  | _ => 0
theorem gN2 : Tryd.prog.globalNamed "estreat/sha.table" = some 3 := by kernel_rfl
theorem gT2 : (Tryd.prog.globals[3]?).map (·.type) = some 72 := by kernel_rfl
theorem gA2 : Go.Abs.Tryd.glob3 = Go.Abs.ints .u32 nums2 := by kernel_rfl
theorem gD2 : (Rows.laid_estreat_sha_table : DataW Unit) = .agg (Go.Abs.lits .u32 nums2) := by kernel_rfl
theorem uT2 : Tryd.prog.underlying 72 = some (.array 64 57) := by kernel_rfl
theorem uE2 : Tryd.prog.underlying 57 = some (.int .u32) := by kernel_rfl
theorem cE2 : Tryd.prog.cellsOf 57 = 1 := by kernel_rfl
/-- what the condition gives the machine -/
theorem gok {W : World} (h : laidMetH Tryd.prog laid W) : Go.Abs.GlobOK (fun b => b < W.heap.size) W := by
  rw [MakeChecks.laidMetH_plain _ _ _ (by kernel_rfl)] at h
  obtain ⟨ps, ⟨g0, t0, cs0, f0, p0, q0, hg0, ht0, hv0, hd0, ⟨g1, t1, cs1, f1, p1, q1, hg1, ht1, hv1, hd1, ⟨g2, t2, cs2, f2, p2, q2, hg2, ht2, hv2, hd2, _, _⟩, _⟩, _⟩, _, _⟩ := h
  obtain rfl := Option.some.inj (gN0.symm.trans hg0)
  obtain rfl := Option.some.inj (gT0.symm.trans ht0)
  obtain rfl := Option.some.inj (gN1.symm.trans hg1)
  obtain rfl := Option.some.inj (gT1.symm.trans ht1)
  obtain rfl := Option.some.inj (gN2.symm.trans hg2)
  obtain rfl := Option.some.inj (gT2.symm.trans ht2)
  refine Go.Abs.GlobOK.of_all fun p hp => ?_
  have hp' : p ∈ [(1, Go.Abs.Tryd.glob1), (2, Go.Abs.Tryd.glob2), (3, Go.Abs.Tryd.glob3)] := hp
  simp only [List.mem_cons, List.not_mem_nil, or_false] at hp'
  rcases hp' with rfl | rfl | rfl
  · show Go.Abs.Glob1OK _ W 1 Go.Abs.Tryd.glob1
    rw [gA0]
    exact Go.Abs.glob_arr nums0 gN0 uT0 uE0 cE0 hv0 (by kernel_rfl) (by rw [← gD0]; exact hd0)
  · show Go.Abs.Glob1OK _ W 2 Go.Abs.Tryd.glob2
    rw [gA1]
    exact Go.Abs.glob_arr nums1 gN1 uT1 uE1 cE1 hv1 (by kernel_rfl) (by rw [← gD1]; exact hd1)
  · show Go.Abs.Glob1OK _ W 3 Go.Abs.Tryd.glob3
    rw [gA2]
    exact Go.Abs.glob_arr nums2 gN2 uT2 uE2 cE2 hv2 (by kernel_rfl) (by rw [← gD2]; exact hd2)
/-- the door's own heap meets the condition -/
theorem door_met (os : Os) (args : Array Value) : laidMetH Tryd.prog laid ((World.doorLaid Tryd.prog 19 os).forCall (fun _ _ => 0) ⟨#[], args, []⟩).memory :=
  laidMetH_of_parts3 (fuel := 8) (laidMet_of_run' 8 (by kernel_rfl) (by kernel_rfl)) (by kernel_rfl) (by kernel_rfl)
set_option maxRecDepth 100000 in
theorem lifted (os : Os) (started : os.Started) (H : Type) (enc : TypeId × Value → H) :
    ReturnsInHanded {} Tryd.checked os 7 .any (fun w args => (Rows.frontGrowsSpec.pre enc Tryd.prog Tryd.f7 [] false w args ∧ laidMetH Tryd.prog laid w) ∧ sizedMet enc Tryd.prog Tryd.f7 (OpenSpec.ofChange Rows.frontGrowsSpec) false w args) (Rows.frontGrowsSpec.post enc Tryd.prog Tryd.f7 false true false false) := by
  refine returnsInHanded_of_change_and (C := Tryd.checked) (X := fun w _ => laidMetH Tryd.prog laid w) (fun _ _ _ hh h => h.of_heap hh) own started (by kernel_rfl) Tryd.func7
    (ChangeSpec.witness_shaped (enc := enc) (C := Tryd.checked) (os := os) (X := fun w _ => laidMetH Tryd.prog laid w) false (World.doorLaid Tryd.prog 19 os) #[.slice none 0 0] 8 rfl (World.shaped_of_RefB (by kernel_rfl) (by kernel_rfl)) (by kernel_rfl) (by kernel_rfl) (by kernel_rfl) (door_met os _)) ?_
  intro W base args ds gs before hval0 hW _ _ hL _
  have hval : ∀ (j : Nat) t v, Tryd.f7.params[j]? = some t → args[j]? = some v → Value.okWide Tryd.prog W .any base t v := hval0
  have hW' := hW
  obtain ⟨p, q, hA0, hV, rfl, hfz, hnd⟩ := hW
  have hA : DataW.TrodAll enc Tryd.prog W 0 (fun _ => true) true Tryd.f7.params.toList args.toList ds p := hA0
  rw [Tryd.params7] at hA hval
  obtain ⟨v0, vs0, d0, ds0, p0, q0, hargs, rfl, rfl, h0, r0⟩ := trodAll_cons hA
  obtain ⟨rfl, rfl, rfl⟩ := trodAll_nil r0
  obtain rfl : args = #[v0] := by cases args; simp_all
  obtain ⟨rfl, rfl⟩ := trodVars_none hV
  have k0 := h0
  have lt0 : ∀ x ∈ p0, x.block < W.heap.size := by obtain ⟨m, hm⟩ := k0; exact DataW.trod_lt m _ _ _ hm
  obtain ⟨x0, o0, f0⟩ := Go.Abs.open_arg (n := 16) (row := shape0) (by kernel_rfl) (hval 0 22 v0 rfl rfl) h0
  rw [Go.Abs.ArgOK, if_neg (by rw [agg0]; decide)] at o0
  clear hA0 hval0
  refine (Go.Abs.Tryd.ref7.law (Go.Abs.Tryd.law7 x0 o0) (gok hL) (.cons0 f0 .nil)).mono fun e W' ⟨he, bel⟩ => ?_
  subst he
  exact ⟨_, rfl, _, _, _, [], _, [], hW', trodAll_mk1 (shut_bool Tryd.underlying4 _), (trodAll_cons_mk (Below.trod laidOut (by kernel_rfl) (of_decide_eq_true (by kernel_rfl)) k0 bel lt0) trodAll_mk0), rfl, bel.frame _, fun h => by cases h⟩
theorem over : Rows.frontGrowsRow.holds Tryd.pinned (OpenSpec.ofChange Rows.frontGrowsSpec) :=
  OpenClaim.holds_of_wide 7 Tryd.f7 rfl rfl rfl rfl rfl rfl rfl ⟨rfl, rfl, rfl, rfl, rfl⟩ rfl rfl rfl rfl rfl (by kernel_rfl) Tryd.func7 (by kernel_rfl)
    (of_decide_eq_true (by kernel_rfl)) (by unfold Func.isWrapper; first | (rw [if_pos (by decide +kernel)]; kernel_rfl) | (rw [if_neg (by decide +kernel)]; exact ⟨rfl, rfl⟩))
    (fun os started H enc _ => lifted os started H enc)
theorem proved : Rows.FrontGrowsSaid := over
theorem card : Rows.FrontGrowsCardSaid :=
  Claim7.holds_tied_plain_at .later [] [.data, .data, .data] true (true, "12ff7f123811a15e3206426a5f452c0d699de0d8d04484e0ab7470bf3e60ef31") false
    proved (fun _ h => by cases h) (by kernel_rfl) (fun _ h => by cases h) frontGrows_row_tie rfl ⟨rfl, rfl⟩ (by kernel_rfl) rfl
    (fun f fn hf hfn => by
      obtain rfl : f = 7 := Option.some.inj ((show Tryd.prog.funcNamed "estreat/estreatlaw04.FrontGrows" = some 7 by kernel_rfl).symm.trans hf) |>.symm
      obtain rfl : fn = Tryd.f7 := (Option.some.inj (Tryd.func7.symm.trans hfn)).symm
      exact ⟨by kernel_rfl, fun j t ht => by
        rw [Tryd.params7] at ht
        have hm : t ∈ [22] := by simpa using Array.mem_of_getElem? ht
        have hall : ([22].all fun u => !Tryd.prog.wantsStandIn u) = true := by kernel_rfl
        exact (show Tryd.prog.wantsStandIn t = false by simpa using List.all_eq_true.1 hall t hm)⟩)
    (by kernel_rfl)
#print axioms card
end Go.Proofs.YteeganhogbbpnaaDoor.frontGrows
namespace Go.Proofs.YteeganhogbbpnaaDoor
/-- The card, under a short name, for the claim. -/
theorem frontGrows_card_holds : Rows.FrontGrowsCardSaid := frontGrows.card
end Go.Proofs.YteeganhogbbpnaaDoor
