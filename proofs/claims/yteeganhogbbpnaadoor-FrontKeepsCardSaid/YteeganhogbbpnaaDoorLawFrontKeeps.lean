/- The law FrontKeeps: for every input the function returns true, and what came in reads behind the call as before; its condition: the listed package-level variables start as the program's text lays them (the card ties that). -/
import Derived.Test.YteeganhogbbpnaaDoorRows
import Derived.Test.YteeganhogbbpnaaDoorCards
import Derived.Test.YteeganhogbbpnaaDoorTie
import Derived.Test.YteeganhogbbpnaaDoorFAB
import Derived.WalkKit
import Derived.ProofKit
import Derived.OpenShut
import Derived.ShutString
import Derived.ChangeOld
import Derived.Below
import Derived.SizedLaws
import Derived.Carry
import Derived.LaidMore
import Derived.Stop.Joined
import Derived.SevenTiedAt
namespace Go.Proofs.YteeganhogbbpnaaDoor.frontKeeps
open Go.ChangeShapes Go.WideShapes Go.ChangeAt Go.RowKit
open Go.ChangeMaps (open_string shut_string)
set_option linter.unusedVariables false
theorem own : ownKnob Tryd.prog.godebug = none := by kernel_rfl
theorem laidOut : laidOutB Tryd.prog = true := by kernel_rfl
abbrev shape0 : List Go.Abs.CSh := [.int .i64]
abbrev shape1 : List Go.Abs.CSh := [.sl [.int .u8, .int .u8, .int .u8, .int .u8, .int .u8, .int .u8, .int .u8, .int .u8, .int .u8, .int .u8, .int .u8, .int .u8, .int .u8, .int .u8, .int .u8, .int .u8, .int .u8, .int .u8, .int .u8, .int .u8, .int .u8, .int .u8, .int .u8, .int .u8, .int .u8, .int .u8, .int .u8, .int .u8, .int .u8, .int .u8, .int .u8, .int .u8]]
abbrev shape2 : List Go.Abs.CSh := [.int .u8, .int .u8, .int .u8, .int .u8, .int .u8, .int .u8, .int .u8, .int .u8, .int .u8, .int .u8, .int .u8, .int .u8, .int .u8, .int .u8, .int .u8, .int .u8, .int .u8, .int .u8, .int .u8, .int .u8, .int .u8, .int .u8, .int .u8, .int .u8, .int .u8, .int .u8, .int .u8, .int .u8, .int .u8, .int .u8, .int .u8, .int .u8]
abbrev shape3 : List Go.Abs.CSh := [.int .u8, .int .u8, .int .u8, .int .u8, .int .u8, .int .u8, .int .u8, .int .u8, .int .u8, .int .u8, .int .u8, .int .u8, .int .u8, .int .u8, .int .u8, .int .u8, .int .u8, .int .u8, .int .u8, .int .u8, .int .u8, .int .u8, .int .u8, .int .u8, .int .u8, .int .u8, .int .u8, .int .u8, .int .u8, .int .u8, .int .u8, .int .u8]
theorem agg0 : Go.Abs.aggB Tryd.prog 3 = some false := by kernel_rfl
theorem agg1 : Go.Abs.aggB Tryd.prog 22 = some false := by kernel_rfl
/-- what the row lists -/
abbrev laid : List (String × DataW Unit) := [("math/bits.deBruijn32tab", Rows.laid_math_bits_deBruijn32tab), ("math/bits.deBruijn64tab", Rows.laid_math_bits_deBruijn64tab), ("estreat/sha.table", Rows.laid_estreat_sha_table)]
def nums0 : List Int := Go.Abs.Tryd.glob1.map fun
  | .int _ n => n
  | _ => 0
theorem gN0 : Tryd.prog.globalNamed "math/bits.deBruijn32tab" = some 1 := by kernel_rfl
theorem gT0 : (Tryd.prog.globals[1]?).map (·.type) = some 28 := by kernel_rfl
theorem gA0 : Go.Abs.Tryd.glob1 = Go.Abs.ints .u8 nums0 := by kernel_rfl
theorem gD0 : (Rows.laid_math_bits_deBruijn32tab : DataW Unit) = .agg (Go.Abs.lits .u8 nums0) := by kernel_rfl
theorem uT0 : Tryd.prog.underlying 28 = some (.array 32 5) := by kernel_rfl
theorem uE0 : Tryd.prog.underlying 5 = some (.int .u8) := by kernel_rfl
theorem cE0 : Tryd.prog.cellsOf 5 = 1 := by kernel_rfl
def nums1 : List Int := Go.Abs.Tryd.glob2.map fun
  | .int _ n => n
  | _ => 0
theorem gN1 : Tryd.prog.globalNamed "math/bits.deBruijn64tab" = some 2 := by kernel_rfl
theorem gT1 : (Tryd.prog.globals[2]?).map (·.type) = some 75 := by kernel_rfl
theorem gA1 : Go.Abs.Tryd.glob2 = Go.Abs.ints .u8 nums1 := by kernel_rfl
theorem gD1 : (Rows.laid_math_bits_deBruijn64tab : DataW Unit) = .agg (Go.Abs.lits .u8 nums1) := by kernel_rfl
theorem uT1 : Tryd.prog.underlying 75 = some (.array 64 5) := by kernel_rfl
theorem uE1 : Tryd.prog.underlying 5 = some (.int .u8) := by kernel_rfl
theorem cE1 : Tryd.prog.cellsOf 5 = 1 := by kernel_rfl
def nums2 : List Int := Go.Abs.Tryd.glob3.map fun
  | .int _ n => n
  | _ => 0
theorem gN2 : Tryd.prog.globalNamed "estreat/sha.table" = some 3 := by kernel_rfl
theorem gT2 : (Tryd.prog.globals[3]?).map (·.type) = some 72 := by kernel_rfl
theorem gA2 : Go.Abs.Tryd.glob3 = Go.Abs.ints .u32 nums2 := by kernel_rfl
theorem gD2 : (Rows.laid_estreat_sha_table : DataW Unit) = .agg (Go.Abs.lits .u32 nums2) := by kernel_rfl
theorem uT2 : Tryd.prog.underlying 72 = some (.array 64 57) := by kernel_rfl
theorem uE2 : Tryd.prog.underlying 57 = some (.int .u32) := by kernel_rfl
theorem cE2 : Tryd.prog.cellsOf 57 = 1 := by kernel_rfl
/-- what the condition gives the machine -/
theorem gok {W : World} (h : laidMetH Tryd.prog laid W) : Go.Abs.GlobOK (fun b => b < W.heap.size) W := by
  rw [MakeChecks.laidMetH_plain _ _ _ (by kernel_rfl)] at h
  obtain ⟨ps, ⟨g0, t0, cs0, f0, p0, q0, hg0, ht0, hv0, hd0, ⟨g1, t1, cs1, f1, p1, q1, hg1, ht1, hv1, hd1, ⟨g2, t2, cs2, f2, p2, q2, hg2, ht2, hv2, hd2, _, _⟩, _⟩, _⟩, _, _⟩ := h
  obtain rfl := Option.some.inj (gN0.symm.trans hg0)
  obtain rfl := Option.some.inj (gT0.symm.trans ht0)
  obtain rfl := Option.some.inj (gN1.symm.trans hg1)
  obtain rfl := Option.some.inj (gT1.symm.trans ht1)
  obtain rfl := Option.some.inj (gN2.symm.trans hg2)
  obtain rfl := Option.some.inj (gT2.symm.trans ht2)
  refine Go.Abs.GlobOK.of_all fun p hp => ?_
  have hp' : p ∈ [(1, Go.Abs.Tryd.glob1), (2, Go.Abs.Tryd.glob2), (3, Go.Abs.Tryd.glob3)] := hp
  simp only [List.mem_cons, List.not_mem_nil, or_false] at hp'
  rcases hp' with rfl | rfl | rfl
  · show Go.Abs.Glob1OK _ W 1 Go.Abs.Tryd.glob1
    rw [gA0]
    exact Go.Abs.glob_arr nums0 gN0 uT0 uE0 cE0 hv0 (by kernel_rfl) (by rw [← gD0]; exact hd0)
  · show Go.Abs.Glob1OK _ W 2 Go.Abs.Tryd.glob2
    rw [gA1]
    exact Go.Abs.glob_arr nums1 gN1 uT1 uE1 cE1 hv1 (by kernel_rfl) (by rw [← gD1]; exact hd1)
  · show Go.Abs.Glob1OK _ W 3 Go.Abs.Tryd.glob3
    rw [gA2]
    exact Go.Abs.glob_arr nums2 gN2 uT2 uE2 cE2 hv2 (by kernel_rfl) (by rw [← gD2]; exact hd2)
/-- the door's own heap meets the condition -/
theorem door_met (os : Os) (args : Array Value) : laidMetH Tryd.prog laid ((World.doorLaid Tryd.prog 19 os).forCall (fun _ _ => 0) ⟨#[], args, []⟩).memory :=
  laidMetH_of_parts3 (fuel := 8) (laidMet_of_run' 8 (by kernel_rfl) (by kernel_rfl)) (by kernel_rfl) (by kernel_rfl)
set_option maxRecDepth 100000 in
theorem lifted (os : Os) (started : os.Started) (H : Type) (enc : TypeId × Value → H) :
    ReturnsInHanded {} Tryd.checked os 6 .any (fun w args => (Rows.frontKeepsSpec.pre enc Tryd.prog Tryd.f6 [] false w args ∧ laidMetH Tryd.prog laid w) ∧ sizedMet enc Tryd.prog Tryd.f6 (OpenSpec.ofChange Rows.frontKeepsSpec) false w args) (Rows.frontKeepsSpec.post enc Tryd.prog Tryd.f6 false true false false) := by
  refine returnsInHanded_of_change_and (C := Tryd.checked) (X := fun w _ => laidMetH Tryd.prog laid w) (fun _ _ _ hh h => h.of_heap hh) own started (by kernel_rfl) Tryd.func6
    (ChangeSpec.witness_shaped (enc := enc) (C := Tryd.checked) (os := os) (X := fun w _ => laidMetH Tryd.prog laid w) false (World.doorLaid Tryd.prog 19 os) #[.int .i64 0, .slice none 0 0, .agg #[.int .u8 0, .int .u8 0, .int .u8 0, .int .u8 0, .int .u8 0, .int .u8 0, .int .u8 0, .int .u8 0, .int .u8 0, .int .u8 0, .int .u8 0, .int .u8 0, .int .u8 0, .int .u8 0, .int .u8 0, .int .u8 0, .int .u8 0, .int .u8 0, .int .u8 0, .int .u8 0, .int .u8 0, .int .u8 0, .int .u8 0, .int .u8 0, .int .u8 0, .int .u8 0, .int .u8 0, .int .u8 0, .int .u8 0, .int .u8 0, .int .u8 0, .int .u8 0], .agg #[.int .u8 0, .int .u8 0, .int .u8 0, .int .u8 0, .int .u8 0, .int .u8 0, .int .u8 0, .int .u8 0, .int .u8 0, .int .u8 0, .int .u8 0, .int .u8 0, .int .u8 0, .int .u8 0, .int .u8 0, .int .u8 0, .int .u8 0, .int .u8 0, .int .u8 0, .int .u8 0, .int .u8 0, .int .u8 0, .int .u8 0, .int .u8 0, .int .u8 0, .int .u8 0, .int .u8 0, .int .u8 0, .int .u8 0, .int .u8 0, .int .u8 0, .int .u8 0]] 8 rfl (World.shaped_of_RefB (by kernel_rfl) (by kernel_rfl)) (by kernel_rfl) (by kernel_rfl) (by kernel_rfl) (door_met os _)) ?_
  intro W base args ds gs before hval0 hW _ _ hL _
  have hval : ∀ (j : Nat) t v, Tryd.f6.params[j]? = some t → args[j]? = some v → Value.okWide Tryd.prog W .any base t v := hval0
  have hW' := hW
  obtain ⟨p, q, hA0, hV, rfl, hfz, hnd⟩ := hW
  have hA : DataW.TrodAll enc Tryd.prog W 0 (fun _ => true) true Tryd.f6.params.toList args.toList ds p := hA0
  rw [Tryd.params6] at hA hval
  obtain ⟨v0, vs0, d0, ds0, p0, q0, hargs, rfl, rfl, h0, r0⟩ := trodAll_cons hA
  obtain ⟨v1, vs1, d1, ds1, p1, q1, rfl, rfl, rfl, h1, r1⟩ := trodAll_cons r0
  obtain ⟨v2, vs2, d2, ds2, p2, q2, rfl, rfl, rfl, h2, r2⟩ := trodAll_cons r1
  obtain ⟨v3, vs3, d3, ds3, p3, q3, rfl, rfl, rfl, h3, r3⟩ := trodAll_cons r2
  obtain ⟨rfl, rfl, rfl⟩ := trodAll_nil r3
  obtain rfl : args = #[v0, v1, v2, v3] := by cases args; simp_all
  obtain ⟨rfl, rfl⟩ := trodVars_none hV
  have k0 := h0
  have lt0 : ∀ x ∈ p0, x.block < W.heap.size := by obtain ⟨m, hm⟩ := k0; exact DataW.trod_lt m _ _ _ hm
  obtain ⟨x0, o0, f0⟩ := Go.Abs.open_arg (n := 16) (row := shape0) (by kernel_rfl) (hval 0 3 v0 rfl rfl) h0
  rw [Go.Abs.ArgOK, if_neg (by rw [agg0]; decide)] at o0
  have k1 := h1
  have lt1 : ∀ x ∈ p1, x.block < W.heap.size := by obtain ⟨m, hm⟩ := k1; exact DataW.trod_lt m _ _ _ hm
  obtain ⟨x1, o1, f1⟩ := Go.Abs.open_arg (n := 16) (row := shape1) (by kernel_rfl) (hval 1 22 v1 rfl rfl) h1
  rw [Go.Abs.ArgOK, if_neg (by rw [agg1]; decide)] at o1
  have k2 := h2
  have lt2 : ∀ x ∈ p2, x.block < W.heap.size := by obtain ⟨m, hm⟩ := k2; exact DataW.trod_lt m _ _ _ hm
  obtain ⟨x2, o2, f2⟩ := Go.Abs.open_arg (n := 16) (row := shape2) (by kernel_rfl) (hval 2 29 v2 rfl rfl) h2
  rw [Go.Abs.ArgOK, if_pos (by kernel_rfl)] at o2
  have k3 := h3
  have lt3 : ∀ x ∈ p3, x.block < W.heap.size := by obtain ⟨m, hm⟩ := k3; exact DataW.trod_lt m _ _ _ hm
  obtain ⟨x3, o3, f3⟩ := Go.Abs.open_arg (n := 16) (row := shape3) (by kernel_rfl) (hval 3 29 v3 rfl rfl) h3
  rw [Go.Abs.ArgOK, if_pos (by kernel_rfl)] at o3
  clear hA0 hval0
  refine (Go.Abs.Tryd.ref6.law (Go.Abs.Tryd.law6 x0 x1 x2 x3 o0 o1 o2 o3) (gok hL) (.cons0 f0 (.cons0 f1 (.cons0 f2 (.cons0 f3 .nil))))).mono fun e W' ⟨he, bel⟩ => ?_
  subst he
  exact ⟨_, rfl, _, _, _, [], _, [], hW', trodAll_mk1 (shut_bool Tryd.underlying4 _), (trodAll_cons_mk (Below.trod laidOut (by kernel_rfl) (of_decide_eq_true (by kernel_rfl)) k0 bel lt0) (trodAll_cons_mk (Below.trod laidOut (by kernel_rfl) (of_decide_eq_true (by kernel_rfl)) k1 bel lt1) (trodAll_cons_mk (Below.trod laidOut (by kernel_rfl) (of_decide_eq_true (by kernel_rfl)) k2 bel lt2) (trodAll_cons_mk (Below.trod laidOut (by kernel_rfl) (of_decide_eq_true (by kernel_rfl)) k3 bel lt3) trodAll_mk0)))), rfl, bel.frame _, fun h => by cases h⟩
theorem over : Rows.frontKeepsRow.holds Tryd.pinned (OpenSpec.ofChange Rows.frontKeepsSpec) :=
  OpenClaim.holds_of_wide 6 Tryd.f6 rfl rfl rfl rfl rfl rfl rfl ⟨rfl, rfl, rfl, rfl, rfl⟩ rfl rfl rfl rfl rfl (by kernel_rfl) Tryd.func6 (by kernel_rfl)
    (of_decide_eq_true (by kernel_rfl)) (by unfold Func.isWrapper; first | (rw [if_pos (by decide +kernel)]; kernel_rfl) | (rw [if_neg (by decide +kernel)]; exact ⟨rfl, rfl⟩))
    (fun os started H enc _ => lifted os started H enc)
theorem proved : Rows.FrontKeepsSaid := over
theorem card : Rows.FrontKeepsCardSaid :=
  Claim7.holds_tied_plain_at .later [] [.data, .data, .data] true (true, "12ff7f123811a15e3206426a5f452c0d699de0d8d04484e0ab7470bf3e60ef31") false
    proved (fun _ h => by cases h) (by kernel_rfl) (fun _ h => by cases h) frontKeeps_row_tie rfl ⟨rfl, rfl⟩ (by kernel_rfl) rfl
    (fun f fn hf hfn => by
      obtain rfl : f = 6 := Option.some.inj ((show Tryd.prog.funcNamed "estreat/estreatlaw04.FrontKeeps" = some 6 by kernel_rfl).symm.trans hf) |>.symm
      obtain rfl : fn = Tryd.f6 := (Option.some.inj (Tryd.func6.symm.trans hfn)).symm
      exact ⟨by kernel_rfl, fun j t ht => by
        rw [Tryd.params6] at ht
        have hm : t ∈ [3, 22, 29, 29] := by simpa using Array.mem_of_getElem? ht
        have hall : ([3, 22, 29, 29].all fun u => !Tryd.prog.wantsStandIn u) = true := by kernel_rfl
        exact (show Tryd.prog.wantsStandIn t = false by simpa using List.all_eq_true.1 hall t hm)⟩)
    (by kernel_rfl)
#print axioms card
end Go.Proofs.YteeganhogbbpnaaDoor.frontKeeps
namespace Go.Proofs.YteeganhogbbpnaaDoor
/-- The card, under a short name, for the claim. -/
theorem frontKeeps_card_holds : Rows.FrontKeepsCardSaid := frontKeeps.card
end Go.Proofs.YteeganhogbbpnaaDoor
