/- The law TagMacsTwo: for every input the function returns true, and what came in reads behind the call as before; its condition: the listed package-level variables start as the program's text lays them (the card ties that). -/
import Derived.Test.YteiemmpdldnkhaaDoorRows
import Derived.Test.YteiemmpdldnkhaaDoorCards
import Derived.Test.YteiemmpdldnkhaaDoorTie
import Derived.Test.YteiemmpdldnkhaaDoorSAA
import Derived.WalkKit
import Derived.ProofKit
import Derived.OpenShut
import Derived.ShutString
import Derived.ChangeOld
import Derived.Below
import Derived.SizedLaws
import Derived.Carry
import Derived.LaidMore
import Derived.Stop.Joined
import Derived.SevenTiedAt
namespace Go.Proofs.YteiemmpdldnkhaaDoor.tagMacsTwo
open Go.ChangeShapes Go.WideShapes Go.ChangeAt Go.RowKit
open Go.ChangeMaps (open_string shut_string)
set_option linter.unusedVariables false
theorem own : ownKnob Tryd.prog.godebug = none := by kernel_rfl
theorem laidOut : laidOutB Tryd.prog = true := by kernel_rfl
abbrev shape0 : List Go.Abs.CSh := [.int .u8, .int .u8, .int .u8, .int .u8, .int .u8, .int .u8, .int .u8, .int .u8, .int .u8, .int .u8, .int .u8, .int .u8, .int .u8, .int .u8, .int .u8, .int .u8, .int .u8, .int .u8, .int .u8, .int .u8, .int .u8, .int .u8, .int .u8, .int .u8, .int .u8, .int .u8, .int .u8, .int .u8, .int .u8, .int .u8, .int .u8, .int .u8]
abbrev shape1 : List Go.Abs.CSh := [.str]
theorem agg1 : Go.Abs.aggB Tryd.prog 9 = some false := by kernel_rfl
/-- what the row lists -/
abbrev laid : List (String × DataW Unit) := [("estreat/sha.table", Rows.laid_estreat_sha_table)]
def nums0 : List Int := Go.Abs.Tryd.glob0.map fun
  | .int _ n => n
  | _ => 0
theorem gN0 : Tryd.prog.globalNamed "estreat/sha.table" = some 0 := by kernel_rfl
theorem gT0 : (Tryd.prog.globals[0]?).map (·.type) = some 59 := by kernel_rfl
theorem gA0 : Go.Abs.Tryd.glob0 = Go.Abs.ints .u32 nums0 := by kernel_rfl
theorem gD0 : (Rows.laid_estreat_sha_table : DataW Unit) = .agg (Go.Abs.lits .u32 nums0) := by kernel_rfl
theorem uT : Tryd.prog.underlying 59 = some (.array 64 42) := by kernel_rfl
theorem uE : Tryd.prog.underlying 42 = some (.int .u32) := by kernel_rfl
theorem cE : Tryd.prog.cellsOf 42 = 1 := by kernel_rfl
/-- what the condition gives the machine -/
theorem gok {W : World} (h : laidMetH Tryd.prog laid W) : Go.Abs.GlobOK (fun b => b < W.heap.size) W := by
  rw [MakeChecks.laidMetH_plain _ _ _ (by kernel_rfl)] at h
  obtain ⟨ps, ⟨g0, t0, cs0, f0, p0, q0, hg0, ht0, hv0, hd0, _, _⟩, _, _⟩ := h
  obtain rfl := Option.some.inj (gN0.symm.trans hg0)
  obtain rfl := Option.some.inj (gT0.symm.trans ht0)
  refine Go.Abs.GlobOK.of_all fun p hp => ?_
  have hp' : p ∈ [(0, Go.Abs.Tryd.glob0)] := hp
  simp only [List.mem_cons, List.not_mem_nil, or_false] at hp'
  rcases hp' with rfl
  · show Go.Abs.Glob1OK _ W 0 Go.Abs.Tryd.glob0
    rw [gA0]
    exact Go.Abs.glob_arr nums0 gN0 uT uE cE hv0 (by kernel_rfl) (by rw [← gD0]; exact hd0)
/-- the door's own heap meets the condition -/
theorem door_met (os : Os) (args : Array Value) : laidMetH Tryd.prog laid ((World.doorLaid Tryd.prog 19 os).forCall (fun _ _ => 0) ⟨#[], args, []⟩).memory :=
  laidMetH_of_parts3 (fuel := 8) (laidMet_of_run' 8 (by kernel_rfl) (by kernel_rfl)) (by kernel_rfl) (by kernel_rfl)
set_option maxRecDepth 100000 in
theorem lifted (os : Os) (started : os.Started) (H : Type) (enc : TypeId × Value → H) :
    ReturnsInHanded {} Tryd.checked os 3 .any (fun w args => (Rows.tagMacsTwoSpec.pre enc Tryd.prog Tryd.f3 [] false w args ∧ laidMetH Tryd.prog laid w) ∧ sizedMet enc Tryd.prog Tryd.f3 (OpenSpec.ofChange Rows.tagMacsTwoSpec) false w args) (Rows.tagMacsTwoSpec.post enc Tryd.prog Tryd.f3 false true false false) := by
  refine returnsInHanded_of_change_and (C := Tryd.checked) (X := fun w _ => laidMetH Tryd.prog laid w) (fun _ _ _ hh h => h.of_heap hh) own started (by kernel_rfl) Tryd.func3
    (ChangeSpec.witness_shaped (enc := enc) (C := Tryd.checked) (os := os) (X := fun w _ => laidMetH Tryd.prog laid w) false (World.doorLaid Tryd.prog 19 os) #[.agg #[.int .u8 0, .int .u8 0, .int .u8 0, .int .u8 0, .int .u8 0, .int .u8 0, .int .u8 0, .int .u8 0, .int .u8 0, .int .u8 0, .int .u8 0, .int .u8 0, .int .u8 0, .int .u8 0, .int .u8 0, .int .u8 0, .int .u8 0, .int .u8 0, .int .u8 0, .int .u8 0, .int .u8 0, .int .u8 0, .int .u8 0, .int .u8 0, .int .u8 0, .int .u8 0, .int .u8 0, .int .u8 0, .int .u8 0, .int .u8 0, .int .u8 0, .int .u8 0], .string ByteArray.empty] 8 rfl (World.shaped_of_RefB (by kernel_rfl) (by kernel_rfl)) (by kernel_rfl) (by kernel_rfl) (by kernel_rfl) (door_met os _)) ?_
  intro W base args ds gs before hval0 hW _ _ hL _
  have hval : ∀ (j : Nat) t v, Tryd.f3.params[j]? = some t → args[j]? = some v → Value.okWide Tryd.prog W .any base t v := hval0
  have hW' := hW
  obtain ⟨p, q, hA0, hV, rfl, hfz, hnd⟩ := hW
  have hA : DataW.TrodAll enc Tryd.prog W 0 (fun _ => true) true Tryd.f3.params.toList args.toList ds p := hA0
  rw [Tryd.params3] at hA hval
  obtain ⟨v0, vs0, d0, ds0, p0, q0, hargs, rfl, rfl, h0, r0⟩ := trodAll_cons hA
  obtain ⟨v1, vs1, d1, ds1, p1, q1, rfl, rfl, rfl, h1, r1⟩ := trodAll_cons r0
  obtain ⟨rfl, rfl, rfl⟩ := trodAll_nil r1
  obtain rfl : args = #[v0, v1] := by cases args; simp_all
  obtain ⟨rfl, rfl⟩ := trodVars_none hV
  have k0 := h0
  have lt0 : ∀ x ∈ p0, x.block < W.heap.size := by obtain ⟨m, hm⟩ := k0; exact DataW.trod_lt m _ _ _ hm
  obtain ⟨x0, o0, f0⟩ := Go.Abs.open_arg (n := 16) (row := shape0) (by kernel_rfl) (hval 0 23 v0 rfl rfl) h0
  rw [Go.Abs.ArgOK, if_pos (by kernel_rfl)] at o0
  have k1 := h1
  have lt1 : ∀ x ∈ p1, x.block < W.heap.size := by obtain ⟨m, hm⟩ := k1; exact DataW.trod_lt m _ _ _ hm
  obtain ⟨x1, o1, f1⟩ := Go.Abs.open_arg (n := 16) (row := shape1) (by kernel_rfl) (hval 1 9 v1 rfl rfl) h1
  rw [Go.Abs.ArgOK, if_neg (by rw [agg1]; decide)] at o1
  clear hA0 hval0
  refine (Go.Abs.Tryd.ref3.law (Go.Abs.Tryd.law3 x0 x1 o0 o1) (gok hL) (.cons0 f0 (.cons0 f1 .nil))).mono fun e W' ⟨he, bel⟩ => ?_
  subst he
  exact ⟨_, rfl, _, _, _, [], _, [], hW', trodAll_mk1 (shut_bool Tryd.underlying4 _), (trodAll_cons_mk (Below.trod laidOut (by kernel_rfl) (of_decide_eq_true (by kernel_rfl)) k0 bel lt0) (trodAll_cons_mk (Below.trod laidOut (by kernel_rfl) (of_decide_eq_true (by kernel_rfl)) k1 bel lt1) trodAll_mk0)), rfl, bel.frame _, fun h => by cases h⟩
theorem over : Rows.tagMacsTwoRow.holds Tryd.pinned (OpenSpec.ofChange Rows.tagMacsTwoSpec) :=
  OpenClaim.holds_of_wide 3 Tryd.f3 rfl rfl rfl rfl rfl rfl rfl ⟨rfl, rfl, rfl, rfl, rfl⟩ rfl rfl rfl rfl rfl (by kernel_rfl) Tryd.func3 (by kernel_rfl)
    (of_decide_eq_true (by kernel_rfl)) (by unfold Func.isWrapper; first | (rw [if_pos (by decide +kernel)]; kernel_rfl) | (rw [if_neg (by decide +kernel)]; exact ⟨rfl, rfl⟩))
    (fun os started H enc _ => lifted os started H enc)
theorem proved : Rows.TagMacsTwoSaid := over
theorem card : Rows.TagMacsTwoCardSaid :=
  Claim7.holds_tied_plain_at .later [] [.data] true (true, "d19d4028cd6dfed205fe6c65f58d563f66dcfa36806d66a429ae10b19469691c") false
    proved (fun _ h => by cases h) (by kernel_rfl) (fun _ h => by cases h) tagMacsTwo_row_tie rfl ⟨rfl, rfl⟩ (by kernel_rfl) rfl
    (fun f fn hf hfn => by
      obtain rfl : f = 3 := Option.some.inj ((show Tryd.prog.funcNamed "estreat/estreatlaw06.TagMacsTwo" = some 3 by kernel_rfl).symm.trans hf) |>.symm
      obtain rfl : fn = Tryd.f3 := (Option.some.inj (Tryd.func3.symm.trans hfn)).symm
      exact ⟨by kernel_rfl, fun j t ht => by
        rw [Tryd.params3] at ht
        have hm : t ∈ [23, 9] := by simpa using Array.mem_of_getElem? ht
        have hall : ([23, 9].all fun u => !Tryd.prog.wantsStandIn u) = true := by kernel_rfl
        exact (show Tryd.prog.wantsStandIn t = false by simpa using List.all_eq_true.1 hall t hm)⟩)
    (by kernel_rfl)
#print axioms card
end Go.Proofs.YteiemmpdldnkhaaDoor.tagMacsTwo
namespace Go.Proofs.YteiemmpdldnkhaaDoor
/-- The card, under a short name, for the claim. -/
theorem tagMacsTwo_card_holds : Rows.TagMacsTwoCardSaid := tagMacsTwo.card
end Go.Proofs.YteiemmpdldnkhaaDoor
