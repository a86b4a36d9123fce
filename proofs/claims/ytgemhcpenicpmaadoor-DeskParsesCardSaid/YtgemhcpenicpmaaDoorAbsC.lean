/- Part 3 of Abs: what our evaluation of a function's code says, the machine's run does; no condition of its own. -/
import Derived.Test.YtgemhcpenicpmaaDoorAbsB
import Derived.IntWalk
import Derived.Below
import Derived.OpenShut
import Derived.ChangeArms
import Derived.Carry
import Derived.ChangeBears2
import Derived.MakeChecks
import Derived.Lib.LaidTab
set_option linter.unusedVariables false
set_option linter.unusedSimpArgs false
set_option linter.unusedSectionVars false
namespace Go.Abs
variable [Globs]
open Go

attribute [simp] ev evOper evOp Env.x envGet envSet envDel envOnly AH.only AH.get AH.put AH.del AH.hide AH.join aint ashift splice fillRows fillCells freezeL inVals inCells inPvs outPvs argPvs envOf evBody resVals argVals mvArgs lendArgs lendCells mvCells Nat.beq_eq Nat.blt_eq Nat.ble_eq outVals aeqCells AOp.still lowH lowL lowL2 genIn allowed
@[simp] theorem cellsOK0 : cellsOK [] = true := rfl
@[simp] theorem cellsOK1 (v : AV) (r : List AV) : cellsOK (v :: r) = (v.cellb && cellsOK r) := rfl
-- what goes on is looked at when it is known what it goes on with
@[simp] theorem e_lendArg_fr (h : AH) (sz : Nat) (rows : List (List AV)) : lendArg h (.fr sz rows) = some (.fr sz rows) := rfl
@[simp] theorem s_reg0 (Φ : Nat → Option FnF) (s : St) : evReg Φ s [] = some s := rfl
@[simp] theorem s_reg1 (Φ : Nat → Option FnF) (s : St) (o : AOper) (r : List AOper) : evReg Φ s (o :: r) = match evOper Φ s o with | some s' => evReg Φ s' r | none => none := by
  rw [evReg]; cases evOper Φ s o <;> rfl
@[simp] theorem s_regD0 (Φ : Nat → Option FnF) (c0 : Nat) (ivs : List (Nat × Nat)) (s : St) : evRegD Φ c0 ivs s [] = some s := rfl
@[simp] theorem s_regD1 (Φ : Nat → Option FnF) (c0 : Nat) (ivs : List (Nat × Nat)) (s : St) (o : AOper) (r : List AOper) : evRegD Φ c0 ivs s (o :: r) = match evOperD Φ c0 ivs s o with | some s' => evRegD Φ c0 (ivs ++ [(s.c, s'.c)]) s' r | none => none := by
  rw [evRegD]; cases evOperD Φ c0 ivs s o <;> rfl
@[simp] theorem s_operD (Φ : Nat → Option FnF) (c0 : Nat) (ivs : List (Nat × Nat)) (s : St) (o : AOper) : evOperD Φ c0 ivs s o =
    if o.op.still then
      match evOper Φ ⟨envOnly o.rs s.env, s.h.only o.tn, s.c⟩ o with
      | some q => if o.wn.isEmpty then
          match o.dst with
          | some d => (envGet q.env d).bind fun v => if v.low (o.tn ++ o.mn) ((s.c, q.c) :: allowed c0 ivs o.an) then some ⟨envSet s.env d v, s.h, s.c⟩ else none
          | none => some s
        else none
      | none => none
    else
    match evOper Φ ⟨envOnly o.rs s.env, s.h.only o.tn, s.c⟩ o with
    | some q => if Nat.ble s.c q.c && lowH o.tn ((s.c, q.c) :: allowed c0 ivs o.an) q.h then
        if AH.same (q.h.hide o.wn) ((s.h.only o.tn).hide o.wn) then
          match o.dst with
          | some d => (envGet q.env d).bind fun v => if v.low o.tn ((s.c, q.c) :: allowed c0 ivs o.an) then some ⟨envSet s.env d v, q.h.join (s.h.hide o.tn), q.c⟩ else none
          | none => some ⟨s.env, q.h.join (s.h.hide o.tn), q.c⟩
        else none
      else none
    | none => none := by
  rw [evOperD]; split <;> cases evOper Φ ⟨envOnly o.rs s.env, s.h.only o.tn, s.c⟩ o <;> rfl
@[simp] theorem s_fun (Φ : Nat → Option FnF) (k : Nat) (f : AFun) (bs : List AV) : evFun Φ k f bs = if f.ntmps < bs.length then none else
    match inVals [] 0 100000 bs with
    | some q => (match evBody Φ k f ⟨envOf 0 q.1, q.2.1, q.2.2⟩ with
      | some s' => (match resVals s' f.res with
        | some vs => (match outPvs s'.h (argPvs bs q.1) with
          | some ps => (outRes ps.2 (resVal vs)).map fun r => (r.1, ps.1)
          | none => none)
        | none => none)
      | none => none)
    | none => none := by
  unfold evFun
  split
  · rfl
  · cases inVals [] 0 100000 bs with
    | none => rfl
    | some q =>
      simp only [Option.bind_some]
      cases evBody Φ k f ⟨envOf 0 q.1, q.2.1, q.2.2⟩ with
      | none => rfl
      | some s' =>
        simp only [Option.bind_some]
        cases resVals s' f.res with
        | none => rfl
        | some vs =>
          simp only [Option.bind_some]
          cases outPvs s'.h (argPvs bs q.1) <;> rfl
@[simp] theorem s_call (F : CallF) (h : AH) (c nm : Nat) (args : List AV) (mv : List Bool) : acall F h c nm args mv = match mvArgs h args mv with
    | some m => (match lendArgs m.2.1 m.1 with
      | some bs => (match F bs with
        | some r => (match inPvs m.2.1 c m.2.2 r.2 with
          | some q => inRes q.1 q.2 nm r.1
          | none => none)
        | none => none)
      | none => none)
    | none => none := by
  unfold acall
  cases mvArgs h args mv with
  | none => rfl
  | some m =>
    simp only [Option.bind_some]
    cases lendArgs m.2.1 m.1 with
    | none => rfl
    | some bs =>
      simp only [Option.bind_some]
      cases F bs with
      | none => rfl
      | some r =>
        simp only [Option.bind_some]
        cases inPvs m.2.1 c m.2.2 r.2 <;> rfl
mutual
theorem AV.same_refl : ∀ v : AV, v.same v = true
  | .int .. => by simp [AV.same]
  | .bool _ => by simp [AV.same]
  | .str _ => by simp [AV.same]
  | .agg cs => by rw [AV.same]; exact sameL_refl cs
  | .tup cs => by rw [AV.same]; exact sameL_refl cs
  | .nilS => rfl
  | .emp => rfl
  | .nilP => rfl
  | .nilF => rfl
  | .nilM => rfl
  | .nilI => rfl
  | .ifc => rfl
  | .ro _ _ rows => by rw [AV.same, sameLL_refl rows]; simp
  | .own .. => by simp [AV.same]
  | .vsl .. => by simp [AV.same]
  | .ptr .. => by simp [AV.same]
  | .eptr .. => by simp [AV.same]
  | .rptr cs => by rw [AV.same]; exact sameL_refl cs
  | .fn _ cs => by rw [AV.same, sameL_refl cs]; simp
  | .bm _ cs => by rw [AV.same, sameL_refl cs]; simp
  | .fr _ rows => by rw [AV.same, sameLL_refl rows]; simp
  | .pv cs => by rw [AV.same]; exact sameL_refl cs
  | .opq _ => by simp [AV.same]
  | .yld .. => by simp [AV.same]
  | .mp .. => by simp [AV.same]
theorem sameL_refl : ∀ l : List AV, sameL l l = true
  | [] => rfl
  | v :: r => by rw [sameL, AV.same_refl v, sameL_refl r]; rfl
theorem sameLL_refl : ∀ l : List (List AV), sameLL l l = true
  | [] => rfl
  | v :: r => by rw [sameLL, sameL_refl v, sameLL_refl r]; rfl
end
theorem Blk.same_refl (b : Blk) : b.same b = true := by
  cases b with
  | var cs => exact sameL_refl cs
  | arr sz rows fz => rw [Blk.same, sameLL_refl]; simp
  | gone => rfl
  | lp => simp [Blk.same]
  | mpb rows => exact sameLL_refl rows
@[simp] theorem AH.same_refl : ∀ h : AH, AH.same h h = true
  | [] => rfl
  | e :: r => by rw [AH.same, Blk.same_refl, AH.same_refl r]; simp
attribute [simp] aeq1.eq_1 aeq1.eq_2 aeq1.eq_3
attribute [simp] aisNil.eq_1 aisNil.eq_2 aisNil.eq_3 aisNil.eq_4 aisNil.eq_5 aisNil.eq_6 aisNil.eq_7 aisNil.eq_8 aisNil.eq_9 aisNil.eq_10 aisNil.eq_11 aisNil.eq_12 alen.eq_1 alen.eq_2 alen.eq_3 alen.eq_4 alen.eq_5 aslice.eq_1 aslice.eq_2 aslice.eq_3 aslice.eq_4 aslice.eq_5 rowsOf.eq_1 rowsOf.eq_2 rowsOf.eq_3 rowsOf.eq_4 rowsOf.eq_5 bound.eq_1 bound.eq_2 bound.eq_3 xopt.eq_1 xopt.eq_2 aun.eq_1 aun.eq_2 aun.eq_3 cellsAt.eq_1 cellsAt.eq_2 cellsAt.eq_3 astore.eq_1 astore.eq_2 asNat?.eq_1 part.eq_1 part.eq_2
@[simp] theorem e_aisNil_nilI : aisNil 4 .nilI = some true := rfl
@[simp] theorem e_aisNil_ifc : aisNil 4 .ifc = some false := rfl
attribute [simp] inVal.eq_1 inVal.eq_2 outVal.eq_1 outVal.eq_2 lendCell.eq_1 lendCell.eq_2 lendArg.eq_1 lendArg.eq_2 freeze1.eq_1 inCell.eq_1 inRes.eq_1 outRes.eq_1 mvCell.eq_1 srcRows.eq_1
@[simp] theorem e_cells_int (k : IntKind) (n : Int) : (AV.int k n).cells = [(AV.int k n)] := rfl
@[simp] theorem e_cellb_int (k : IntKind) (n : Int) : (AV.int k n).cellb = true := rfl
@[simp] theorem e_plain_int (k : IntKind) (n : Int) : (AV.int k n).plain = true := rfl
@[simp] theorem e_bare_int (k : IntKind) (n : Int) : (AV.int k n).bare = true := rfl
@[simp] theorem e_inCell_int (h : AH) (c nm : Nat) (k : IntKind) (n : Int) : inCell h c nm (AV.int k n) = some ((AV.int k n), h, c) := rfl
@[simp] theorem e_lendCell_int (h : AH) (k : IntKind) (n : Int) : lendCell h (AV.int k n) = some (AV.int k n) := rfl
@[simp] theorem e_mvCell_int (h : AH) (k : IntKind) (n : Int) : mvCell h (AV.int k n) = some ((AV.int k n), h) := rfl
@[simp] theorem e_freeze1_int (h : AH) (k : IntKind) (n : Int) : freeze1 h (AV.int k n) = some ((AV.int k n), h) := rfl
@[simp] theorem e_inVal_int (h : AH) (c nm : Nat) (k : IntKind) (n : Int) : inVal h c nm (AV.int k n) = inCell h c nm (AV.int k n) := rfl
@[simp] theorem e_lendArg_int (h : AH) (k : IntKind) (n : Int) : lendArg h (AV.int k n) = lendCell h (AV.int k n) := rfl
@[simp] theorem e_inRes_int (h : AH) (c nm : Nat) (k : IntKind) (n : Int) : inRes h c nm (AV.int k n) = inVal h c nm (AV.int k n) := rfl
@[simp] theorem e_outRes_int (h : AH) (k : IntKind) (n : Int) : outRes h (AV.int k n) = outVal h (AV.int k n) := rfl
@[simp] theorem e_outVal_int (h : AH) (k : IntKind) (n : Int) : outVal h (AV.int k n) = mvCell h (AV.int k n) := rfl
@[simp] theorem e_srcRows_int (h : AH) (sz : Nat) (k : IntKind) (n : Int) : srcRows h sz (AV.int k n) = rowsOf h sz (AV.int k n) := rfl
@[simp] theorem e_cells_bool (b : Bool) : (AV.bool b).cells = [(AV.bool b)] := rfl
@[simp] theorem e_cellb_bool (b : Bool) : (AV.bool b).cellb = true := rfl
@[simp] theorem e_plain_bool (b : Bool) : (AV.bool b).plain = true := rfl
@[simp] theorem e_bare_bool (b : Bool) : (AV.bool b).bare = true := rfl
@[simp] theorem e_inCell_bool (h : AH) (c nm : Nat) (b : Bool) : inCell h c nm (AV.bool b) = some ((AV.bool b), h, c) := rfl
@[simp] theorem e_lendCell_bool (h : AH) (b : Bool) : lendCell h (AV.bool b) = some (AV.bool b) := rfl
@[simp] theorem e_mvCell_bool (h : AH) (b : Bool) : mvCell h (AV.bool b) = some ((AV.bool b), h) := rfl
@[simp] theorem e_freeze1_bool (h : AH) (b : Bool) : freeze1 h (AV.bool b) = some ((AV.bool b), h) := rfl
@[simp] theorem e_inVal_bool (h : AH) (c nm : Nat) (b : Bool) : inVal h c nm (AV.bool b) = inCell h c nm (AV.bool b) := rfl
@[simp] theorem e_lendArg_bool (h : AH) (b : Bool) : lendArg h (AV.bool b) = lendCell h (AV.bool b) := rfl
@[simp] theorem e_inRes_bool (h : AH) (c nm : Nat) (b : Bool) : inRes h c nm (AV.bool b) = inVal h c nm (AV.bool b) := rfl
@[simp] theorem e_outRes_bool (h : AH) (b : Bool) : outRes h (AV.bool b) = outVal h (AV.bool b) := rfl
@[simp] theorem e_outVal_bool (h : AH) (b : Bool) : outVal h (AV.bool b) = mvCell h (AV.bool b) := rfl
@[simp] theorem e_srcRows_bool (h : AH) (sz : Nat) (b : Bool) : srcRows h sz (AV.bool b) = rowsOf h sz (AV.bool b) := rfl
@[simp] theorem e_cells_str (s : ByteArray) : (AV.str s).cells = [(AV.str s)] := rfl
@[simp] theorem e_cellb_str (s : ByteArray) : (AV.str s).cellb = true := rfl
@[simp] theorem e_plain_str (s : ByteArray) : (AV.str s).plain = true := rfl
@[simp] theorem e_bare_str (s : ByteArray) : (AV.str s).bare = true := rfl
@[simp] theorem e_inCell_str (h : AH) (c nm : Nat) (s : ByteArray) : inCell h c nm (AV.str s) = some ((AV.str s), h, c) := rfl
@[simp] theorem e_lendCell_str (h : AH) (s : ByteArray) : lendCell h (AV.str s) = some (AV.str s) := rfl
@[simp] theorem e_mvCell_str (h : AH) (s : ByteArray) : mvCell h (AV.str s) = some ((AV.str s), h) := rfl
@[simp] theorem e_freeze1_str (h : AH) (s : ByteArray) : freeze1 h (AV.str s) = some ((AV.str s), h) := rfl
@[simp] theorem e_inVal_str (h : AH) (c nm : Nat) (s : ByteArray) : inVal h c nm (AV.str s) = inCell h c nm (AV.str s) := rfl
@[simp] theorem e_lendArg_str (h : AH) (s : ByteArray) : lendArg h (AV.str s) = lendCell h (AV.str s) := rfl
@[simp] theorem e_inRes_str (h : AH) (c nm : Nat) (s : ByteArray) : inRes h c nm (AV.str s) = inVal h c nm (AV.str s) := rfl
@[simp] theorem e_outRes_str (h : AH) (s : ByteArray) : outRes h (AV.str s) = outVal h (AV.str s) := rfl
@[simp] theorem e_outVal_str (h : AH) (s : ByteArray) : outVal h (AV.str s) = mvCell h (AV.str s) := rfl
@[simp] theorem e_cells_agg (cs : List AV) : (AV.agg cs).cells = cs := rfl
@[simp] theorem e_cellb_agg (cs : List AV) : (AV.agg cs).cellb = false := rfl
@[simp] theorem e_plain_agg (cs : List AV) : (AV.agg cs).plain = false := rfl
@[simp] theorem e_bare_agg (cs : List AV) : (AV.agg cs).bare = false := rfl
@[simp] theorem e_inRes_agg (h : AH) (c nm : Nat) (cs : List AV) : inRes h c nm (AV.agg cs) = inVal h c nm (AV.agg cs) := rfl
@[simp] theorem e_outRes_agg (h : AH) (cs : List AV) : outRes h (AV.agg cs) = outVal h (AV.agg cs) := rfl
@[simp] theorem e_srcRows_agg (h : AH) (sz : Nat) (cs : List AV) : srcRows h sz (AV.agg cs) = rowsOf h sz (AV.agg cs) := rfl
@[simp] theorem e_cells_tup (vs : List AV) : (AV.tup vs).cells = [(AV.tup vs)] := rfl
@[simp] theorem e_cellb_tup (vs : List AV) : (AV.tup vs).cellb = false := rfl
@[simp] theorem e_plain_tup (vs : List AV) : (AV.tup vs).plain = false := rfl
@[simp] theorem e_bare_tup (vs : List AV) : (AV.tup vs).bare = false := rfl
@[simp] theorem e_inVal_tup (h : AH) (c nm : Nat) (vs : List AV) : inVal h c nm (AV.tup vs) = inCell h c nm (AV.tup vs) := rfl
@[simp] theorem e_lendArg_tup (h : AH) (vs : List AV) : lendArg h (AV.tup vs) = lendCell h (AV.tup vs) := rfl
@[simp] theorem e_outVal_tup (h : AH) (vs : List AV) : outVal h (AV.tup vs) = mvCell h (AV.tup vs) := rfl
@[simp] theorem e_srcRows_tup (h : AH) (sz : Nat) (vs : List AV) : srcRows h sz (AV.tup vs) = rowsOf h sz (AV.tup vs) := rfl
@[simp] theorem e_cells_nilS  : (AV.nilS).cells = [(AV.nilS)] := rfl
@[simp] theorem e_cellb_nilS  : (AV.nilS).cellb = true := rfl
@[simp] theorem e_plain_nilS  : (AV.nilS).plain = true := rfl
@[simp] theorem e_bare_nilS  : (AV.nilS).bare = true := rfl
@[simp] theorem e_inCell_nilS (h : AH) (c nm : Nat)  : inCell h c nm (AV.nilS) = some ((AV.nilS), h, c) := rfl
@[simp] theorem e_lendCell_nilS (h : AH)  : lendCell h (AV.nilS) = some (AV.nilS) := rfl
@[simp] theorem e_mvCell_nilS (h : AH)  : mvCell h (AV.nilS) = some ((AV.nilS), h) := rfl
@[simp] theorem e_freeze1_nilS (h : AH)  : freeze1 h (AV.nilS) = some ((AV.nilS), h) := rfl
@[simp] theorem e_inVal_nilS (h : AH) (c nm : Nat)  : inVal h c nm (AV.nilS) = inCell h c nm (AV.nilS) := rfl
@[simp] theorem e_lendArg_nilS (h : AH)  : lendArg h (AV.nilS) = lendCell h (AV.nilS) := rfl
@[simp] theorem e_inRes_nilS (h : AH) (c nm : Nat)  : inRes h c nm (AV.nilS) = inVal h c nm (AV.nilS) := rfl
@[simp] theorem e_outRes_nilS (h : AH)  : outRes h (AV.nilS) = outVal h (AV.nilS) := rfl
@[simp] theorem e_outVal_nilS (h : AH)  : outVal h (AV.nilS) = mvCell h (AV.nilS) := rfl
@[simp] theorem e_srcRows_nilS (h : AH) (sz : Nat)  : srcRows h sz (AV.nilS) = rowsOf h sz (AV.nilS) := rfl
@[simp] theorem e_cells_emp  : (AV.emp).cells = [(AV.emp)] := rfl
@[simp] theorem e_cellb_emp  : (AV.emp).cellb = true := rfl
@[simp] theorem e_plain_emp  : (AV.emp).plain = true := rfl
@[simp] theorem e_bare_emp  : (AV.emp).bare = true := rfl
@[simp] theorem e_inCell_emp (h : AH) (c nm : Nat)  : inCell h c nm (AV.emp) = some ((AV.emp), h, c) := rfl
@[simp] theorem e_lendCell_emp (h : AH)  : lendCell h (AV.emp) = some (AV.emp) := rfl
@[simp] theorem e_mvCell_emp (h : AH)  : mvCell h (AV.emp) = some ((AV.emp), h) := rfl
@[simp] theorem e_freeze1_emp (h : AH)  : freeze1 h (AV.emp) = some ((AV.emp), h) := rfl
@[simp] theorem e_inVal_emp (h : AH) (c nm : Nat)  : inVal h c nm (AV.emp) = inCell h c nm (AV.emp) := rfl
@[simp] theorem e_lendArg_emp (h : AH)  : lendArg h (AV.emp) = lendCell h (AV.emp) := rfl
@[simp] theorem e_inRes_emp (h : AH) (c nm : Nat)  : inRes h c nm (AV.emp) = inVal h c nm (AV.emp) := rfl
@[simp] theorem e_outRes_emp (h : AH)  : outRes h (AV.emp) = outVal h (AV.emp) := rfl
@[simp] theorem e_outVal_emp (h : AH)  : outVal h (AV.emp) = mvCell h (AV.emp) := rfl
@[simp] theorem e_srcRows_emp (h : AH) (sz : Nat)  : srcRows h sz (AV.emp) = rowsOf h sz (AV.emp) := rfl
@[simp] theorem e_cells_nilP  : (AV.nilP).cells = [(AV.nilP)] := rfl
@[simp] theorem e_cellb_nilP  : (AV.nilP).cellb = true := rfl
@[simp] theorem e_plain_nilP  : (AV.nilP).plain = true := rfl
@[simp] theorem e_bare_nilP  : (AV.nilP).bare = true := rfl
@[simp] theorem e_inCell_nilP (h : AH) (c nm : Nat)  : inCell h c nm (AV.nilP) = some ((AV.nilP), h, c) := rfl
@[simp] theorem e_lendCell_nilP (h : AH)  : lendCell h (AV.nilP) = some (AV.nilP) := rfl
@[simp] theorem e_mvCell_nilP (h : AH)  : mvCell h (AV.nilP) = some ((AV.nilP), h) := rfl
@[simp] theorem e_freeze1_nilP (h : AH)  : freeze1 h (AV.nilP) = some ((AV.nilP), h) := rfl
@[simp] theorem e_inVal_nilP (h : AH) (c nm : Nat)  : inVal h c nm (AV.nilP) = inCell h c nm (AV.nilP) := rfl
@[simp] theorem e_lendArg_nilP (h : AH)  : lendArg h (AV.nilP) = lendCell h (AV.nilP) := rfl
@[simp] theorem e_inRes_nilP (h : AH) (c nm : Nat)  : inRes h c nm (AV.nilP) = inVal h c nm (AV.nilP) := rfl
@[simp] theorem e_outRes_nilP (h : AH)  : outRes h (AV.nilP) = outVal h (AV.nilP) := rfl
@[simp] theorem e_outVal_nilP (h : AH)  : outVal h (AV.nilP) = mvCell h (AV.nilP) := rfl
@[simp] theorem e_srcRows_nilP (h : AH) (sz : Nat)  : srcRows h sz (AV.nilP) = rowsOf h sz (AV.nilP) := rfl
@[simp] theorem e_cells_nilF  : (AV.nilF).cells = [(AV.nilF)] := rfl
@[simp] theorem e_cellb_nilF  : (AV.nilF).cellb = true := rfl
@[simp] theorem e_plain_nilF  : (AV.nilF).plain = true := rfl
@[simp] theorem e_bare_nilF  : (AV.nilF).bare = true := rfl
@[simp] theorem e_inCell_nilF (h : AH) (c nm : Nat)  : inCell h c nm (AV.nilF) = some ((AV.nilF), h, c) := rfl
@[simp] theorem e_lendCell_nilF (h : AH)  : lendCell h (AV.nilF) = some (AV.nilF) := rfl
@[simp] theorem e_mvCell_nilF (h : AH)  : mvCell h (AV.nilF) = some ((AV.nilF), h) := rfl
@[simp] theorem e_freeze1_nilF (h : AH)  : freeze1 h (AV.nilF) = some ((AV.nilF), h) := rfl
@[simp] theorem e_inVal_nilF (h : AH) (c nm : Nat)  : inVal h c nm (AV.nilF) = inCell h c nm (AV.nilF) := rfl
@[simp] theorem e_lendArg_nilF (h : AH)  : lendArg h (AV.nilF) = lendCell h (AV.nilF) := rfl
@[simp] theorem e_inRes_nilF (h : AH) (c nm : Nat)  : inRes h c nm (AV.nilF) = inVal h c nm (AV.nilF) := rfl
@[simp] theorem e_outRes_nilF (h : AH)  : outRes h (AV.nilF) = outVal h (AV.nilF) := rfl
@[simp] theorem e_outVal_nilF (h : AH)  : outVal h (AV.nilF) = mvCell h (AV.nilF) := rfl
@[simp] theorem e_srcRows_nilF (h : AH) (sz : Nat)  : srcRows h sz (AV.nilF) = rowsOf h sz (AV.nilF) := rfl
@[simp] theorem e_cells_nilM  : (AV.nilM).cells = [(AV.nilM)] := rfl
@[simp] theorem e_cells_nilI  : (AV.nilI).cells = [(AV.nilI)] := rfl
@[simp] theorem e_cells_ifc  : (AV.ifc).cells = [(AV.ifc)] := rfl
@[simp] theorem e_cellb_nilM  : (AV.nilM).cellb = true := rfl
@[simp] theorem e_cellb_nilI  : (AV.nilI).cellb = true := rfl
@[simp] theorem e_cellb_ifc  : (AV.ifc).cellb = true := rfl
@[simp] theorem e_plain_nilM  : (AV.nilM).plain = true := rfl
@[simp] theorem e_plain_nilI  : (AV.nilI).plain = true := rfl
@[simp] theorem e_plain_ifc  : (AV.ifc).plain = true := rfl
@[simp] theorem e_bare_nilM  : (AV.nilM).bare = true := rfl
@[simp] theorem e_bare_nilI  : (AV.nilI).bare = true := rfl
@[simp] theorem e_bare_ifc  : (AV.ifc).bare = true := rfl
@[simp] theorem e_inCell_nilM (h : AH) (c nm : Nat)  : inCell h c nm (AV.nilM) = some ((AV.nilM), h, c) := rfl
@[simp] theorem e_inCell_nilI (h : AH) (c nm : Nat)  : inCell h c nm (AV.nilI) = some ((AV.nilI), h, c) := rfl
@[simp] theorem e_inCell_ifc (h : AH) (c nm : Nat)  : inCell h c nm (AV.ifc) = some ((AV.ifc), h, c) := rfl
@[simp] theorem e_lendCell_nilM (h : AH)  : lendCell h (AV.nilM) = some (AV.nilM) := rfl
@[simp] theorem e_lendCell_nilI (h : AH)  : lendCell h (AV.nilI) = some (AV.nilI) := rfl
@[simp] theorem e_lendCell_ifc (h : AH)  : lendCell h (AV.ifc) = some (AV.ifc) := rfl
@[simp] theorem e_mvCell_nilM (h : AH)  : mvCell h (AV.nilM) = some ((AV.nilM), h) := rfl
@[simp] theorem e_mvCell_nilI (h : AH)  : mvCell h (AV.nilI) = some ((AV.nilI), h) := rfl
@[simp] theorem e_mvCell_ifc (h : AH)  : mvCell h (AV.ifc) = some ((AV.ifc), h) := rfl
@[simp] theorem e_freeze1_nilM (h : AH)  : freeze1 h (AV.nilM) = some ((AV.nilM), h) := rfl
@[simp] theorem e_freeze1_nilI (h : AH)  : freeze1 h (AV.nilI) = some ((AV.nilI), h) := rfl
@[simp] theorem e_freeze1_ifc (h : AH)  : freeze1 h (AV.ifc) = some ((AV.ifc), h) := rfl
@[simp] theorem e_inVal_nilM (h : AH) (c nm : Nat)  : inVal h c nm (AV.nilM) = inCell h c nm (AV.nilM) := rfl
@[simp] theorem e_inVal_nilI (h : AH) (c nm : Nat)  : inVal h c nm (AV.nilI) = inCell h c nm (AV.nilI) := rfl
@[simp] theorem e_inVal_ifc (h : AH) (c nm : Nat)  : inVal h c nm (AV.ifc) = inCell h c nm (AV.ifc) := rfl
@[simp] theorem e_lendArg_nilM (h : AH)  : lendArg h (AV.nilM) = lendCell h (AV.nilM) := rfl
@[simp] theorem e_lendArg_nilI (h : AH)  : lendArg h (AV.nilI) = lendCell h (AV.nilI) := rfl
@[simp] theorem e_lendArg_ifc (h : AH)  : lendArg h (AV.ifc) = lendCell h (AV.ifc) := rfl
@[simp] theorem e_inRes_nilM (h : AH) (c nm : Nat)  : inRes h c nm (AV.nilM) = inVal h c nm (AV.nilM) := rfl
@[simp] theorem e_inRes_nilI (h : AH) (c nm : Nat)  : inRes h c nm (AV.nilI) = inVal h c nm (AV.nilI) := rfl
@[simp] theorem e_inRes_ifc (h : AH) (c nm : Nat)  : inRes h c nm (AV.ifc) = inVal h c nm (AV.ifc) := rfl
@[simp] theorem e_outRes_nilM (h : AH)  : outRes h (AV.nilM) = outVal h (AV.nilM) := rfl
@[simp] theorem e_outRes_nilI (h : AH)  : outRes h (AV.nilI) = outVal h (AV.nilI) := rfl
@[simp] theorem e_outRes_ifc (h : AH)  : outRes h (AV.ifc) = outVal h (AV.ifc) := rfl
@[simp] theorem e_outVal_nilM (h : AH)  : outVal h (AV.nilM) = mvCell h (AV.nilM) := rfl
@[simp] theorem e_outVal_nilI (h : AH)  : outVal h (AV.nilI) = mvCell h (AV.nilI) := rfl
@[simp] theorem e_outVal_ifc (h : AH)  : outVal h (AV.ifc) = mvCell h (AV.ifc) := rfl
@[simp] theorem e_srcRows_nilM (h : AH) (sz : Nat)  : srcRows h sz (AV.nilM) = rowsOf h sz (AV.nilM) := rfl
@[simp] theorem e_srcRows_nilI (h : AH) (sz : Nat)  : srcRows h sz (AV.nilI) = rowsOf h sz (AV.nilI) := rfl
@[simp] theorem e_srcRows_ifc (h : AH) (sz : Nat)  : srcRows h sz (AV.ifc) = rowsOf h sz (AV.ifc) := rfl
@[simp] theorem e_cells_ro (t : Bool) (z : Nat) (rows : List (List AV)) : (AV.ro t z rows).cells = [(AV.ro t z rows)] := rfl
@[simp] theorem e_cellb_ro (t : Bool) (z : Nat) (rows : List (List AV)) : (AV.ro t z rows).cellb = true := rfl
@[simp] theorem e_plain_ro0 (z : Nat) (rows : List (List AV)) : (AV.ro false z rows).plain = true := rfl
@[simp] theorem e_plain_ro1 (z : Nat) (rows : List (List AV)) : (AV.ro true z rows).plain = false := rfl
@[simp] theorem e_bare_ro (t : Bool) (z : Nat) (rows : List (List AV)) : (AV.ro t z rows).bare = true := rfl
@[simp] theorem e_inCell_ro (h : AH) (c nm : Nat) (t : Bool) (z : Nat) (rows : List (List AV)) : inCell h c nm (AV.ro t z rows) = some ((AV.ro t z rows), h, c) := rfl
@[simp] theorem e_lendCell_ro (h : AH) (t : Bool) (z : Nat) (rows : List (List AV)) : lendCell h (AV.ro t z rows) = some (AV.ro t z rows) := rfl
@[simp] theorem e_mvCell_ro (h : AH) (z : Nat) (rows : List (List AV)) : mvCell h (AV.ro false z rows) = some ((AV.ro false z rows), h) := rfl
@[simp] theorem e_freeze1_ro (h : AH) (z : Nat) (rows : List (List AV)) : freeze1 h (AV.ro false z rows) = some ((AV.ro false z rows), h) := rfl
@[simp] theorem e_inVal_ro (h : AH) (c nm : Nat) (t : Bool) (z : Nat) (rows : List (List AV)) : inVal h c nm (AV.ro t z rows) = inCell h c nm (AV.ro t z rows) := rfl
@[simp] theorem e_lendArg_ro (h : AH) (t : Bool) (z : Nat) (rows : List (List AV)) : lendArg h (AV.ro t z rows) = lendCell h (AV.ro t z rows) := rfl
@[simp] theorem e_inRes_ro (h : AH) (c nm : Nat) (t : Bool) (z : Nat) (rows : List (List AV)) : inRes h c nm (AV.ro t z rows) = inVal h c nm (AV.ro t z rows) := rfl
@[simp] theorem e_outRes_ro (h : AH) (t : Bool) (z : Nat) (rows : List (List AV)) : outRes h (AV.ro t z rows) = outVal h (AV.ro t z rows) := rfl
@[simp] theorem e_outVal_ro (h : AH) (t : Bool) (z : Nat) (rows : List (List AV)) : outVal h (AV.ro t z rows) = mvCell h (AV.ro t z rows) := rfl
@[simp] theorem e_srcRows_ro (h : AH) (sz : Nat) (t : Bool) (z : Nat) (rows : List (List AV)) : srcRows h sz (AV.ro t z rows) = rowsOf h sz (AV.ro t z rows) := rfl
@[simp] theorem e_cells_own (n g o l : Nat) : (AV.own n g o l).cells = [(AV.own n g o l)] := rfl
@[simp] theorem e_cellb_own (n g o l : Nat) : (AV.own n g o l).cellb = true := rfl
@[simp] theorem e_plain_own (n g o l : Nat) : (AV.own n g o l).plain = false := rfl
@[simp] theorem e_bare_own (n g o l : Nat) : (AV.own n g o l).bare = false := rfl
@[simp] theorem e_inVal_own (h : AH) (c nm : Nat) (n g o l : Nat) : inVal h c nm (AV.own n g o l) = inCell h c nm (AV.own n g o l) := rfl
@[simp] theorem e_lendArg_own (h : AH) (n g o l : Nat) : lendArg h (AV.own n g o l) = lendCell h (AV.own n g o l) := rfl
@[simp] theorem e_inRes_own (h : AH) (c nm : Nat) (n g o l : Nat) : inRes h c nm (AV.own n g o l) = inVal h c nm (AV.own n g o l) := rfl
@[simp] theorem e_outRes_own (h : AH) (n g o l : Nat) : outRes h (AV.own n g o l) = outVal h (AV.own n g o l) := rfl
@[simp] theorem e_outVal_own (h : AH) (n g o l : Nat) : outVal h (AV.own n g o l) = mvCell h (AV.own n g o l) := rfl
@[simp] theorem e_srcRows_own (h : AH) (sz : Nat) (n g o l : Nat) : srcRows h sz (AV.own n g o l) = rowsOf h sz (AV.own n g o l) := rfl
@[simp] theorem e_cells_vsl (n g o l : Nat) : (AV.vsl n g o l).cells = [(AV.vsl n g o l)] := rfl
@[simp] theorem e_cellb_vsl (n g o l : Nat) : (AV.vsl n g o l).cellb = true := rfl
@[simp] theorem e_plain_vsl (n g o l : Nat) : (AV.vsl n g o l).plain = false := rfl
@[simp] theorem e_bare_vsl (n g o l : Nat) : (AV.vsl n g o l).bare = false := rfl
@[simp] theorem e_inVal_vsl (h : AH) (c nm : Nat) (n g o l : Nat) : inVal h c nm (AV.vsl n g o l) = inCell h c nm (AV.vsl n g o l) := rfl
@[simp] theorem e_lendArg_vsl (h : AH) (n g o l : Nat) : lendArg h (AV.vsl n g o l) = lendCell h (AV.vsl n g o l) := rfl
@[simp] theorem e_inRes_vsl (h : AH) (c nm : Nat) (n g o l : Nat) : inRes h c nm (AV.vsl n g o l) = inVal h c nm (AV.vsl n g o l) := rfl
@[simp] theorem e_outRes_vsl (h : AH) (n g o l : Nat) : outRes h (AV.vsl n g o l) = outVal h (AV.vsl n g o l) := rfl
@[simp] theorem e_outVal_vsl (h : AH) (n g o l : Nat) : outVal h (AV.vsl n g o l) = mvCell h (AV.vsl n g o l) := rfl
@[simp] theorem e_srcRows_vsl (h : AH) (sz : Nat) (n g o l : Nat) : srcRows h sz (AV.vsl n g o l) = rowsOf h sz (AV.vsl n g o l) := rfl
@[simp] theorem e_cells_ptr (n g o : Nat) : (AV.ptr n g o).cells = [(AV.ptr n g o)] := rfl
@[simp] theorem e_cellb_ptr (n g o : Nat) : (AV.ptr n g o).cellb = true := rfl
@[simp] theorem e_plain_ptr (n g o : Nat) : (AV.ptr n g o).plain = false := rfl
@[simp] theorem e_bare_ptr (n g o : Nat) : (AV.ptr n g o).bare = false := rfl
@[simp] theorem e_inVal_ptr (h : AH) (c nm : Nat) (n g o : Nat) : inVal h c nm (AV.ptr n g o) = inCell h c nm (AV.ptr n g o) := rfl
@[simp] theorem e_lendArg_ptr (h : AH) (n g o : Nat) : lendArg h (AV.ptr n g o) = lendCell h (AV.ptr n g o) := rfl
@[simp] theorem e_inRes_ptr (h : AH) (c nm : Nat) (n g o : Nat) : inRes h c nm (AV.ptr n g o) = inVal h c nm (AV.ptr n g o) := rfl
@[simp] theorem e_outRes_ptr (h : AH) (n g o : Nat) : outRes h (AV.ptr n g o) = outVal h (AV.ptr n g o) := rfl
@[simp] theorem e_srcRows_ptr (h : AH) (sz : Nat) (n g o : Nat) : srcRows h sz (AV.ptr n g o) = rowsOf h sz (AV.ptr n g o) := rfl
@[simp] theorem e_cells_eptr (n g i o : Nat) : (AV.eptr n g i o).cells = [(AV.eptr n g i o)] := rfl
@[simp] theorem e_cellb_eptr (n g i o : Nat) : (AV.eptr n g i o).cellb = true := rfl
@[simp] theorem e_plain_eptr (n g i o : Nat) : (AV.eptr n g i o).plain = false := rfl
@[simp] theorem e_bare_eptr (n g i o : Nat) : (AV.eptr n g i o).bare = false := rfl
@[simp] theorem e_inVal_eptr (h : AH) (c nm : Nat) (n g i o : Nat) : inVal h c nm (AV.eptr n g i o) = inCell h c nm (AV.eptr n g i o) := rfl
@[simp] theorem e_lendArg_eptr (h : AH) (n g i o : Nat) : lendArg h (AV.eptr n g i o) = lendCell h (AV.eptr n g i o) := rfl
@[simp] theorem e_inRes_eptr (h : AH) (c nm : Nat) (n g i o : Nat) : inRes h c nm (AV.eptr n g i o) = inVal h c nm (AV.eptr n g i o) := rfl
@[simp] theorem e_outRes_eptr (h : AH) (n g i o : Nat) : outRes h (AV.eptr n g i o) = outVal h (AV.eptr n g i o) := rfl
@[simp] theorem e_outVal_eptr (h : AH) (n g i o : Nat) : outVal h (AV.eptr n g i o) = mvCell h (AV.eptr n g i o) := rfl
@[simp] theorem e_srcRows_eptr (h : AH) (sz : Nat) (n g i o : Nat) : srcRows h sz (AV.eptr n g i o) = rowsOf h sz (AV.eptr n g i o) := rfl
@[simp] theorem e_cells_rptr (cs : List AV) : (AV.rptr cs).cells = [(AV.rptr cs)] := rfl
@[simp] theorem e_cellb_rptr (cs : List AV) : (AV.rptr cs).cellb = true := rfl
@[simp] theorem e_plain_rptr (cs : List AV) : (AV.rptr cs).plain = false := rfl
@[simp] theorem e_bare_rptr (cs : List AV) : (AV.rptr cs).bare = false := rfl
@[simp] theorem e_inVal_rptr (h : AH) (c nm : Nat) (cs : List AV) : inVal h c nm (AV.rptr cs) = inCell h c nm (AV.rptr cs) := rfl
@[simp] theorem e_lendArg_rptr (h : AH) (cs : List AV) : lendArg h (AV.rptr cs) = lendCell h (AV.rptr cs) := rfl
@[simp] theorem e_inRes_rptr (h : AH) (c nm : Nat) (cs : List AV) : inRes h c nm (AV.rptr cs) = inVal h c nm (AV.rptr cs) := rfl
@[simp] theorem e_outRes_rptr (h : AH) (cs : List AV) : outRes h (AV.rptr cs) = outVal h (AV.rptr cs) := rfl
@[simp] theorem e_outVal_rptr (h : AH) (cs : List AV) : outVal h (AV.rptr cs) = mvCell h (AV.rptr cs) := rfl
@[simp] theorem e_srcRows_rptr (h : AH) (sz : Nat) (cs : List AV) : srcRows h sz (AV.rptr cs) = rowsOf h sz (AV.rptr cs) := rfl
@[simp] theorem e_cells_fn (f : Nat) (cap : List AV) : (AV.fn f cap).cells = [(AV.fn f cap)] := rfl
@[simp] theorem e_cellb_fn (f : Nat) (cap : List AV) : (AV.fn f cap).cellb = true := rfl
@[simp] theorem e_plain_fn (f : Nat) (cap : List AV) : (AV.fn f cap).plain = false := rfl
@[simp] theorem e_bare_fn (f : Nat) : (AV.fn f []).bare = true := rfl
@[simp] theorem e_inCell_fn (h : AH) (c nm : Nat) (f : Nat) : inCell h c nm (AV.fn f []) = some ((AV.fn f []), h, c) := rfl
@[simp] theorem e_lendCell_fn (h : AH) (f : Nat) : lendCell h (AV.fn f []) = some (AV.fn f []) := rfl
@[simp] theorem e_inVal_fn (h : AH) (c nm : Nat) (f : Nat) (cap : List AV) : inVal h c nm (AV.fn f cap) = inCell h c nm (AV.fn f cap) := rfl
@[simp] theorem e_lendArg_fn (h : AH) (f : Nat) (cap : List AV) : lendArg h (AV.fn f cap) = lendCell h (AV.fn f cap) := rfl
@[simp] theorem e_inRes_fn (h : AH) (c nm : Nat) (f : Nat) (cap : List AV) : inRes h c nm (AV.fn f cap) = inVal h c nm (AV.fn f cap) := rfl
@[simp] theorem e_outRes_fn (h : AH) (f : Nat) (cap : List AV) : outRes h (AV.fn f cap) = outVal h (AV.fn f cap) := rfl
@[simp] theorem e_outVal_fn (h : AH) (f : Nat) (cap : List AV) : outVal h (AV.fn f cap) = mvCell h (AV.fn f cap) := rfl
@[simp] theorem e_srcRows_fn (h : AH) (sz : Nat) (f : Nat) (cap : List AV) : srcRows h sz (AV.fn f cap) = rowsOf h sz (AV.fn f cap) := rfl
@[simp] theorem e_cells_bm (f : Nat) (cap : List AV) : (AV.bm f cap).cells = [(AV.bm f cap)] := rfl
@[simp] theorem e_cellb_bm (f : Nat) (cap : List AV) : (AV.bm f cap).cellb = true := rfl
@[simp] theorem e_plain_bm (f : Nat) (cap : List AV) : (AV.bm f cap).plain = false := rfl
@[simp] theorem e_inVal_bm (h : AH) (c nm : Nat) (f : Nat) (cap : List AV) : inVal h c nm (AV.bm f cap) = inCell h c nm (AV.bm f cap) := rfl
@[simp] theorem e_lendArg_bm (h : AH) (f : Nat) (cap : List AV) : lendArg h (AV.bm f cap) = lendCell h (AV.bm f cap) := rfl
@[simp] theorem e_inRes_bm (h : AH) (c nm : Nat) (f : Nat) (cap : List AV) : inRes h c nm (AV.bm f cap) = inVal h c nm (AV.bm f cap) := rfl
@[simp] theorem e_outRes_bm (h : AH) (f : Nat) (cap : List AV) : outRes h (AV.bm f cap) = outVal h (AV.bm f cap) := rfl
@[simp] theorem e_outVal_bm (h : AH) (f : Nat) (cap : List AV) : outVal h (AV.bm f cap) = mvCell h (AV.bm f cap) := rfl
@[simp] theorem e_srcRows_bm (h : AH) (sz : Nat) (f : Nat) (cap : List AV) : srcRows h sz (AV.bm f cap) = rowsOf h sz (AV.bm f cap) := rfl
@[simp] theorem e_bare_bm (f : Nat) (cap : List AV) : (AV.bm f cap).bare = false := rfl
@[simp] theorem e_cells_fr (z : Nat) (rows : List (List AV)) : (AV.fr z rows).cells = [(AV.fr z rows)] := rfl
@[simp] theorem e_cellb_fr (z : Nat) (rows : List (List AV)) : (AV.fr z rows).cellb = false := rfl
@[simp] theorem e_plain_fr (z : Nat) (rows : List (List AV)) : (AV.fr z rows).plain = false := rfl
@[simp] theorem e_bare_fr (z : Nat) (rows : List (List AV)) : (AV.fr z rows).bare = false := rfl
@[simp] theorem e_inVal_fr (h : AH) (c nm : Nat) (z : Nat) (rows : List (List AV)) : inVal h c nm (AV.fr z rows) = inCell h c nm (AV.fr z rows) := rfl
@[simp] theorem e_inRes_fr (h : AH) (c nm : Nat) (z : Nat) (rows : List (List AV)) : inRes h c nm (AV.fr z rows) = inVal h c nm (AV.fr z rows) := rfl
@[simp] theorem e_outRes_fr (h : AH) (z : Nat) (rows : List (List AV)) : outRes h (AV.fr z rows) = outVal h (AV.fr z rows) := rfl
@[simp] theorem e_outVal_fr (h : AH) (z : Nat) (rows : List (List AV)) : outVal h (AV.fr z rows) = mvCell h (AV.fr z rows) := rfl
@[simp] theorem e_srcRows_fr (h : AH) (sz : Nat) (z : Nat) (rows : List (List AV)) : srcRows h sz (AV.fr z rows) = rowsOf h sz (AV.fr z rows) := rfl
@[simp] theorem e_cells_pv (cs : List AV) : (AV.pv cs).cells = [(AV.pv cs)] := rfl
@[simp] theorem e_cellb_pv (cs : List AV) : (AV.pv cs).cellb = false := rfl
@[simp] theorem e_plain_pv (cs : List AV) : (AV.pv cs).plain = false := rfl
@[simp] theorem e_bare_pv (cs : List AV) : (AV.pv cs).bare = false := rfl
@[simp] theorem e_inRes_pv (h : AH) (c nm : Nat) (cs : List AV) : inRes h c nm (AV.pv cs) = inVal h c nm (AV.pv cs) := rfl
@[simp] theorem e_outRes_pv (h : AH) (cs : List AV) : outRes h (AV.pv cs) = outVal h (AV.pv cs) := rfl
@[simp] theorem e_outVal_pv (h : AH) (cs : List AV) : outVal h (AV.pv cs) = mvCell h (AV.pv cs) := rfl
@[simp] theorem e_srcRows_pv (h : AH) (sz : Nat) (cs : List AV) : srcRows h sz (AV.pv cs) = rowsOf h sz (AV.pv cs) := rfl
@[simp] theorem e_cells_opq (k : Nat) : (AV.opq k).cells = [(AV.opq k)] := rfl
@[simp] theorem e_cellb_opq (k : Nat) : (AV.opq k).cellb = true := rfl
@[simp] theorem e_plain_opq (k : Nat) : (AV.opq k).plain = false := rfl
@[simp] theorem e_bare_opq (k : Nat) : (AV.opq k).bare = false := rfl
@[simp] theorem e_inVal_opq (h : AH) (c nm : Nat) (k : Nat) : inVal h c nm (AV.opq k) = inCell h c nm (AV.opq k) := rfl
@[simp] theorem e_lendArg_opq (h : AH) (k : Nat) : lendArg h (AV.opq k) = lendCell h (AV.opq k) := rfl
@[simp] theorem e_inRes_opq (h : AH) (c nm : Nat) (k : Nat) : inRes h c nm (AV.opq k) = inVal h c nm (AV.opq k) := rfl
@[simp] theorem e_outRes_opq (h : AH) (k : Nat) : outRes h (AV.opq k) = outVal h (AV.opq k) := rfl
@[simp] theorem e_outVal_opq (h : AH) (k : Nat) : outVal h (AV.opq k) = mvCell h (AV.opq k) := rfl
@[simp] theorem e_srcRows_opq (h : AH) (sz : Nat) (k : Nat) : srcRows h sz (AV.opq k) = rowsOf h sz (AV.opq k) := rfl
@[simp] theorem e_abin_add (k k' : IntKind) (a b : Int) : abin .add (.int k a) (.int k' b) = if k = k' then aint .add k a b else none := rfl
@[simp] theorem e_abin_sub (k k' : IntKind) (a b : Int) : abin .sub (.int k a) (.int k' b) = if k = k' then aint .sub k a b else none := rfl
@[simp] theorem e_abin_mul (k k' : IntKind) (a b : Int) : abin .mul (.int k a) (.int k' b) = if k = k' then aint .mul k a b else none := rfl
@[simp] theorem e_abin_quo (k k' : IntKind) (a b : Int) : abin .quo (.int k a) (.int k' b) = if k = k' then aint .quo k a b else none := rfl
@[simp] theorem e_abin_rem (k k' : IntKind) (a b : Int) : abin .rem (.int k a) (.int k' b) = if k = k' then aint .rem k a b else none := rfl
@[simp] theorem e_abin_and (k k' : IntKind) (a b : Int) : abin .and (.int k a) (.int k' b) = if k = k' then aint .and k a b else none := rfl
@[simp] theorem e_abin_or (k k' : IntKind) (a b : Int) : abin .or (.int k a) (.int k' b) = if k = k' then aint .or k a b else none := rfl
@[simp] theorem e_abin_xor (k k' : IntKind) (a b : Int) : abin .xor (.int k a) (.int k' b) = if k = k' then aint .xor k a b else none := rfl
@[simp] theorem e_abin_andNot (k k' : IntKind) (a b : Int) : abin .andNot (.int k a) (.int k' b) = if k = k' then aint .andNot k a b else none := rfl
@[simp] theorem e_abin_eql (k k' : IntKind) (a b : Int) : abin .eql (.int k a) (.int k' b) = if k = k' then aint .eql k a b else none := rfl
@[simp] theorem e_abin_neq (k k' : IntKind) (a b : Int) : abin .neq (.int k a) (.int k' b) = if k = k' then aint .neq k a b else none := rfl
@[simp] theorem e_abin_lss (k k' : IntKind) (a b : Int) : abin .lss (.int k a) (.int k' b) = if k = k' then aint .lss k a b else none := rfl
@[simp] theorem e_abin_leq (k k' : IntKind) (a b : Int) : abin .leq (.int k a) (.int k' b) = if k = k' then aint .leq k a b else none := rfl
@[simp] theorem e_abin_gtr (k k' : IntKind) (a b : Int) : abin .gtr (.int k a) (.int k' b) = if k = k' then aint .gtr k a b else none := rfl
@[simp] theorem e_abin_geq (k k' : IntKind) (a b : Int) : abin .geq (.int k a) (.int k' b) = if k = k' then aint .geq k a b else none := rfl
@[simp] theorem e_abin_shl (k k' : IntKind) (a b : Int) : abin .shl (.int k a) (.int k' b) = ashift .shl k a b := rfl
@[simp] theorem e_abin_shr (k k' : IntKind) (a b : Int) : abin .shr (.int k a) (.int k' b) = ashift .shr k a b := rfl
@[simp] theorem e_abin_sadd (a b : ByteArray) : abin .add (.str a) (.str b) = astr .add a b := rfl
@[simp] theorem e_abin_seql (a b : ByteArray) : abin .eql (.str a) (.str b) = astr .eql a b := rfl
@[simp] theorem e_abin_sneq (a b : ByteArray) : abin .neq (.str a) (.str b) = astr .neq a b := rfl
@[simp] theorem e_abin_slss (a b : ByteArray) : abin .lss (.str a) (.str b) = astr .lss a b := rfl
@[simp] theorem e_abin_sleq (a b : ByteArray) : abin .leq (.str a) (.str b) = astr .leq a b := rfl
@[simp] theorem e_abin_sgtr (a b : ByteArray) : abin .gtr (.str a) (.str b) = astr .gtr a b := rfl
@[simp] theorem e_abin_sgeq (a b : ByteArray) : abin .geq (.str a) (.str b) = astr .geq a b := rfl
@[simp] theorem e_resVal_0  : resVal [] = .tup [] := rfl
@[simp] theorem e_resVal_1 (v : AV) : resVal [v] = v := rfl
@[simp] theorem e_resVal_2 (a b : AV) (r : List AV) : resVal (a :: b :: r) = .tup (a :: b :: r) := rfl

theorem loop_eq (b : ByteArray) : ∀ (k i : Nat) (r : List UInt8), b.size - i = k → ByteArray.toList.loop b i r = r.reverse ++ b.data.toList.drop i := by
  intro k
  induction k with
  | zero =>
    intro i r h
    rw [ByteArray.toList.loop, if_neg (by omega)]
    rw [List.drop_of_length_le (by have : b.data.toList.length = b.size := rfl
                                   omega)]
    simp
  | succ k ih =>
    intro i r h
    have hlt : i < b.size := by omega
    rw [ByteArray.toList.loop, if_pos hlt, ih (i + 1) _ (by omega)]
    have hl : i < b.data.toList.length := hlt
    rw [List.drop_eq_getElem_cons hl]
    have : b.get! i = b.data.toList[i] := by
      simp [ByteArray.get!]
      rw [getElem!_pos]
    simp [this]
theorem toList_eq (b : ByteArray) : b.toList = b.data.toList := by
  unfold ByteArray.toList
  rw [loop_eq b _ 0 [] rfl]; rfl

@[simp] theorem size_mk (l : List UInt8) : (⟨l.toArray⟩ : ByteArray).size = l.length := by simp [ByteArray.size]
@[simp] theorem astr_eql (a b : List UInt8) : astr .eql ⟨a.toArray⟩ ⟨b.toArray⟩ = some (.bool (a == b)) := by simp [astr, toList_eq]
@[simp] theorem astr_neq (a b : List UInt8) : astr .neq ⟨a.toArray⟩ ⟨b.toArray⟩ = some (.bool !(a == b)) := by simp [astr, toList_eq]
@[simp] theorem astr_lss (a b : List UInt8) : astr .lss ⟨a.toArray⟩ ⟨b.toArray⟩ = some (.bool (Op.bytesLess a b)) := by simp [astr, toList_eq]
theorem mkBytes (s : ByteArray) : ∃ l : List UInt8, s = ⟨l.toArray⟩ := ⟨s.data.toList, by simp⟩

theorem wrap_i64 (n : Int) (h0 : -9223372036854775808 ≤ n) (h : n ≤ 9223372036854775807) : IntKind.i64.wrap n = n := Go.IntWalk.i64_in n ⟨h0, h⟩
theorem wrap_u8 (n : Int) : IntKind.u8.wrap n = n % 256 := by rw [IntKind.wrap_u8]

theorem envOnly_idem (ks : List Nat) (e : Env) : envOnly ks (envOnly ks e) = envOnly ks e := by
  induction e with
  | nil => rfl
  | cons x r ih =>
    obtain ⟨m, u⟩ := x
    simp only [envOnly]
    split
    · next h => simp only [envOnly, h, if_true, ih]
    · exact ih
theorem only_idem (ks : List Nat) (h : AH) : (h.only ks).only ks = h.only ks := by
  induction h with
  | nil => rfl
  | cons e r ih =>
    simp only [AH.only]
    split
    · next h => simp only [AH.only, h, if_true, ih]
    · exact ih

/-- a loop sees what it keeps alone -/
theorem iter_keep (f kt kh k) (s : St) : iter f kt kh k s = iter f kt kh k ⟨envOnly kt s.env, s.h.only kh, s.c⟩ := by
  cases k with
  | zero => rfl
  | succ k => simp only [iter, envOnly_idem, only_idem]

theorem iter_succ (f kt kh k) (s : St) : iter f kt kh (k + 1) s = match f ⟨envOnly kt s.env, s.h.only kh, s.c⟩ with
    | some (.normal, s') => iter f kt kh k s'
    | r => r := rfl

theorem toBytes_map (l : List UInt8) : toBytes (l.map fun b => [.int .u8 (b.toNat : Int)]) = some l := by
  induction l with
  | nil => rfl
  | cons b r ih => simp [toBytes, ih]
theorem toBytes_rows (l : List UInt8) : toBytes (byteRows l) = some l := toBytes_map l

theorem append_bytes (a b : List UInt8) : (⟨a.toArray⟩ : ByteArray) ++ ⟨b.toArray⟩ = ⟨(a ++ b).toArray⟩ := by
  apply ByteArray.ext
  simp
theorem astr_add_bytes (a b : List UInt8) (h : a.length + b.length ≤ 9223372036854775807) : astr .add ⟨a.toArray⟩ ⟨b.toArray⟩ = some (.str ⟨(a ++ b).toArray⟩) := by
  unfold astr
  rw [if_neg]
  · rw [append_bytes]
  · have e1 : (⟨a.toArray⟩ : ByteArray).size = a.length := by simp [ByteArray.size]
    have e2 : (⟨b.toArray⟩ : ByteArray).size = b.length := by simp [ByteArray.size]
    have e3 : IntKind.i64.max = 9223372036854775807 := by decide +kernel
    rw [e1, e2, e3]
    omega

@[simp] theorem bits_i64 : IntKind.i64.bits = 64 := rfl
@[simp] theorem bits_u64 : IntKind.u64.bits = 64 := rfl
@[simp] theorem bits_u32 : IntKind.u32.bits = 32 := rfl
@[simp] theorem bits_u8 : IntKind.u8.bits = 8 := rfl
def St.keep (kt kh : List Nat) (s : St) : St := ⟨envOnly kt s.env, s.h.only kh, s.c⟩
/-- one round -/
theorem iter_norm {f kt kh k} {s s' : St} (h : (f (s.keep kt kh)).map (fun r => (r.1, r.2.keep kt kh)) = some (.normal, s')) : iter f kt kh (k + 1) s = iter f kt kh k s' := by
  rw [Option.map_eq_some_iff] at h
  obtain ⟨⟨e, q⟩, h1, h2⟩ := h
  simp only [Prod.mk.injEq] at h2
  obtain ⟨rfl, rfl⟩ := h2
  rw [iter_succ]
  unfold St.keep at h1
  rw [h1]
  exact iter_keep _ _ _ _ _
theorem iter_out {f kt kh k} {s s' : St} {e : Ex} (he : e ≠ .normal) (h : f (s.keep kt kh) = some (e, s')) : iter f kt kh (k + 1) s = some (e, s') := by
  rw [iter_succ]
  unfold St.keep at h
  rw [h]
  cases e <;> first | rfl | exact absurd rfl he

theorem or_low (m x : Nat) (j : Nat) (hx : x < 2 ^ j) (hn : m * 2 ^ j + x < 2 ^ 63) : abits .or .i64 ((m * 2 ^ j : Nat) : Int) (x : Int) = some (.int .i64 ((m * 2 ^ j + x : Nat) : Int)) := by
  have h1 : (BitVec.ofInt IntKind.i64.bits ((m * 2 ^ j : Nat) : Int) ||| BitVec.ofInt IntKind.i64.bits (x : Int)).toNat = m * 2 ^ j + x := by
    have e : IntKind.i64.bits = 64 := rfl
    rw [e, BitVec.ofInt_natCast, BitVec.ofInt_natCast, BitVec.toNat_or, BitVec.toNat_ofNat, BitVec.toNat_ofNat]
    generalize hp : 2 ^ j = p at *
    rw [Nat.mod_eq_of_lt (by omega), Nat.mod_eq_of_lt (by omega), ← hp, Nat.mul_comm, Nat.two_pow_add_eq_or_of_lt (by omega)]
  show some (AV.int .i64 (IntKind.i64.wrap ((BitVec.ofInt IntKind.i64.bits ((m * 2 ^ j : Nat) : Int) ||| BitVec.ofInt IntKind.i64.bits (x : Int)).toNat : Int))) = _
  rw [h1, wrap_i64] <;> omega
theorem iter_outE {f kt kh k} {s : St} {e : Ex} {p : St → Prop} (he : e ≠ .normal) (h : ∃ s', f (s.keep kt kh) = some (e, s') ∧ p s') : ∃ s', iter f kt kh (k + 1) s = some (e, s') ∧ p s' := by
  obtain ⟨s', h1, h2⟩ := h
  exact ⟨s', iter_out he h1, h2⟩
end Go.Abs
namespace Go.Abs
variable [Globs]
section
variable (ns : List Nat) (al : List (Nat × Nat))
@[simp] theorem l_low1_int (k : IntKind) (n : Int) : AV.low1 ns al (.int k n) = true := rfl
@[simp] theorem l_low2_int (k : IntKind) (n : Int) : AV.low2 ns al (.int k n) = true := rfl
@[simp] theorem l_low_int (k : IntKind) (n : Int) : AV.low ns al (.int k n) = true := rfl
@[simp] theorem l_low1_bool (b : Bool) : AV.low1 ns al (.bool b) = true := rfl
@[simp] theorem l_low2_bool (b : Bool) : AV.low2 ns al (.bool b) = true := rfl
@[simp] theorem l_low_bool (b : Bool) : AV.low ns al (.bool b) = true := rfl
@[simp] theorem l_low1_str (s : ByteArray) : AV.low1 ns al (.str s) = true := rfl
@[simp] theorem l_low2_str (s : ByteArray) : AV.low2 ns al (.str s) = true := rfl
@[simp] theorem l_low_str (s : ByteArray) : AV.low ns al (.str s) = true := rfl
@[simp] theorem l_low1_nilS  : AV.low1 ns al (.nilS ) = true := rfl
@[simp] theorem l_low2_nilS  : AV.low2 ns al (.nilS ) = true := rfl
@[simp] theorem l_low_nilS  : AV.low ns al (.nilS ) = true := rfl
@[simp] theorem l_low1_emp  : AV.low1 ns al (.emp ) = true := rfl
@[simp] theorem l_low2_emp  : AV.low2 ns al (.emp ) = true := rfl
@[simp] theorem l_low_emp  : AV.low ns al (.emp ) = true := rfl
@[simp] theorem l_low1_nilP  : AV.low1 ns al (.nilP ) = true := rfl
@[simp] theorem l_low2_nilP  : AV.low2 ns al (.nilP ) = true := rfl
@[simp] theorem l_low_nilP  : AV.low ns al (.nilP ) = true := rfl
@[simp] theorem l_low1_nilF  : AV.low1 ns al (.nilF ) = true := rfl
@[simp] theorem l_low2_nilF  : AV.low2 ns al (.nilF ) = true := rfl
@[simp] theorem l_low_nilF  : AV.low ns al (.nilF ) = true := rfl
@[simp] theorem l_low1_nilM  : AV.low1 ns al (.nilM ) = true := rfl
@[simp] theorem l_low1_nilI  : AV.low1 ns al (.nilI ) = true := rfl
@[simp] theorem l_low1_ifc  : AV.low1 ns al (.ifc ) = true := rfl
@[simp] theorem l_low2_nilM  : AV.low2 ns al (.nilM ) = true := rfl
@[simp] theorem l_low2_nilI  : AV.low2 ns al (.nilI ) = true := rfl
@[simp] theorem l_low2_ifc  : AV.low2 ns al (.ifc ) = true := rfl
@[simp] theorem l_low_nilM  : AV.low ns al (.nilM ) = true := rfl
@[simp] theorem l_low_nilI  : AV.low ns al (.nilI ) = true := rfl
@[simp] theorem l_low_ifc  : AV.low ns al (.ifc ) = true := rfl
@[simp] theorem l_low1_ro (t : Bool) (sz : Nat) (rows : List (List AV)) : AV.low1 ns al (.ro t sz rows) = true := rfl
@[simp] theorem l_low2_ro (t : Bool) (sz : Nat) (rows : List (List AV)) : AV.low2 ns al (.ro t sz rows) = true := rfl
@[simp] theorem l_low_ro (t : Bool) (sz : Nat) (rows : List (List AV)) : AV.low ns al (.ro t sz rows) = true := rfl
@[simp] theorem l_low1_rptr (cs : List AV) : AV.low1 ns al (.rptr cs) = true := rfl
@[simp] theorem l_low2_rptr (cs : List AV) : AV.low2 ns al (.rptr cs) = true := rfl
@[simp] theorem l_low_rptr (cs : List AV) : AV.low ns al (.rptr cs) = true := rfl
@[simp] theorem l_low1_own (a b c d : Nat) : AV.low1 ns al (.own a b c d) = (genIn al b && ns.any (Nat.beq a)) := rfl
@[simp] theorem l_low2_own (a b c d : Nat) : AV.low2 ns al (.own a b c d) = (genIn al b && ns.any (Nat.beq a)) := rfl
@[simp] theorem l_low_own (a b c d : Nat) : AV.low ns al (.own a b c d) = (genIn al b && ns.any (Nat.beq a)) := rfl
@[simp] theorem l_low1_vsl (a b c d : Nat) : AV.low1 ns al (.vsl a b c d) = (genIn al b && ns.any (Nat.beq a)) := rfl
@[simp] theorem l_low2_vsl (a b c d : Nat) : AV.low2 ns al (.vsl a b c d) = (genIn al b && ns.any (Nat.beq a)) := rfl
@[simp] theorem l_low_vsl (a b c d : Nat) : AV.low ns al (.vsl a b c d) = (genIn al b && ns.any (Nat.beq a)) := rfl
@[simp] theorem l_low1_ptr (a b c : Nat) : AV.low1 ns al (.ptr a b c) = (genIn al b && ns.any (Nat.beq a)) := rfl
@[simp] theorem l_low2_ptr (a b c : Nat) : AV.low2 ns al (.ptr a b c) = (genIn al b && ns.any (Nat.beq a)) := rfl
@[simp] theorem l_low_ptr (a b c : Nat) : AV.low ns al (.ptr a b c) = (genIn al b && ns.any (Nat.beq a)) := rfl
@[simp] theorem l_low1_eptr (a b c d : Nat) : AV.low1 ns al (.eptr a b c d) = (genIn al b && ns.any (Nat.beq a)) := rfl
@[simp] theorem l_low2_eptr (a b c d : Nat) : AV.low2 ns al (.eptr a b c d) = (genIn al b && ns.any (Nat.beq a)) := rfl
@[simp] theorem l_low_eptr (a b c d : Nat) : AV.low ns al (.eptr a b c d) = (genIn al b && ns.any (Nat.beq a)) := rfl
@[simp] theorem l_low2_agg (cs : List AV) : AV.low2 ns al (.agg cs) = lowL ns al cs := rfl
@[simp] theorem l_low_agg (cs : List AV) : AV.low ns al (.agg cs) = lowL ns al cs := rfl
@[simp] theorem l_low_tup (cs : List AV) : AV.low ns al (.tup cs) = lowL2 ns al cs := rfl
@[simp] theorem l_low1_fn (f : Nat) : AV.low1 ns al (.fn f []) = true := rfl
@[simp] theorem l_low2_fn (f : Nat) (cs : List AV) : AV.low2 ns al (.fn f cs) = lowL ns al cs := rfl
@[simp] theorem l_low_fn (f : Nat) (cs : List AV) : AV.low ns al (.fn f cs) = lowL ns al cs := rfl
@[simp] theorem l_low2_bm (f : Nat) (cs : List AV) : AV.low2 ns al (.bm f cs) = lowL ns al cs := rfl
@[simp] theorem l_low_bm (f : Nat) (cs : List AV) : AV.low ns al (.bm f cs) = lowL ns al cs := rfl
end
end Go.Abs
namespace Go.Abs
variable [Globs]
@[simp] theorem s_astr_eql (x y : ByteArray) : astr .eql x y = some (.bool (x.toList == y.toList)) := rfl
@[simp] theorem s_astr_neq (x y : ByteArray) : astr .neq x y = some (.bool !(x.toList == y.toList)) := rfl
end Go.Abs
namespace Go.Abs
variable [Globs]
@[simp] theorem s_fill0 (env : Env) (cs : List AV) : fillParts env cs [] = some cs := rfl
@[simp] theorem s_fill1 (env : Env) (cs : List AV) (off sz : Nat) (x : X) (r : List (Nat × Nat × X)) : fillParts env cs ((off, sz, x) :: r) = match env.x x with
    | some v => if v.cells.length = sz ∧ off + sz ≤ cs.length then fillParts env (splice cs off v.cells) r else none
    | none => none := by
  rw [fillParts]; cases env.x x <;> rfl
end Go.Abs

namespace Go.Abs
variable [Globs]
open Go Go.RowKit

/-- A law's contract as the row wants it: nothing that came in goes along. -/
theorem Refines.law {P : Program} {f : Nat} {F : CallF} {bs : List AV} {cargs : List Value} {w : World} (H : Refines P f F) (hF : F bs = some (.bool true, []))
    (hgl : GlobOK (fun b => b < w.heap.size) w) (hbs : FVals (Gh.only (fun b => b < w.heap.size) fun _ => False) w bs cargs []) :
    Calls P f ⟨cargs⟩ w fun e w' => e = .returned (.bool true) ∧ Below w.heap.size w w' := by
  refine (H bs _ _ hF _ _ w cargs [] hgl hbs (by simp) (by simp) (by simp)).mono ?_
  rintro e w' ⟨cv, R0', fpr, fpp, rfl, h1, h2, h3, h4, h5, _, _, h8, _⟩
  refine ⟨?_, ⟨h2, h3, h4, h1, fun k hk => h5 k hk (by simp)⟩⟩
  cases h8 with
  | val h =>
    cases h with
    | cell h =>
      cases h with
      | bare _ _ _ hv => cases hv; rfl

theorem FVal.int {G : Gh} {w : World} (k : IntKind) (n : Int) : FVal G w (.int k n) (.int k n) [] := .cell (.bare _ _ rfl (.int k n))
theorem FVal.str {G : Gh} {w : World} (s : ByteArray) : FVal G w (.str s) (.string s) [] := .cell (.bare _ _ rfl (.str s))
theorem FVal.bool {G : Gh} {w : World} (b : Bool) : FVal G w (.bool b) (.bool b) [] := .cell (.bare _ _ rfl (.bool b))
theorem FVals.cons0 {G : Gh} {w : World} {v cv vs cvs} (h : FVal G w v cv []) (t : FVals G w vs cvs []) : FVals G w (v :: vs) (cv :: cvs) [] := FVals.cons h t
end Go.Abs

namespace Go.Abs
variable [Globs]
open Go

/-- the shape of a cell of what comes in from without -/
inductive CSh where
  | int (k : IntKind)
  | bool
  | str
  | sl (row : List CSh)

mutual
/-- a value of the shape -/
def CSh.ok : CSh → AV → Prop
  | .int k, v => ∃ n, v = .int k n ∧ (Lit.int k n).wf = true
  | .bool, v => ∃ b, v = .bool b
  | .str, v => ∃ s : ByteArray, v = .str s ∧ s.size ≤ maxLen
  | .sl row, v => v = .nilS ∨ ∃ rows : List (List AV), v = .ro false row.length rows ∧ rows.length ≤ maxLen ∧ ∀ r, r ∈ rows → okRow row r
def okRow : List CSh → List AV → Prop
  | [], [] => True
  | c :: cs, v :: vs => c.ok v ∧ okRow cs vs
  | _, _ => False
end

theorem okRow.len : ∀ {cs vs}, okRow cs vs → vs.length = cs.length
  | [], [], _ => rfl
  | c :: cs, v :: vs, h => by
    simp only [okRow] at h
    simp [okRow.len h.2]
  | [], _ :: _, h => by simp [okRow] at h
  | _ :: _, [], h => by simp [okRow] at h
theorem okRow.append : ∀ {cs vs ds us}, okRow cs vs → okRow ds us → okRow (cs ++ ds) (vs ++ us)
  | [], [], _, _, _, k => k
  | c :: cs, v :: vs, _, _, h, k => by
    simp only [okRow] at h
    simp only [List.cons_append, okRow]
    exact ⟨h.1, okRow.append h.2 k⟩
  | [], _ :: _, _, _, h, _ => by simp [okRow] at h
  | _ :: _, [], _, _, h, _ => by simp [okRow] at h

theorem okRow.cons_inv {c cs l} (h : okRow (c :: cs) l) : ∃ v vs, l = v :: vs ∧ c.ok v ∧ okRow cs vs := by
  cases l with
  | nil => simp [okRow] at h
  | cons v vs => simp only [okRow] at h; exact ⟨v, vs, rfl, h⟩
theorem okRow.nil_inv {l} (h : okRow [] l) : l = [] := by
  cases l with
  | nil => rfl
  | cons v vs => simp [okRow] at h
theorem okRow.int {k cs l} (h : okRow (.int k :: cs) l) : ∃ n vs, l = .int k n :: vs ∧ (Lit.int k n).wf = true ∧ okRow cs vs := by
  obtain ⟨v, vs, rfl, h1, h2⟩ := h.cons_inv
  obtain ⟨n, rfl, hw⟩ := (by simpa only [CSh.ok] using h1 : ∃ n, v = .int k n ∧ (Lit.int k n).wf = true)
  exact ⟨n, vs, rfl, hw, h2⟩
theorem okRow.bool {cs l} (h : okRow (.bool :: cs) l) : ∃ b vs, l = .bool b :: vs ∧ okRow cs vs := by
  obtain ⟨v, vs, rfl, h1, h2⟩ := h.cons_inv
  obtain ⟨n, rfl⟩ := (by simpa only [CSh.ok] using h1 : ∃ b, v = .bool b)
  exact ⟨n, vs, rfl, h2⟩
theorem okRow.str {cs l} (h : okRow (.str :: cs) l) : ∃ s vs, l = .str s :: vs ∧ s.size ≤ maxLen ∧ okRow cs vs := by
  obtain ⟨v, vs, rfl, h1, h2⟩ := h.cons_inv
  obtain ⟨n, rfl, hw⟩ := (by simpa only [CSh.ok] using h1 : ∃ s : ByteArray, v = .str s ∧ s.size ≤ maxLen)
  exact ⟨n, vs, rfl, hw, h2⟩
theorem okRow.sl {row cs l} (h : okRow (.sl row :: cs) l) : ∃ v vs, l = v :: vs ∧ (v = .nilS ∨ ∃ rows : List (List AV), v = .ro false row.length rows ∧ rows.length ≤ maxLen ∧ ∀ r, r ∈ rows → okRow row r) ∧ okRow cs vs := by
  obtain ⟨v, vs, rfl, h1, h2⟩ := h.cons_inv
  exact ⟨v, vs, rfl, by simpa only [CSh.ok] using h1, h2⟩

theorem CSh.ok_plain {c : CSh} {v : AV} (h : c.ok v) : v.plain = true := by
  cases c with
  | int k => obtain ⟨n, rfl, _⟩ := (by simpa only [CSh.ok] using h : ∃ n, v = .int k n ∧ (Lit.int k n).wf = true); rfl
  | bool => obtain ⟨n, rfl⟩ := (by simpa only [CSh.ok] using h : ∃ b, v = .bool b); rfl
  | str => obtain ⟨n, rfl, _⟩ := (by simpa only [CSh.ok] using h : ∃ s : ByteArray, v = .str s ∧ s.size ≤ maxLen); rfl
  | sl row => rcases (by simpa only [CSh.ok] using h : v = .nilS ∨ ∃ rows : List (List AV), v = .ro false row.length rows ∧ rows.length ≤ maxLen ∧ ∀ r, r ∈ rows → okRow row r) with rfl | ⟨_, rfl, _⟩ <;> rfl
theorem okRow.plain : ∀ {cs vs}, okRow cs vs → vs.all AV.plain = true
  | [], [], _ => rfl
  | c :: cs, v :: vs, h => by
    simp only [okRow] at h
    rw [List.all_cons, CSh.ok_plain h.1, okRow.plain h.2]; rfl
  | [], _ :: _, h => by simp [okRow] at h
  | _ :: _, [], h => by simp [okRow] at h
theorem okRow.get : ∀ {cs vs}, okRow cs vs → ∀ {i : Nat} {c}, cs[i]? = some c → ∃ v, vs[i]? = some v ∧ c.ok v
  | [], [], _, i, c, hc => by simp at hc
  | c :: cs, v :: vs, h, i, c', hc => by
    simp only [okRow] at h
    cases i with
    | zero => simp only [List.getElem?_cons_zero, Option.some.injEq] at hc; subst hc; exact ⟨v, rfl, h.1⟩
    | succ i => rw [List.getElem?_cons_succ] at hc ⊢; exact okRow.get h.2 hc
  | [], _ :: _, h, _, _, _ => by simp [okRow] at h
  | _ :: _, [], h, _, _, _ => by simp [okRow] at h
theorem okRow.gint {cs vs} (h : okRow cs vs) (i : Nat) {k} (hc : cs[i]? = some (.int k)) : ∃ n, vs[i]? = some (.int k n) := by
  obtain ⟨v, h1, h2⟩ := h.get hc
  obtain ⟨n, rfl, _⟩ := (by simpa only [CSh.ok] using h2 : ∃ n, v = .int k n ∧ (Lit.int k n).wf = true)
  exact ⟨n, h1⟩
theorem okRow.gbool {cs vs} (h : okRow cs vs) (i : Nat) (hc : cs[i]? = some .bool) : ∃ n, vs[i]? = some (.bool n) := by
  obtain ⟨v, h1, h2⟩ := h.get hc
  obtain ⟨n, rfl⟩ := (by simpa only [CSh.ok] using h2 : ∃ b, v = .bool b)
  exact ⟨n, h1⟩
theorem okRow.gstr {cs vs} (h : okRow cs vs) (i : Nat) (hc : cs[i]? = some .str) : ∃ s, vs[i]? = some (.str s) := by
  obtain ⟨v, h1, h2⟩ := h.get hc
  obtain ⟨n, rfl, _⟩ := (by simpa only [CSh.ok] using h2 : ∃ s : ByteArray, v = .str s ∧ s.size ≤ maxLen)
  exact ⟨n, h1⟩
theorem okRow.gsl {cs vs row} (h : okRow cs vs) (i : Nat) (hc : cs[i]? = some (.sl row)) : ∃ v, vs[i]? = some v ∧ (v = .nilS ∨ ∃ rows : List (List AV), v = .ro false row.length rows ∧ rows.length ≤ maxLen ∧ ∀ r, r ∈ rows → okRow row r) := by
  obtain ⟨v, h1, h2⟩ := h.get hc
  exact ⟨v, h1, by simpa only [CSh.ok] using h2⟩
theorem take2_get {α : Type} {l : List α} {i : Nat} {a b : α} (h1 : l[i]? = some a) (h2 : l[i + 1]? = some b) : (l.drop i).take 2 = [a, b] := by
  obtain ⟨x1, y1⟩ := List.getElem?_eq_some_iff.1 h1
  obtain ⟨x2, y2⟩ := List.getElem?_eq_some_iff.1 h2
  rw [List.drop_eq_getElem_cons x1, List.drop_eq_getElem_cons x2, y1, y2]
  rfl

def shFs (P : Program) (g : TypeId → Option (List CSh)) : Nat → List Field → Option (List CSh)
  | _, [] => some []
  | off, f :: fs => if f.offset = off then (g f.type).bind fun r => if r.length = P.cellsOf f.type then (shFs P g (off + r.length) fs).map (r ++ ·) else none else none
/-- the cells' shapes of a type -/
def shOf (P : Program) : Nat → TypeId → Option (List CSh)
  | 0, _ => none
  | n + 1, t => match P.underlying t with
    | some .bool => some [.bool]
    | some (.int k) => some [.int k]
    | some .string => some [.str]
    | some (.slice e) => (shOf P n e).bind fun r => if r.length = P.cellsOf e ∧ 0 < r.length then some [.sl r] else none
    | some (.struct fs) => (shFs P (shOf P n) 0 fs.toList).bind fun r => if r.length = P.cellsOf t then some r else none
    | some (.array k e) => (shOf P n e).bind fun r => if r.length = P.cellsOf e ∧ k * r.length = P.cellsOf t then some (List.replicate k r).flatten else none
    | _ => none

abbrev G0 (w : World) : Gh := Gh.only (fun b => b < w.heap.size) fun _ => False

theorem cell_spot {w : World} {a : Addr} {v : Value} (h : w.cell? a = some v) : a.spot = none ∧ a.block < w.heap.size := by
  unfold World.cell? at h
  cases hb : w.heap[a.block]? with
  | none => rw [hb] at h; cases h
  | some o =>
    rw [hb] at h
    refine ⟨?_, (Array.getElem?_eq_some_iff.1 hb).1⟩
    cases o with
    | cells c e z =>
      simp only at h
      cases hs : a.spot with
      | none => rfl
      | some s => rw [hs] at h; simp at h
    | _ => cases h

theorem list_choose {α : Type} {p : Nat → α → Prop} : ∀ n, (∀ i, i < n → ∃ r, p i r) → ∃ l : List α, l.length = n ∧ ∀ (i : Nat) r, l[i]? = some r → p i r
  | 0, _ => ⟨[], rfl, fun i r h => by simp at h⟩
  | n + 1, h => by
    obtain ⟨l, hl, hp⟩ := list_choose n (fun i hi => h i (by omega))
    obtain ⟨r, hr⟩ := h n (by omega)
    refine ⟨l ++ [r], by simp [hl], fun i x hx => ?_⟩
    rcases Nat.lt_or_ge i n with y | y
    · rw [List.getElem?_append_left (by omega)] at hx; exact hp i x hx
    · rw [List.getElem?_append_right (by omega)] at hx
      have : i - l.length = 0 := by
        rcases Nat.eq_zero_or_pos (i - l.length) with z | z
        · exact z
        · rw [List.getElem?_eq_none (by simp; omega)] at hx; cases hx
      rw [this] at hx
      simp at hx
      subst hx
      have : i = n := by omega
      rw [this]; exact hr

theorem take_two {α : Type} (l : List α) (off a b : Nat) : (l.drop off).take (a + b) = (l.drop off).take a ++ (l.drop (off + a)).take b := by
  rw [List.take_add, List.drop_drop]

section
variable {H : Type} {enc : TypeId × Value → H} {P : Program} {w : World} {spare : Nat → Bool} {held : Bool}

/-- cells of a row: their shapes, how they stand to the world's -/
def RowOK (w : World) (row : List CSh) (cs : List Value) : Prop := ∃ avs, okRow row avs ∧ avs.all AV.plain = true ∧ LRel (G0 w) [] 0 w avs cs

theorem RowOK.len {row cs} (h : RowOK w row cs) : cs.length = row.length := by
  obtain ⟨avs, h1, _, h2⟩ := h
  rw [h2.1, h1.len]
theorem RowOK.append {row cs row' cs'} (h : RowOK w row cs) (k : RowOK w row' cs') : RowOK w (row ++ row') (cs ++ cs') := by
  obtain ⟨avs, h1, h2, h3⟩ := h
  obtain ⟨avs', k1, k2, k3⟩ := k
  exact ⟨avs ++ avs', h1.append k1, by rw [List.all_append, h2, k2]; rfl, h3.append k3⟩

theorem shFs_ok {g : TypeId → Option (List CSh)} {cs : List Value} : ∀ (fs : List Field) (off : Nat) (row : List CSh), shFs P g off fs = some row →
    (∀ f, f ∈ fs → ∀ r, g f.type = some r → RowOK w r ((cs.drop f.offset).take (P.cellsOf f.type))) → RowOK w row ((cs.drop off).take row.length)
  | [], off, row, h, _ => by
    simp only [shFs, Option.some.injEq] at h
    subst h
    exact ⟨[], trivial, rfl, by simpa using LRel.nil⟩
  | f :: fs, off, row, h, hf => by
    simp only [shFs] at h
    split at h
    · next ho =>
      rw [Option.bind_eq_some_iff] at h
      obtain ⟨r, hr, h⟩ := h
      split at h
      · next hl =>
        rw [Option.map_eq_some_iff] at h
        obtain ⟨row', hrow, rfl⟩ := h
        have h1 := hf f List.mem_cons_self r hr
        rw [ho, ← hl] at h1
        have h2 := shFs_ok fs _ row' hrow (fun x hx => hf x (List.mem_cons_of_mem _ hx))
        rw [List.length_append, take_two]
        exact h1.append h2
      · cases h
    · cases h

theorem arr_ok {r : List CSh} {cs : List Value} : ∀ (k j : Nat), (∀ i, i < k → RowOK w r ((cs.drop ((j + i) * r.length)).take r.length)) → RowOK w (List.replicate k r).flatten ((cs.drop (j * r.length)).take (k * r.length))
  | 0, j, _ => ⟨[], trivial, rfl, by simpa using LRel.nil⟩
  | k + 1, j, h => by
    have h1 := h 0 (by omega)
    have h2 := arr_ok k (j + 1) (fun i hi => by have := h (i + 1) (by omega); rwa [show j + (i + 1) = j + 1 + i by omega] at this)
    rw [List.replicate_succ, List.flatten_cons, show (k + 1) * r.length = r.length + k * r.length by rw [Nat.add_mul, Nat.one_mul, Nat.add_comm], take_two]
    rw [Nat.add_zero] at h1
    rw [show (j + 1) * r.length = j * r.length + r.length by rw [Nat.add_mul, Nat.one_mul]] at h2
    exact h1.append h2

theorem open_row : ∀ (m n : Nat) (t : TypeId) (cs : List Value) (x : DataW H × List MemPlace) (row : List CSh), shOf P n t = some row → DataW.trod enc P w 0 spare held m t cs = some x → RowOK w row cs
  | 0, _, _, _, _, _, _, h => by simp [DataW.trod] at h
  | m + 1, 0, _, _, _, _, h, _ => by simp [shOf] at h
  | m + 1, n + 1, t, cs, x, row, hs, h => by
    simp only [shOf] at hs
    split at hs
    · next ht =>
      obtain rfl := Option.some.inj hs
      obtain ⟨b, rfl, _⟩ := DataW.trod_bool ht h
      exact ⟨[.bool b], ⟨⟨b, rfl⟩, trivial⟩, rfl, .cons (.bool b) .nil⟩
    · next k ht =>
      obtain rfl := Option.some.inj hs
      obtain ⟨z, rfl, _, hw⟩ := DataW.trod_int ht h
      exact ⟨[.int k z], ⟨⟨z, rfl, hw⟩, trivial⟩, rfl, .cons (.int k z) .nil⟩
    · next ht =>
      obtain rfl := Option.some.inj hs
      obtain ⟨s, rfl, _, hw⟩ := DataW.trod_string ht h
      exact ⟨[.str s], ⟨⟨s, rfl, hw⟩, trivial⟩, rfl, .cons (.str s) .nil⟩
    · next e ht =>
      rw [Option.bind_eq_some_iff] at hs
      obtain ⟨r, hr, hs⟩ := hs
      split at hs
      · next hl =>
        obtain rfl := Option.some.inj hs
        rcases DataW.trod_slice ht h with ⟨rfl, _⟩ | ⟨a, len, cap, elems, rest, n', hn', rfl, _, _, hle, hcm, hel, hget, _, _⟩
        · exact ⟨[.nilS], ⟨.inl rfl, trivial⟩, rfl, .cons .nilS .nil⟩
        · have hn : n' = m := by omega
          subst hn
          have each : ∀ i, i < len → ∃ avs : List AV, okRow r avs ∧ avs.all AV.plain = true ∧ ∃ cs', w.cells? 0 (a.add (i * P.cellsOf e)) (P.cellsOf e) = some cs' ∧ LRel (G0 w) [] 0 w avs cs' := by
            intro i hi
            have h1 := hget i hi
            rw [List.getElem?_eq_getElem (by omega), Option.bind_eq_some_iff] at h1
            obtain ⟨cs', hcs, hx⟩ := h1
            obtain ⟨avs, y1, y2, y3⟩ := open_row n' n e cs' _ r hr hx
            exact ⟨avs, y1, y2, cs', hcs, y3⟩
          obtain ⟨rows, hlen, hrows⟩ := list_choose len each
          have spot : ∀ (i : Nat) row, rows[i]? = some row → ∀ (j : Nat) v, row[j]? = some v → a.spot = none ∧ a.block < w.heap.size := by
            intro i row hi j v hj
            have hi' : i < len := by have := (List.getElem?_eq_some_iff.1 hi).1; omega
            obtain ⟨y1, _, cs', hcs, y3⟩ := hrows i row hi
            have hcc := World.cells?_some hcs
            have hz : 0 < P.cellsOf e := by omega
            -- the first row's first cell
            have h0 : 0 < len := by omega
            obtain ⟨z1, _, ds, hds, z3⟩ := hrows 0 _ (List.getElem?_eq_getElem (by omega))
            have hdd := World.cells?_some hds
            have := hdd.2.2 0 hz
            rw [List.getElem?_eq_getElem (by omega)] at this
            have h2 := cell_spot this
            simpa [Addr.add] using h2
          have cell : ∀ (i j : Nat) row v, rows[i]? = some row → row[j]? = some v → ∃ v', w.cell? ⟨a.block, a.off + (i * r.length + j), none⟩ = some v' ∧ VRel (G0 w) [] 0 w v v' := by
            intro i j row v hi hj
            obtain ⟨y1, _, cs', hcs, y3⟩ := hrows i row hi
            have hcc := World.cells?_some hcs
            obtain ⟨v', hv', hr'⟩ := y3.2 j v hj
            have hjl : j < P.cellsOf e := by have := (List.getElem?_eq_some_iff.1 hv').1; omega
            have h3 := hcc.2.2 j hjl
            rw [hv'] at h3
            refine ⟨v', ?_, hr'⟩
            have hsp := (spot i row hi j v hj).1
            rw [← h3, hl.1]
            congr 1
            cases a with
            | mk b o s =>
              simp only at hsp
              subst hsp
              simp only [Addr.add]
              split
              · next h4 =>
                split
                · next h5 => simp [h5, h4]
                · simp [h4]
              · split
                · next h5 => simp [h5]
                · simp; omega
          refine ⟨[.ro false r.length rows], ⟨.inr ⟨rows, rfl, by omega, fun row hrow => ?_⟩, trivial⟩, rfl, .cons ?_ .nil⟩
          · obtain ⟨i, hi⟩ := List.getElem?_of_mem hrow
            exact (hrows i row hi).1
          · rw [← hlen]
            refine .ro false r.length rows a cap (fun i j => (w.cell? ⟨a.block, a.off + (i * r.length + j), none⟩).getD undef) (by omega) (fun hne => ?_) (fun row hrow => ?_) (fun i j row v hi hj => ?_) (fun i j row v hi hj => ?_)
            · cases rows with
              | nil => exact absurd rfl hne
              | cons row rs =>
                have hrl := (hrows 0 row rfl).1.len
                have : 0 < row.length := by omega
                have h2 := spot 0 row rfl 0 _ (List.getElem?_eq_getElem this)
                exact ⟨h2.2, h2.1, hl.2⟩
            · obtain ⟨i, hi⟩ := List.getElem?_of_mem hrow
              exact ⟨(hrows i row hi).1.len, (hrows i row hi).2.1⟩
            · obtain ⟨v', h1, _⟩ := cell i j row v hi hj
              rw [h1]; rfl
            · obtain ⟨v', h1, h2⟩ := cell i j row v hi hj
              rw [h1]; exact h2
      · cases hs
    · next fs ht =>
      rw [Option.bind_eq_some_iff] at hs
      obtain ⟨r, hr, hs⟩ := hs
      split at hs
      · next hl =>
        obtain rfl := Option.some.inj hs
        obtain ⟨xs, n', hn', _, hcl, hxl, hget⟩ := DataW.trod_struct ht h
        have hn : n' = m := by omega
        subst hn
        have := shFs_ok (P := P) (w := w) (cs := cs) fs.toList 0 r hr (fun f hf r' hr' => by
          obtain ⟨i, hi⟩ := List.getElem?_of_mem hf
          have hi2 : fs[i]? = some f := by simpa using hi
          have h1 := hget i f hi2
          have hil : i < fs.size := (Array.getElem?_eq_some_iff.1 hi2).1
          rw [List.getElem?_eq_getElem (by omega)] at h1
          exact open_row n' n f.type _ _ r' hr' h1)
        rw [List.drop_zero, hl, ← hcl, List.take_length] at this
        exact this
      · cases hs
    · next k e ht =>
      rw [Option.bind_eq_some_iff] at hs
      obtain ⟨r, hr, hs⟩ := hs
      split at hs
      · next hl =>
        obtain rfl := Option.some.inj hs
        obtain ⟨xs, n', hn', _, hcl, hxl, hget⟩ := DataW.trod_array ht h
        have hn : n' = m := by omega
        subst hn
        have := arr_ok (w := w) (r := r) (cs := cs) k 0 (fun i hi => by
          have h1 := hget i hi
          rw [List.getElem?_eq_getElem (by omega), ← hl.1] at h1
          rw [Nat.zero_add]
          exact open_row n' n e _ _ r hr h1)
        rw [Nat.zero_mul, List.drop_zero, hl.2, ← hcl, List.take_length] at this
        exact this
      · cases hs
    · cases hs

/-- what one argument is for the plain machine: of one cell, or a struct or an array -/
def ArgOK (P : Program) (t : TypeId) (row : List CSh) (v : AV) : Prop := if aggB P t = some true then ∃ cs, v = .agg cs ∧ okRow row cs else okRow row [v]

theorem plain_bare {v : AV} (h : v.plain = true) : v.bare = true := by
  cases v <;> simp_all [AV.plain, AV.bare]

theorem FCells.of_plain {G : Gh} : ∀ {avs cs}, avs.all AV.plain = true → LRel G [] 0 w avs cs → FCells G w avs cs []
  | [], cs, _, L => by rw [L.nil_inv]; exact .nil
  | v :: avs, cs, h, L => by
    obtain ⟨v', cs', rfl, h1, h2⟩ := L.cons_inv
    rw [List.all_cons, Bool.and_eq_true] at h
    have := FCells.cons (.bare v v' (plain_bare h.1) h1) (FCells.of_plain h.2 h2)
    simpa using this

/-- an argument is opened -/
theorem open_arg {t : TypeId} {v : Value} {d : DataW H} {ps : List MemPlace} {r : Reach} {base n : Nat} {row : List CSh} (hs : shOf P n t = some row) (ho : Value.okWide P w r base t v)
    (h : DataW.Trod enc P w 0 spare held t v d ps) : ∃ av, ArgOK P t row av ∧ FVal (G0 w) w av v [] := by
  obtain ⟨m, hm⟩ := h
  obtain ⟨avs, h1, h2, h3⟩ := open_row m n t _ _ row hs hm
  unfold ArgOK
  have one : v.cells.toList = [v] → aggB P t ≠ some true → ∃ av, (if aggB P t = some true then ∃ cs, av = .agg cs ∧ okRow row cs else okRow row [av]) ∧ FVal (G0 w) w av v [] := by
    intro hc hn
    rw [hc] at h3
    cases avs with
    | nil => have := h3.1; simp at this
    | cons av r' =>
      cases r' with
      | cons => have := h3.1; simp at this
      | nil =>
        obtain ⟨v', vs', e, y, _⟩ := h3.cons_inv
        obtain ⟨rfl, _⟩ : v = v' ∧ _ := by simpa using e
        simp only [List.all_cons, List.all_nil, Bool.and_true] at h2
        exact ⟨av, by rw [if_neg hn]; exact h1, .cell (.bare _ _ (plain_bare h2) y)⟩
  have many : ∀ cs, v = .agg cs → aggB P t = some true → ∃ av, (if aggB P t = some true then ∃ cs, av = .agg cs ∧ okRow row cs else okRow row [av]) ∧ FVal (G0 w) w av v [] := by
    intro cs hv ha
    subst hv
    refine ⟨.agg avs, by rw [if_pos ha]; exact ⟨avs, rfl, h1⟩, ?_⟩
    have := FVal.agg (FCells.of_plain h2 h3)
    simpa [Value.cells] using this
  cases n with
  | zero => simp [shOf] at hs
  | succ n =>
    simp only [shOf] at hs
    unfold Value.okWide at ho
    split at hs
    · next ht =>
      refine one ?_ (by simp [aggB, ht])
      simp only [ht, Cell.okWide, Cell.ok] at ho
      cases v <;> simp_all [Value.cells]
    · next k ht =>
      refine one ?_ (by simp [aggB, ht])
      simp only [ht, Cell.okWide, Cell.ok] at ho
      cases v <;> simp_all [Value.cells]
    · next ht =>
      refine one ?_ (by simp [aggB, ht])
      simp only [ht, Cell.okWide, Cell.ok] at ho
      cases v <;> simp_all [Value.cells]
    · next e ht =>
      refine one ?_ (by simp [aggB, ht])
      simp only [ht, Cell.okWide, Cell.ok] at ho
      cases v <;> simp_all [Value.cells]
    · next fs ht =>
      rw [ht] at ho
      obtain ⟨cs, hv, _⟩ := ho
      exact many cs hv (by simp [aggB, ht])
    · next k e ht =>
      rw [ht] at ho
      obtain ⟨cs, hv, _⟩ := ho
      exact many cs hv (by simp [aggB, ht])
    · cases hs
end
end Go.Abs

namespace Go.Abs
variable [Globs]
open Go

/-- a table of annotated code: each function is called as it is, and fits -/
def tabOK (P : Program) (T : List (Nat × AFun)) : Bool :=
  T.all fun p => callable P p.1 && (match P.funcs[p.1]? with | some fn => funFit P fn p.2 | none => false)
def lookT : List (Nat × AFun) → Nat → Option AFun
  | [], _ => none
  | (g, a) :: r, f => if Nat.beq g f then some a else lookT r f

/-- what the functions of a table do, n calls deep; T2: code for runs in the caller's memory -/
def Phi (T T2 : List (Nat × AFun)) (K : Nat) : Nat → Nat → Option FnF
  | 0, _ => none
  | n + 1, f => (lookT T f).map fun a => ⟨evFun (Phi T T2 K n) K a, match lookT T2 f with | some a2 => evInl (Phi T T2 K n) K a2 | none => InlF.none, match lookT T2 f with | some a2 => evItr (Phi T T2 K n) K a2 | none => fun _ _ => InlF.none, InlF.none⟩

theorem lookT_mem : ∀ {T f a}, lookT T f = some a → (f, a) ∈ T
  | [], f, a, h => by simp [lookT] at h
  | (g, b) :: r, f, a, h => by
    unfold lookT at h
    split at h
    · next e => rw [Nat.beq_eq] at e; subst e; obtain rfl := Option.some.inj h; exact List.mem_cons_self
    · exact List.mem_cons_of_mem _ (lookT_mem h)

theorem tab_spec {P T f a} (hT : tabOK P T = true) (h : lookT T f = some a) : callable P f = true ∧ ∃ fn, P.funcs[f]? = some fn ∧ funFit P fn a = true := by
  unfold tabOK at hT
  rw [List.all_eq_true] at hT
  have := hT _ (lookT_mem h)
  simp only [Bool.and_eq_true] at this
  refine ⟨this.1, ?_⟩
  cases hf : P.funcs[f]? with
  | none => rw [hf] at this; simp at this
  | some fn => rw [hf] at this; exact ⟨fn, rfl, this.2⟩

theorem tab_refines {P T f a Φ K} (hT : tabOK P T = true) (h : lookT T f = some a) (hΦ : PhiAll P Φ) : Refines P f (evFun Φ K a) := by
  obtain ⟨_, fn, h1, h2⟩ := tab_spec hT h
  exact refines_of h1 h2 hΦ (fun bs r he => ⟨K, he⟩)
theorem tab_inl {P T f a Φ K} (hT : tabOK P T = true) (h : lookT T f = some a) (hΦ : PhiAll P Φ) : RefInl P f (evInl Φ K a) := by
  obtain ⟨_, fn, h1, h2⟩ := tab_spec hT h
  exact inl_fit h1 h2 K hΦ

theorem tab_itr {P T f a Φ K} (hT : tabOK P T = true) (h : lookT T f = some a) (hΦ : PhiAll P Φ) : RefItr P f (evItr Φ K a) := by
  obtain ⟨_, fn, h1, h2⟩ := tab_spec hT h
  exact itr_fit h1 h2 K hΦ

theorem Phi_fn {P T T2 K} (hT : tabOK P T = true) (hT2 : tabOK P T2 = true) (n : Nat) (ih : PhiAll P (Phi T T2 K n)) (f F) (hF : Phi T T2 K (n + 1) f = some F) : FnOK P f F ∧ F.yl = InlF.none := by
  unfold Phi at hF
  rw [Option.map_eq_some_iff] at hF
  obtain ⟨a, ha, rfl⟩ := hF
  refine ⟨⟨.inl (tab_spec hT ha).1, tab_refines hT ha ih, ?_, ?_⟩, rfl⟩
  · show RefInl P f (match lookT T2 f with | some a2 => evInl (Phi T T2 K n) K a2 | none => InlF.none)
    split
    · next a2 h2 => exact tab_inl hT2 h2 ih
    · exact inl_none
  · show RefItr P f (match lookT T2 f with | some a2 => evItr (Phi T T2 K n) K a2 | none => fun _ _ => InlF.none)
    split
    · next a2 h2 => exact tab_itr hT2 h2 ih
    · exact itr_none
theorem Phi_ok {P T T2 K} (hT : tabOK P T = true) (hT2 : tabOK P T2 = true) : ∀ n, PhiAll P (Phi T T2 K n)
  | 0 => fun _ _ _ _ => ⟨fun _ _ h => by simp [Phi] at h, fun _ _ h => by simp [Phi] at h⟩
  | n + 1 => fun G h c w => ⟨fun f F hF => (Phi_fn hT hT2 n (Phi_ok hT hT2 n) f F hF).1, fun nm F hF => by
      rw [(Phi_fn hT hT2 n (Phi_ok hT hT2 n) _ F hF).2]
      exact fun _ _ _ _ _ _ _ _ _ _ _ _ _ hx => by cases hx⟩

/-- function f, n calls deep -/
def Ev (T T2 : List (Nat × AFun)) (K n f : Nat) : CallF := fun bs =>
  match Phi T T2 K n f with
  | some F => F.call bs
  | none => none
/-- iterator f, in the memory of the loop's function -/
def Jv (T T2 : List (Nat × AFun)) (K n f : Nat) : Nat → InlF → InlF := fun nm Y h c bs =>
  match Phi T T2 K n f with
  | some F => F.itr nm Y h c bs
  | none => none
def Iv (T T2 : List (Nat × AFun)) (K n f : Nat) : InlF := fun h c bs =>
  match Phi T T2 K n f with
  | some F => F.inl h c bs
  | none => none

theorem Ev_refines {P T T2 K n f F} (hT : tabOK P T = true) (hT2 : tabOK P T2 = true) (h : Phi T T2 K n f = some F) : Refines P f (Ev T T2 K n f) := by
  have := ((Phi_ok (K := K) hT hT2 n (Gh.only (fun _ => False) (fun _ => False)) [] 0 default).fn f F h).call
  have e : Ev T T2 K n f = F.call := by funext bs; unfold Ev; rw [h]
  rw [e]; exact this
end Go.Abs

namespace Go.Abs
variable [Globs]
open Go
/- lists of cells that name nothing, as wholes -/
@[simp] theorem envOnly_none : ∀ e : Env, envOnly [] e = []
  | [] => rfl
  | (m, v) :: r => by simp [envOnly, envOnly_none r]
@[simp] theorem only_none : ∀ h : AH, AH.only [] h = []
  | [] => rfl
  | e :: r => by simp [AH.only, only_none r]
theorem plain_cell {v : AV} (h : v.plain = true) : v.bare = true ∧ v.cellb = true := by
  cases v with
  | ro t sz rows => cases t <;> simp_all [AV.plain, AV.bare, AV.cellb]
  | _ => simp_all [AV.plain, AV.bare, AV.cellb]
theorem plain_lend {v : AV} (hp : AV.plain v = true) (h : AH) : lendCell h v = some v := by
  have := (plain_cell hp).1
  cases v <;> simp_all [AV.plain, lendCell]
theorem plain_mv {v : AV} (hp : AV.plain v = true) (h : AH) : mvCell h v = some (v, h) := by
  cases v <;> simp_all [AV.plain, mvCell]
theorem plain_in {v : AV} (hp : AV.plain v = true) (h : AH) (c nm : Nat) : inCell h c nm v = some (v, h, c) := by
  have := (plain_cell hp).1
  cases v <;> simp_all [AV.plain, inCell]
theorem plain_low {v : AV} (hp : AV.plain v = true) (ns al) : v.low1 ns al = true := by
  cases v <;> simp_all [AV.plain, AV.low1]
theorem plains_cellb : ∀ {l : List AV}, l.all AV.plain = true → l.all AV.cellb = true
  | [], _ => rfl
  | v :: r, h => by
    rw [List.all_cons, Bool.and_eq_true] at h
    rw [List.all_cons, (plain_cell h.1).2, plains_cellb h.2]; rfl
theorem plains_cells {l : List AV} (h : l.all AV.plain = true) : cellsOK l = true := plains_cellb h
theorem plains_lend : ∀ {l : List AV}, l.all AV.plain = true → ∀ h, lendCells h l = some l
  | [], _, _ => rfl
  | v :: r, hp, h => by
    rw [List.all_cons, Bool.and_eq_true] at hp
    rw [lendCells, plain_lend hp.1, Option.bind_some, plains_lend hp.2]; rfl
theorem plains_mv : ∀ {l : List AV}, l.all AV.plain = true → ∀ h, mvCells h l = some (l, h)
  | [], _, _ => rfl
  | v :: r, hp, h => by
    rw [List.all_cons, Bool.and_eq_true] at hp
    rw [mvCells, plain_mv hp.1, Option.bind_some, plains_mv hp.2]; rfl
theorem plains_in : ∀ {l : List AV}, l.all AV.plain = true → ∀ h c nm, inCells h c nm l = some (l, h, c)
  | [], _, _, _, _ => rfl
  | v :: r, hp, h, c, nm => by
    rw [List.all_cons, Bool.and_eq_true] at hp
    rw [inCells, plain_in hp.1, Option.bind_some, plains_in hp.2]; rfl
theorem plains_low : ∀ {l : List AV}, l.all AV.plain = true → ∀ ns al, lowL ns al l = true
  | [], _, _, _ => rfl
  | v :: r, hp, ns, al => by
    rw [List.all_cons, Bool.and_eq_true] at hp
    rw [lowL, plain_low hp.1, plains_low hp.2]; rfl
/-- equality of a row of cells with itself -/
def kindOK : Nat → AV → Bool
  | 0, .int .. => true
  | 1, .bool _ => true
  | 2, .str _ => true
  | _, _ => false
def kindsOK : List Nat → List AV → Bool
  | [], [] => true
  | k :: ks, v :: vs => kindOK k v && kindsOK ks vs
  | _, _ => false
theorem aeq_self : ∀ {ks : List Nat} {l : List AV}, kindsOK ks l = true → aeqCells ks l l = some true
  | [], [], _ => rfl
  | k :: ks, v :: vs, h => by
    rw [kindsOK, Bool.and_eq_true] at h
    have : aeq1 k v v = some true := by
      have h1 := h.1
      unfold kindOK at h1
      split at h1 <;> simp_all [aeq1]
    rw [aeqCells, this]
    exact aeq_self h.2
  | [], _ :: _, h => by simp [kindsOK] at h
  | _ :: _, [], h => by simp [kindsOK] at h
end Go.Abs

namespace Go.Abs
variable [Globs]
open Go
/- one piece of code behind the other, each with an equation of its own -/
theorem ev_seqN {Φ : Nat → Option FnF} {k : Nat} {a b : AC} {s s1 : St} {r : Option (Ex × St)} (h : ev Φ k a s = some (.normal, s1)) (h2 : ev Φ k b s1 = r) : ev Φ k (.seq a b) s = r := by
  rw [ev, h]; exact h2
theorem ev_seqR {Φ : Nat → Option FnF} {k : Nat} {a b : AC} {s s1 : St} {e : Ex} (he : e ≠ .normal) (h : ev Φ k a s = some (e, s1)) : ev Φ k (.seq a b) s = some (e, s1) := by
  rw [ev, h]
  cases e <;> first | rfl | exact absurd rfl he
theorem ev_keepN {Φ : Nat → Option FnF} {k : Nat} {a : AC} {kt kh : List Nat} {s : St} {r : Option (Ex × St)} (h : ev Φ k a ⟨envOnly kt s.env, s.h.only kh, s.c⟩ = r) : ev Φ k (.keep kt kh a) s = r := h
theorem ev_loopN {Φ : Nat → Option FnF} {k id : Nat} {a b : AC} {kt kh : List Nat} {s s0 s1 : St}
    (h0 : (ev Φ k a s).map (fun q => (q.1, q.2.keep kt kh)) = some (.normal, s0)) (h1 : iter (ev Φ k b) kt kh k s0 = some (.exit id, s1)) : ev Φ k (.seq a (.block id (.loop kt kh b))) s = some (.normal, s1) := by
  rw [Option.map_eq_some_iff] at h0
  obtain ⟨⟨e, q⟩, h2, h3⟩ := h0
  simp only [Prod.mk.injEq] at h3
  obtain ⟨rfl, rfl⟩ := h3
  refine ev_seqN h2 ?_
  rw [ev, ev]
  have : iter (ev Φ k b) kt kh k q = some (.exit id, s1) := by
    rw [← h1]; exact iter_keep _ _ _ _ _
  rw [this]
  simp
theorem ev_loopR {Φ : Nat → Option FnF} {k id : Nat} {a b : AC} {kt kh : List Nat} {s s0 s1 : St}
    (h0 : (ev Φ k a s).map (fun q => (q.1, q.2.keep kt kh)) = some (.normal, s0)) (h1 : iter (ev Φ k b) kt kh k s0 = some (.ret, s1)) : ev Φ k (.seq a (.block id (.loop kt kh b))) s = some (.ret, s1) := by
  rw [Option.map_eq_some_iff] at h0
  obtain ⟨⟨e, q⟩, h2, h3⟩ := h0
  simp only [Prod.mk.injEq] at h3
  obtain ⟨rfl, rfl⟩ := h3
  refine ev_seqN h2 ?_
  rw [ev, ev]
  have : iter (ev Φ k b) kt kh k q = some (.ret, s1) := by
    rw [← h1]; exact iter_keep _ _ _ _ _
  rw [this]
theorem fun_of {Φ : Nat → Option FnF} {k : Nat} {f : AFun} {bs : List AV} {q : List AV × AH × Nat} {s' : St} {e : Ex} {r : AV × List (List AV)} (hn : ¬ f.ntmps < bs.length) (hin : inVals [] 0 100000 bs = some q)
    (hbody : ev Φ k f.code ⟨envOf 0 q.1, q.2.1, q.2.2⟩ = some (e, s')) (he : e = .normal ∨ e = .ret)
    (hres : ((resVals s' f.res).bind fun vs => (outPvs s'.h (argPvs bs q.1)).bind fun ps => (outRes ps.2 (resVal vs)).map fun r => (r.1, ps.1)) = some r) : evFun Φ k f bs = some r := by
  unfold evFun
  rw [if_neg hn, hin, Option.bind_some]
  have : evBody Φ k f ⟨envOf 0 q.1, q.2.1, q.2.2⟩ = some s' := by
    unfold evBody
    rw [hbody]
    rcases he with rfl | rfl <;> rfl
  rw [this, Option.bind_some]
  exact hres
end Go.Abs

namespace Go.Abs
open Go
variable [Globs]
/-- one package-level variable, said to hold these cells -/
def Glob1OK (R0 : Nat → Prop) (w : World) (n : Nat) (cs : List AV) : Prop :=
  R0 n ∧ cs.all AV.plain = true ∧ ∃ (vs : List Value) (el : TypeId) (fz : Nat × Nat), (∀ G h c w, LRel G h c w cs vs) ∧ w.heap[n]? = some (.cells ⟨vs⟩ el fz)
theorem GlobOK.of_all {R0 : Nat → Prop} {w : World} (h : ∀ p ∈ Globs.gl, Glob1OK R0 w p.1 p.2) : GlobOK R0 w := by
  intro n cs hn
  unfold Globs.look at hn
  generalize Globs.gl = l at *
  induction l with
  | nil => simp [Globs.find] at hn
  | cons p r ih =>
    obtain ⟨m, ds⟩ := p
    simp only [Globs.find] at hn
    split at hn
    · next e =>
      rw [Nat.beq_eq] at e
      subst e
      obtain rfl := Option.some.inj hn
      exact h (m, ds) List.mem_cons_self
    · exact ih (fun p hp => h p (List.mem_cons_of_mem _ hp)) hn
def lits {H : Type} (k : IntKind) (L : List Int) : List (DataW H) := L.map fun x => .lit (.int k x)
def ints (k : IntKind) (L : List Int) : List AV := L.map fun x => .int k x
theorem ints_plain (k : IntKind) : ∀ L : List Int, (ints k L).all AV.plain = true
  | [] => rfl
  | x :: r => by
    have : ints k (x :: r) = .int k x :: ints k r := rfl
    rw [this, List.all_cons, ints_plain k r]; rfl
theorem ints_rel {G : Gh} {h : AH} {c : Nat} {w : World} (k : IntKind) : ∀ L : List Int, LRel G h c w (ints k L) (L.map fun x => Value.int k x)
  | [] => LRel.nil
  | x :: r => LRel.cons (.int k x) (ints_rel k r)
/-- an array of whole numbers, listed by its row -/
theorem glob_arr {P : Program} {W : World} {nm : String} {g t e n fuel : Nat} {k : IntKind} {cs : Array Value} {p : List MemPlace} (L : List Int)
    (hg : P.globalNamed nm = some g) (ht : P.underlying t = some (.array n e)) (he : P.underlying e = some (.int k)) (hc : P.cellsOf e = 1) (hct : P.cellsOf t = n) (hv : W.var? P nm = some cs)
    (hd : DataW.trod (fun _ => ()) P W 0 (fun _ => true) false fuel t cs.toList = some (.agg (lits k L), p)) :
    Glob1OK (fun b => b < W.heap.size) W g (ints k L) := by
  have hcs := Go.Lib.cells_of_tab ht he hc hct (zs := L) hd
  simp only [World.var?, hg, Option.bind_some] at hv
  split at hv
  · next cs' el fz h =>
    obtain rfl := Option.some.inj hv
    refine ⟨(Array.getElem?_eq_some_iff.1 h).1, ints_plain k L, L.map fun x => Value.int k x, el, fz, fun _ _ _ _ => ints_rel k L, ?_⟩
    rw [← hcs]
    exact h
  · cases hv
/-- an interface, listed by its row -/
theorem glob_ifc {P : Program} {W : World} {nm : String} {g t fuel : Nat} {ms} {cs : Array Value} {p : List MemPlace} {u : String} {d : DataW Unit}
    (hg : P.globalNamed nm = some g) (ht : P.underlying t = some (.interface ms)) (hv : W.var? P nm = some cs)
    (hd : DataW.trod (fun _ => ()) P W 0 (fun _ => true) false fuel t cs.toList = some (.iface u d, p)) :
    Glob1OK (fun b => b < W.heap.size) W g [.ifc] := by
  have hcs : ∃ a b, cs.toList = [.iface a b] := by
    cases fuel with
    | zero => simp [DataW.trod] at hd
    | succ fuel =>
      simp only [DataW.trod, ht] at hd
      split at hd
      all_goals first | (simp at *; done) | exact ⟨_, _, by assumption⟩
  obtain ⟨a, b, hcs⟩ := hcs
  simp only [World.var?, hg, Option.bind_some] at hv
  split at hv
  · next cs' el fz h =>
    obtain rfl := Option.some.inj hv
    refine ⟨(Array.getElem?_eq_some_iff.1 h).1, rfl, [.iface a b], el, fz, fun _ _ _ _ => .cons (.ifc a b) .nil, ?_⟩
    rw [← hcs]
    exact h
  · cases hv
end Go.Abs

namespace Go.Abs
variable [Globs]
open Go

/-- The same with functions that are proved by hand: X. -/
def PhiX (X : Nat → Option CallF) (T T2 : List (Nat × AFun)) (K : Nat) : Nat → Nat → Option FnF
  | 0, _ => none
  | n + 1, f => match X f with
    | some F => some ⟨F, InlF.none, fun _ _ => InlF.none, InlF.none⟩
    | none => (lookT T f).map fun a => ⟨evFun (PhiX X T T2 K n) K a, match lookT T2 f with | some a2 => evInl (PhiX X T T2 K n) K a2 | none => InlF.none, match lookT T2 f with | some a2 => evItr (PhiX X T T2 K n) K a2 | none => fun _ _ => InlF.none, InlF.none⟩

def XOK (P : Program) (X : Nat → Option CallF) : Prop := ∀ f F, X f = some F → callable P f = true ∧ Refines P f F

theorem PhiX_fn {P X T T2 K} (hX : XOK P X) (hT : tabOK P T = true) (hT2 : tabOK P T2 = true) (n : Nat) (ih : PhiAll P (PhiX X T T2 K n)) (f F) (hF : PhiX X T T2 K (n + 1) f = some F) : FnOK P f F ∧ F.yl = InlF.none := by
  unfold PhiX at hF
  cases hx : X f with
  | some F0 =>
    rw [hx] at hF
    obtain rfl := Option.some.inj hF
    exact ⟨⟨.inl (hX f F0 hx).1, (hX f F0 hx).2, inl_none, itr_none⟩, rfl⟩
  | none =>
    rw [hx] at hF
    simp only [Option.map_eq_some_iff] at hF
    obtain ⟨a, ha, rfl⟩ := hF
    refine ⟨⟨.inl (tab_spec hT ha).1, tab_refines hT ha ih, ?_, ?_⟩, rfl⟩
    · show RefInl P f (match lookT T2 f with | some a2 => evInl (PhiX X T T2 K n) K a2 | none => InlF.none)
      split
      · next a2 h2 => exact tab_inl hT2 h2 ih
      · exact inl_none
    · show RefItr P f (match lookT T2 f with | some a2 => evItr (PhiX X T T2 K n) K a2 | none => fun _ _ => InlF.none)
      split
      · next a2 h2 => exact tab_itr hT2 h2 ih
      · exact itr_none
theorem PhiX_ok {P X T T2 K} (hX : XOK P X) (hT : tabOK P T = true) (hT2 : tabOK P T2 = true) : ∀ n, PhiAll P (PhiX X T T2 K n)
  | 0 => fun _ _ _ _ => ⟨fun _ _ h => by simp [PhiX] at h, fun _ _ h => by simp [PhiX] at h⟩
  | n + 1 => fun G h c w => ⟨fun f F hF => (PhiX_fn hX hT hT2 n (PhiX_ok hX hT hT2 n) f F hF).1, fun nm F hF => by
      rw [(PhiX_fn hX hT hT2 n (PhiX_ok hX hT hT2 n) _ F hF).2]
      exact fun _ _ _ _ _ _ _ _ _ _ _ _ _ hx => by cases hx⟩
def EvX (X : Nat → Option CallF) (T T2 : List (Nat × AFun)) (K n f : Nat) : CallF := fun bs =>
  match PhiX X T T2 K n f with
  | some F => F.call bs
  | none => none
def JvX (X : Nat → Option CallF) (T T2 : List (Nat × AFun)) (K n f : Nat) : Nat → InlF → InlF := fun nm Y h c bs =>
  match PhiX X T T2 K n f with
  | some F => F.itr nm Y h c bs
  | none => none
def IvX (X : Nat → Option CallF) (T T2 : List (Nat × AFun)) (K n f : Nat) : InlF := fun h c bs =>
  match PhiX X T T2 K n f with
  | some F => F.inl h c bs
  | none => none
theorem EvX_refines {P X T T2 K n f F} (hX : XOK P X) (hT : tabOK P T = true) (hT2 : tabOK P T2 = true) (h : PhiX X T T2 K n f = some F) : Refines P f (EvX X T T2 K n f) := by
  have := ((PhiX_ok (K := K) hX hT hT2 n (Gh.only (fun _ => False) (fun _ => False)) [] 0 default).fn f F h).call
  have e : EvX X T T2 K n f = F.call := by funext bs; unfold EvX; rw [h]
  rw [e]; exact this
end Go.Abs
