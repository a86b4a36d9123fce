/- Part 2 of Abs: what our evaluation of a function's code says, the machine's run does; no condition of its own. -/
import Derived.Test.YtgemhcpenicpmaaDoorAbsA
import Derived.ChangeKeysEq
import Derived.WideKeyRuns
import Derived.MapKept
import Derived.Orders
import Derived.OrdersIn
import Derived.LoopNIn
import Derived.RangeFuncIn
import Derived.RangeFuncRecord
import Derived.LoopN
import Derived.RangeFuncLeaves
set_option linter.unusedVariables false
set_option linter.unusedSimpArgs false
set_option linter.unusedSectionVars false
namespace Go.Abs
variable [Globs]
open Go

/-- equality of scalar cells -/
def ceq1 : Nat → Value → Value → Option Bool
  | 0, .int k a, .int k' b => if k = k' then some (a == b) else none
  | 1, .bool a, .bool b => some (a == b)
  | 2, .string a, .string b => some (a.toList == b.toList)
  | _, _, _ => none
def ceq : List Nat → List Value → List Value → Option Bool
  | [], [], [] => some true
  | k :: ks, a :: x, b :: y => match ceq1 k a b with
    | some true => ceq ks x y
    | r => r
  | _, _, _ => none

theorem ceq_append : ∀ {k1 k2 : List Nat} {x1 y1 x2 y2 : List Value}, x1.length = k1.length → y1.length = k1.length → ∀ {r}, ceq (k1 ++ k2) (x1 ++ x2) (y1 ++ y2) = some r → (ceq k1 x1 y1 = some false ∧ r = false) ∨ (ceq k1 x1 y1 = some true ∧ ceq k2 x2 y2 = some r)
  | [], k2, [], [], x2, y2, _, _, r, h => .inr ⟨rfl, h⟩
  | k :: k1, k2, a :: x, b :: y, x2, y2, hl, hm, r, h => by
    simp only [List.length_cons, Nat.add_right_cancel_iff] at hl hm
    simp only [List.cons_append, ceq] at h ⊢
    cases hc : ceq1 k a b with
    | none => rw [hc] at h; cases h
    | some v =>
      rw [hc] at h
      cases v with
      | false => exact .inl ⟨rfl, (Option.some.inj h).symm⟩
      | true => exact ceq_append hl hm h
  | [], _, _ :: _, _, _, _, h, _, _, _ => by simp at h
  | [], _, _, _ :: _, _, _, _, h, _, _ => by simp at h
  | _ :: _, _, [], _, _, _, h, _, _, _ => by simp at h
  | _ :: _, _, _, [], _, _, _, h, _, _ => by simp at h

section
variable {P : Program}

/-- the value that cells make -/
def mk (P : Program) (t : TypeId) (cs : List Value) : Value := if aggB P t = some true then .agg ⟨cs⟩ else cs.headD undef

/-- equality at a type says what its cells say -/
def EqT (P : Program) (dd : Nat) (t : TypeId) (ks : List Nat) : Prop :=
  ∀ (xs ys : List Value) (r : Bool) (w : World), xs.length = ks.length → ys.length = ks.length → ceq ks xs ys = some r → (Op.equalIn dd t (mk P t xs) (mk P t ys)).run P w = .ok r w

theorem part_mk {t : TypeId} {n : Nat} {xs : List Value} {off : Nat} {w : World} (hs : sizeB P t n = true) (ha : (aggB P t).isSome = true) (h1 : aggB P t = some false → n = 1) (hl : off + n ≤ xs.length) :
    (_root_.Go.part t ⟨xs⟩ off).run P w = .ok (mk P t ((xs.drop off).take n)) w := by
  cases hb : aggB P t with
  | none => rw [hb] at ha; cases ha
  | some b =>
    cases b with
    | true =>
      simp only [_root_.Go.part, Sem.run_bind, run_isAgg hb, Result.andThen_ok, if_true, run_sizeOf hs, Sem.run_pure, mk, hb]
      congr 2
      apply Array.ext'
      simp [List.extract_eq_take_drop]
    | false =>
      have hn := h1 hb
      subst hn
      have hlt : off < xs.length := by omega
      simp only [_root_.Go.part, Sem.run_bind, run_isAgg hb, Result.andThen_ok, mk, hb]
      have e : (⟨xs⟩ : Array Value)[off]? = some xs[off] := by simp [hlt]
      have e2 : ((xs.drop off).take 1).headD undef = xs[off] := by
        rw [List.drop_eq_getElem_cons hlt]; rfl
      simp only [e2, e, Bool.false_eq_true, if_false, Sem.run_pure, Option.some.injEq]

theorem flatT_agg {d t ks} (h : flatT P d t = some ks) : (aggB P t).isSome = true ∧ (aggB P t = some false → ks.length = 1) := by
  cases d with
  | zero => simp [flatT] at h
  | succ d =>
    unfold flatT at h
    unfold aggB
    split at h
    · next hu => rw [hu]; refine ⟨rfl, fun _ => ?_⟩; split at h <;> cases h; rfl
    · next hu => rw [hu]; refine ⟨rfl, fun _ => ?_⟩; split at h <;> cases h; rfl
    · next hu => rw [hu]; refine ⟨rfl, fun _ => ?_⟩; split at h <;> cases h; rfl
    · next hu => rw [hu]; exact ⟨rfl, fun z => by cases z⟩
    · next hu => rw [hu]; exact ⟨rfl, fun z => by cases z⟩
    · cases h

theorem eqFields_run {d dd : Nat} (IH : ∀ t ks, flatT P d t = some ks → EqT P dd t ks) : ∀ (fs : List Field) (off : Nat) (ks : List Nat) (xs ys : List Value) (r : Bool) (w : World), flatFs P (flatT P d) off fs = some ks → xs.length = off + ks.length → ys.length = xs.length → ceq ks (xs.drop off) (ys.drop off) = some r →
    (Op.eqFields dd ⟨xs⟩ ⟨ys⟩ fs).run P w = .ok r w
  | [], off, ks, xs, ys, r, w, hf, hx, hy, hc => by
    simp only [flatFs, Option.some.injEq] at hf
    subst hf
    simp only [List.length_nil, Nat.add_zero] at hx
    rw [List.drop_of_length_le (by omega), List.drop_of_length_le (by omega)] at hc
    simp only [ceq, Option.some.injEq] at hc
    subst hc
    simp [Op.eqFields]
  | f :: fs, off, ks, xs, ys, r, w, hf, hx, hy, hc => by
    simp only [flatFs] at hf
    split at hf
    · next hcond =>
      simp only [Bool.and_eq_true, bne_iff_ne, beq_iff_eq] at hcond
      obtain ⟨hn, rfl⟩ := hcond
      split at hf
      · next k1 ht =>
        split at hf
        · next hs =>
          simp only [Option.map_eq_some_iff] at hf
          obtain ⟨k2, hr, rfl⟩ := hf
          simp only [List.length_append] at hx
          obtain ⟨ha, h1⟩ := flatT_agg ht
          have p1 := part_mk (w := w) (xs := xs) hs ha h1 (off := f.offset) (by omega)
          have p2 := part_mk (w := w) (xs := ys) hs ha h1 (off := f.offset) (by omega)
          have hl1 : ((xs.drop f.offset).take k1.length).length = k1.length := by simp; omega
          have hl2 : ((ys.drop f.offset).take k1.length).length = k1.length := by simp; omega
          have e1 : xs.drop f.offset = (xs.drop f.offset).take k1.length ++ xs.drop (f.offset + k1.length) := by rw [← List.drop_drop, List.take_append_drop]
          have e2 : ys.drop f.offset = (ys.drop f.offset).take k1.length ++ ys.drop (f.offset + k1.length) := by rw [← List.drop_drop, List.take_append_drop]
          rw [e1, e2] at hc
          simp only [Op.eqFields, hn, ne_eq, not_false_eq_true, if_true, Sem.run_bind, p1, p2, Result.andThen_ok]
          rcases ceq_append hl1 hl2 hc with ⟨z, rfl⟩ | ⟨z, z2⟩
          · rw [IH f.type _ ht _ _ _ w hl1 hl2 z]
            simp
          · rw [IH f.type _ ht _ _ _ w hl1 hl2 z]
            simp only [Result.andThen_ok, Bool.not_true, Bool.false_eq_true, if_false]
            exact eqFields_run IH fs _ k2 xs ys r w hr (by omega) hy z2
        · cases hf
      · cases hf
    · cases hf

theorem eqItems_run {e : TypeId} {ks : List Nat} {dd : Nat} (IH : EqT P dd e ks) (hs : sizeB P e ks.length = true) (ha : (aggB P e).isSome = true) (h1 : aggB P e = some false → ks.length = 1) : ∀ (m i : Nat) (xs ys : List Value) (r : Bool) (w : World), xs.length = (i + m) * ks.length → ys.length = xs.length → ceq (List.replicate m ks).flatten (xs.drop (i * ks.length)) (ys.drop (i * ks.length)) = some r →
    (Op.eqItems dd e ks.length ⟨xs⟩ ⟨ys⟩ (List.range' i m)).run P w = .ok r w
  | 0, i, xs, ys, r, w, hx, hy, hc => by
    rw [Nat.add_zero] at hx
    rw [List.drop_of_length_le (by omega), List.drop_of_length_le (by omega)] at hc
    simp [ceq] at hc
    subst hc
    simp [Op.eqItems]
  | m + 1, i, xs, ys, r, w, hx, hy, hc => by
    generalize hcn : ks.length = c at *
    have hx' : xs.length = i * c + c + m * c := by rw [hx]; simp [Nat.add_mul]; omega
    have p1 := part_mk (w := w) (xs := xs) hs ha h1 (off := i * c) (by omega)
    have p2 := part_mk (w := w) (xs := ys) hs ha h1 (off := i * c) (by omega)
    have hl1 : ((xs.drop (i * c)).take c).length = ks.length := by simp; omega
    have hl2 : ((ys.drop (i * c)).take c).length = ks.length := by simp; omega
    have e1 : xs.drop (i * c) = (xs.drop (i * c)).take c ++ xs.drop ((i + 1) * c) := by rw [Nat.add_mul, Nat.one_mul, ← List.drop_drop, List.take_append_drop]
    have e2 : ys.drop (i * c) = (ys.drop (i * c)).take c ++ ys.drop ((i + 1) * c) := by rw [Nat.add_mul, Nat.one_mul, ← List.drop_drop, List.take_append_drop]
    rw [e1, e2, List.replicate_succ, List.flatten_cons] at hc
    rw [List.range'_succ]
    simp only [Op.eqItems, Sem.run_bind, p1, p2, Result.andThen_ok]
    rcases ceq_append hl1 hl2 hc with ⟨z, rfl⟩ | ⟨z, z2⟩
    · rw [IH _ _ _ w hl1 hl2 z]
      simp
    · rw [IH _ _ _ w hl1 hl2 z]
      simp only [Result.andThen_ok, Bool.not_true, Bool.false_eq_true, if_false]
      subst hcn
      exact eqItems_run IH hs ha h1 m (i + 1) xs ys r w (by rw [hx]; congr 1; omega) hy z2

theorem mk_one {t : TypeId} {v : Value} (h : aggB P t = some false) : mk P t [v] = v := by simp [mk, h]

theorem ceq_one {k : Nat} {xs ys : List Value} {r : Bool} (hx : xs.length = 1) (hy : ys.length = 1) (h : ceq [k] xs ys = some r) : ∃ x y, xs = [x] ∧ ys = [y] ∧ ceq1 k x y = some r := by
  match xs, ys, hx, hy with
  | [x], [y], _, _ =>
    refine ⟨x, y, rfl, rfl, ?_⟩
    simp only [ceq] at h
    cases hc : ceq1 k x y with
    | none => rw [hc] at h; cases h
    | some v => rw [hc] at h; cases v <;> exact h

theorem ceq1_int {x y : Value} {r : Bool} (h : ceq1 0 x y = some r) : ∃ k a b, x = .int k a ∧ y = .int k b ∧ r = (a == b) := by
  cases x <;> cases y <;> simp only [ceq1, reduceCtorEq] at h
  split at h
  · next hk => subst hk; exact ⟨_, _, _, rfl, rfl, (Option.some.inj h).symm⟩
  · cases h
theorem ceq1_bool {x y : Value} {r : Bool} (h : ceq1 1 x y = some r) : ∃ a b, x = .bool a ∧ y = .bool b ∧ r = (a == b) := by
  cases x <;> cases y <;> simp only [ceq1, reduceCtorEq] at h
  exact ⟨_, _, rfl, rfl, (Option.some.inj h).symm⟩
theorem ceq1_str {x y : Value} {r : Bool} (h : ceq1 2 x y = some r) : ∃ a b, x = .string a ∧ y = .string b ∧ r = (a.toList == b.toList) := by
  cases x <;> cases y <;> simp only [ceq1, reduceCtorEq] at h
  exact ⟨_, _, rfl, rfl, (Option.some.inj h).symm⟩

theorem flat_eq : ∀ (d k : Nat) (t : TypeId) (ks : List Nat), flatT P d t = some ks → EqT P (k + d) t ks := by
  intro d
  induction d with
  | zero => intro k t ks hf; simp [flatT] at hf
  | succ d IH =>
    intro k t ks hf xs ys r w hx hy hc
    unfold flatT at hf
    split at hf
    · next q hu =>
      have ha : aggB P t = some false := by simp [aggB, hu]
      split at hf <;> cases hf
      obtain ⟨x, y, rfl, rfl, h1⟩ := ceq_one hx hy hc
      rw [mk_one ha, mk_one ha]
      obtain ⟨q', u, v, rfl, rfl, rfl⟩ := ceq1_int h1
      show (Op.equalIn ((k + d) + 1) t _ _).run P w = _
      simp only [Op.equalIn, Sem.run_bind, run_underlying hu, Result.andThen_ok, if_true]
      rfl
    · next hu =>
      have ha : aggB P t = some false := by simp [aggB, hu]
      split at hf <;> cases hf
      obtain ⟨x, y, rfl, rfl, h1⟩ := ceq_one hx hy hc
      rw [mk_one ha, mk_one ha]
      obtain ⟨u, v, rfl, rfl, rfl⟩ := ceq1_bool h1
      show (Op.equalIn ((k + d) + 1) t _ _).run P w = _
      simp only [Op.equalIn, Sem.run_bind, run_underlying hu, Result.andThen_ok]
      rfl
    · next hu =>
      have ha : aggB P t = some false := by simp [aggB, hu]
      split at hf <;> cases hf
      obtain ⟨x, y, rfl, rfl, h1⟩ := ceq_one hx hy hc
      rw [mk_one ha, mk_one ha]
      obtain ⟨u, v, rfl, rfl, rfl⟩ := ceq1_str h1
      show (Op.equalIn ((k + d) + 1) t _ _).run P w = _
      simp only [Op.equalIn, Sem.run_bind, run_underlying hu, Result.andThen_ok]
      show (pure (u == v) : Sem Bool).run P w = _
      rw [Sem.run_pure]
      congr 1
      have e : (u == v) = (u.data == v.data) := by cases u; cases v; rfl
      rw [e, ByteArray.toList_eq, ByteArray.toList_eq]
      by_cases huv : u.data = v.data
      · rw [huv, beq_self_eq_true, beq_self_eq_true]
      · have h2 : ¬ u.data.toList = v.data.toList := fun e => huv (Array.ext' e)
        rw [beq_eq_false_iff_ne.2 huv, beq_eq_false_iff_ne.2 h2]
    · next fs hu =>
      have ha : aggB P t = some true := by simp [aggB, hu]
      split at hf
      · cases hf
      · next h1 =>
        have hfs : P.fieldsOf t = fs := by simp [Program.fieldsOf, hu]
        simp only [mk, ha, if_true]
        rw [show k + (d + 1) = (k + d) + 1 from rfl, run_equalIn_struct w (k + d) t _ _ (by rw [hfs]; exact hu) (by simpa using h1), hfs]
        exact eqFields_run (d := d) (fun t ks ht => IH k t ks ht) fs.toList 0 ks xs ys r w hf (by omega) (by omega) (by simpa using hc)
    · next m e hu =>
      have ha : aggB P t = some true := by simp [aggB, hu]
      split at hf
      · next ks' h1 =>
        split at hf
        · next hs =>
          obtain rfl := Option.some.inj hf
          simp only [mk, ha, if_true]
          obtain ⟨j, hj, hjs⟩ : ∃ j, P.info? e = some j ∧ j.size = ks'.length := by
            unfold sizeB at hs
            split at hs
            · next j hj => exact ⟨j, hj, by simpa using hs⟩
            · cases hs
          have hce : P.cellsOf e = ks'.length := by simp [Program.cellsOf, hj, hjs]
          obtain ⟨ga, g1⟩ := flatT_agg h1
          rw [show k + (d + 1) = (k + d) + 1 from rfl, run_equalIn_array w (k + d) _ _ hu hj, hce, List.range_eq_range']
          have hlen : (List.replicate m ks').flatten.length = m * ks'.length := by simp
          exact eqItems_run (IH k e _ h1) hs ga g1 m 0 xs ys r w (by rw [Nat.zero_add]; omega) (by omega) (by simpa using hc)
        · cases hf
      · cases hf
    · cases hf
end

section
variable {P : Program} {Φ : Nat → Option FnF} {o : Oper} {a : Act} {G : Gh} {h : AH} {c : Nat} {w : World} {env : Env} {r : AV × AH × Nat}

theorem aeq_ceq : ∀ {ks us vs xs ys r}, LRel G h c w us xs → LRel G h c w vs ys → aeqCells ks us vs = some r → ceq ks xs ys = some r
  | [], [], [], xs, ys, r, L, M, he => by
    rw [L.nil_inv, M.nil_inv]
    exact he
  | k :: ks, u :: us, v :: vs, xs, ys, r, L, M, he => by
    obtain ⟨x, xs', rfl, R, L'⟩ := L.cons_inv
    obtain ⟨y, ys', rfl, S, M'⟩ := M.cons_inv
    have h1 : ∀ q, aeq1 k u v = some q → ceq1 k x y = some q := by
      intro q hq
      unfold aeq1 at hq
      split at hq
      · cases R; cases S; exact hq
      · cases R; cases S; exact hq
      · cases R; cases S; exact hq
      · cases hq
    simp only [aeqCells] at he
    simp only [ceq]
    cases hq : aeq1 k u v with
    | none => rw [hq] at he; cases he
    | some q =>
      rw [hq] at he
      rw [h1 q hq]
      cases q with
      | false => exact he
      | true => exact aeq_ceq L' M' he
  | [], _ :: _, _, _, _, _, _, _, he => by simp [aeqCells] at he
  | [], [], _ :: _, _, _, _, _, _, he => by simp [aeqCells] at he
  | _ :: _, [], _, _, _, _, _, _, he => by simp [aeqCells] at he
  | _ :: _, _ :: _, [], _, _, _, _, _, he => by simp [aeqCells] at he

theorem ok_eqa (W : WRel G h c w) (E : EnvRel G h c w env a) {neg ks t x y t' x' y'} (ho : o.op = .binOp (if neg then .neq else .eql) t x y t') (hf : flatT P 100 t = some ks) (ha : aggB P t = some true) (hg : P.eqGuardType P.depth t = false) (hx : xFit x x' = true) (hy : xFit y y' = true)
    (he : evOp Φ env h c (.eqa neg ks x' y') = some r) : OpOK P o a G h c w r := by
  simp only [evOp, Option.bind_eq_some_iff] at he
  obtain ⟨u, hu, v, hv, hz⟩ := he
  have rx := xFit_rel hx E hu
  have ry := xFit_rel hy E hv
  generalize hcx : a.eval x = cx at rx
  generalize hcy : a.eval y = cy at ry
  split at hz
  · next p q =>
    split at hz
    · next hl =>
      simp only [Option.map_eq_some_iff] at hz
      obtain ⟨b, hb, rfl⟩ := hz
      obtain ⟨xs, rfl, L⟩ := rx.agg_inv
      obtain ⟨ys, rfl, M⟩ := ry.agg_inv
      have hc := aeq_ceq L M hb
      have key : (Op.equal t (.agg ⟨xs⟩) (.agg ⟨ys⟩)).run P w = .ok b w := by
        have := flat_eq 100 9900 t ks hf xs ys b w (L.1.trans hl.1) (M.1.trans hl.2) hc
        simp only [mk, ha, if_true] at this
        exact this
      refine .quiet W ?_ (.bool _)
      have hb := binOp_eql (P := P) (w := w) (t := t) (cx := .agg ⟨xs⟩) (cy := .agg ⟨ys⟩) (by simp) (by simp) (by simp) (by simp) key
      have hg' : ∀ op, (eqGuard op t x y (.agg ⟨xs⟩) (.agg ⟨ys⟩)).run P w = .ok () w := by
        intro op
        unfold eqGuard
        cases op <;> simp [hg]
      cases neg
      · simp only [execOp, ho, hcx, hcy, Sem.run_bind, hg', hb.1, Result.andThen_ok, Bool.false_eq_true, if_false]
        rfl
      · simp only [execOp, ho, hcx, hcy, Sem.run_bind, hg', hb.2, Result.andThen_ok, if_true]
        rfl
    · cases hz
  · cases hz
end
end Go.Abs

namespace Go.Abs
variable [Globs]
open Go

section
variable {P : Program} {Φ : Nat → Option FnF} {o : Oper} {a : Act} {G : Gh} {h : AH} {c : Nat} {w : World} {env : Env} {r : AV × AH × Nat}

/- ---------------------------------------------------------------- maps -/
def Gh.nix : Gh := { blk := fun _ => 0, base := fun _ => 0, sz := fun _ => 0, ln := fun _ => 0, tot := fun _ => 0, R0 := fun _ => False, R1 := fun _ => False, opq := fun _ => undef, lp := fun _ => ⟨.ready, none, 0, #[], #[], .skip, .skip, 0⟩ }
theorem PVs.len {vs cvs} (H : PVs vs cvs) : cvs.length = vs.length := by
  induction H with
  | nil => rfl
  | cons h t ih => simp [ih]
theorem PVs.rel {vs cvs} (H : PVs vs cvs) : LRel G h c w vs cvs := by
  induction H with
  | nil => exact .nil
  | cons h t ih =>
    cases h with
    | int k n => exact .cons (.int k n) ih
    | bool b => exact .cons (.bool b) ih
theorem PV.rel {v cv} (H : PV v cv) : VRel G h c w v cv := by
  cases H with
  | int k n => exact .int k n
  | bool b => exact .bool b
theorem PVs.of : ∀ {vs cvs}, LRel G h c w vs cvs → vs.all AV.isInt = true → PVs vs cvs
  | [], cvs, L, _ => by rw [L.nil_inv]; exact .nil
  | v :: vs, cvs, L, hi => by
    obtain ⟨v', vs', rfl, R, L'⟩ := L.cons_inv
    rw [List.all_cons, Bool.and_eq_true] at hi
    have := PVs.of L' hi.2
    cases R <;> first | exact .cons (.int _ _) this | (simp [AV.isInt] at hi)
theorem PV.of {v cv} (R : VRel G h c w v cv) (hi : v.isIB = true) : PV v cv := by
  cases R <;> first | exact .int _ _ | exact .bool _ | (simp [AV.isIB] at hi)
theorem PVs.det {vs : List AV} : ∀ {cvs dvs}, PVs vs cvs → PVs vs dvs → cvs = dvs := by
  induction vs with
  | nil => intro cvs dvs A B; cases A; cases B; rfl
  | cons v vs ih =>
    intro cvs dvs A B
    cases A with
    | cons h t =>
      cases B with
      | cons h' t' =>
        rw [ih t t']
        congr 1
        cases h <;> cases h' <;> rfl
theorem aeq_ints : ∀ {kk : List Nat} {us vs : List AV}, us.all AV.isInt = true → vs.all AV.isInt = true → aeqCells kk us vs = some true → us = vs
  | [], [], [], _, _, _ => rfl
  | k :: kk, u :: us, v :: vs, h1, h2, h3 => by
    rw [List.all_cons, Bool.and_eq_true] at h1 h2
    obtain ⟨a1, h1⟩ := h1
    obtain ⟨a2, h2⟩ := h2
    unfold aeqCells at h3
    cases u <;> simp only [AV.isInt, Bool.false_eq_true] at a1
    cases v <;> simp only [AV.isInt, Bool.false_eq_true] at a2
    rename_i k1 n1 k2 n2
    cases k with
    | zero =>
      simp only [aeq1] at h3
      by_cases hk : k1 = k2
      · rw [if_pos hk] at h3
        cases hn : (n1 == n2)
        · rw [hn] at h3; cases h3
        · rw [hn] at h3
          rw [aeq_ints h1 h2 h3, hk, eq_of_beq hn]
      · rw [if_neg hk] at h3; cases h3
    | succ k =>
      cases k with
      | zero => simp [aeq1] at h3
      | succ k => cases k <;> simp [aeq1] at h3
  | [], _ :: _, _, _, _, h => by simp [aeqCells] at h
  | [], [], _ :: _, _, _, h => by simp [aeqCells] at h
  | _ :: _, [], _, _, _, h => by simp [aeqCells] at h
  | _ :: _, _ :: _, [], _, _, h => by simp [aeqCells] at h
theorem sameBits_self {vs cvs} (H : PVs vs cvs) (n : Nat) : Instr.sameBits (n + 1) (.agg ⟨cvs⟩) (.agg ⟨cvs⟩) = true := by
  have : ∀ {vs cvs}, PVs vs cvs → ((cvs.zip cvs).all fun p => Instr.sameBits n p.1 p.2) = true := by
    intro vs cvs H
    induction H with
    | nil => rfl
    | cons h t ih =>
      rw [List.zip_cons_cons, List.all_cons, Bool.and_eq_true]
      refine ⟨?_, ih⟩
      cases h <;> simp [Instr.sameBits]
  have h := this H
  simp only [Instr.sameBits, beq_self_eq_true, Bool.true_and]
  exact h
theorem keyFit_spec {t kk} (h : keyFit P t kk = true) : flatT P 100 t = some kk ∧ aggB P t = some true ∧ ∃ fs, P.underlying t = some (.struct fs) ∧ ∀ f ∈ fs.toList, (intB P f.type).isSome = true ∧ nFit P f.type none = true ∧ f.offset < kk.length := by
  unfold keyFit at h
  rw [Bool.and_eq_true, Bool.and_eq_true, beq_iff_eq, beq_iff_eq] at h
  obtain ⟨⟨h1, h2⟩, h3⟩ := h
  refine ⟨h1, h2, ?_⟩
  split at h3
  · next fs hu =>
    refine ⟨fs, hu, fun f hf => ?_⟩
    rw [List.all_eq_true] at h3
    have := h3 f hf
    simp only [Bool.and_eq_true, decide_eq_true_eq] at this
    exact ⟨this.1.1, this.1.2, this.2⟩
  · cases h3
theorem run_checkKey_ints {t kk} (hkf : keyFit P t kk = true) {ks cvs} (L : LRel G h c w ks cvs) (hl : ks.length = kk.length) (em : Bool) (m : Nat) : (Instr.checkKey em (m + 2) t (.agg ⟨cvs⟩)).run P w = .ok () w := by
  obtain ⟨_, _, fs, hu, hf⟩ := keyFit_spec hkf
  rw [Instr.checkKey]
  simp only [Sem.run_bind, run_underlying hu, Result.andThen_ok]
  rw [← Array.forIn_toList]
  generalize fs.toList = l at hf
  induction l with
  | nil => simp
  | cons f l ih =>
    obtain ⟨h1, h2, h3⟩ := hf f (by simp)
    have h4 : f.offset < ks.length := by omega
    obtain ⟨cv, p1, _⟩ := part_run (P := P) (n := none) (off := f.offset) (v := ks[f.offset]) h2 L (by rw [part, List.head?_drop]; exact List.getElem?_eq_getElem h4)
    have p2 : (Instr.checkKey em (m + 1) f.type cv).run P w = .ok () w := by
      cases hq : intB P f.type with
      | none => rw [hq] at h1; cases h1
      | some q =>
        have hu2 := intB_spec hq
        rw [Instr.checkKey]
        simp [run_underlying hu2]
    simp only [List.forIn_cons, Sem.run_bind]
    by_cases hn : f.name = "_"
    · simp only [hn, ne_eq, not_true_eq_false, if_false, Sem.run_pure, Result.andThen_ok]
      exact ih (fun y hy => hf y (by simp [hy]))
    · simp only [hn, ne_eq, not_false_eq_true, if_true, Sem.run_bind, Result.andThen_ok, p1, p2, Sem.run_pure]
      exact ih (fun y hy => hf y (by simp [hy]))
/-- the search of a key -/
theorem run_find {t kk} (h : keyFit P t kk = true) {ks cvs} (K : PVs ks cvs) (hl : ks.length = kk.length) : ∀ {rows es i q}, KVs rows es → mapPos kk ks rows i = some q →
    ∃ x, (Instr.findAsking t (.agg ⟨cvs⟩) es i).run P w = .ok x w ∧ (match q with
      | none => x = none
      | some j => i ≤ j ∧ ∃ row e, rows[j - i]? = some row ∧ es[j - i]? = some e ∧ KV row e ∧ aeqCells kk ks row.tail = some true ∧ x = some (j, e.val))
  | _, _, i, q, .nil, hq => by
    simp only [mapPos, Option.some.injEq] at hq
    subst hq
    exact ⟨none, by simp [Instr.findAsking], rfl⟩
  | _, _, i, q, .cons (r := row) (e := e) (rs := rs) (es := es) hk t', hq => by
    unfold mapPos at hq
    split at hq
    · next hlen =>
      have key : ∀ b, aeqCells kk ks row.tail = some b → (Op.equal t (.agg ⟨cvs⟩) e.key).run P w = .ok b w := by
        intro b hb
        cases hk with
        | mk v ks' cv cvs' born hv hk' hi =>
          have hl' : ks'.length = kk.length := hlen
          have hc := aeq_ceq (G := Gh.nix) (h := []) (c := 0) (w := w) K.rel hk'.rel hb
          have := flat_eq 100 9900 t kk (keyFit_spec h).1 cvs cvs' b w (K.len.trans hl) (hk'.len.trans hl') hc
          simp only [mk, (keyFit_spec h).2.1, if_true] at this
          exact this
      split at hq
      · next hb =>
        obtain rfl := Option.some.inj hq
        refine ⟨some (i, e.val), by simp [Instr.findAsking, key _ hb], Nat.le_refl _, row, e, by simp, by simp, hk, hb, rfl⟩
      · next hb =>
        obtain ⟨x, h1, h2⟩ := run_find h K hl t' hq
        refine ⟨x, by simp [Instr.findAsking, key _ hb, h1], ?_⟩
        cases q with
        | none => exact h2
        | some j =>
          obtain ⟨hj, row', e', r1, r2, r3, r4, r5⟩ := h2
          refine ⟨by omega, row', e', ?_, ?_, r3, r4, r5⟩
          · rw [show j - i = (j - (i + 1)) + 1 by omega, List.getElem?_cons_succ]; exact r1
          · rw [show j - i = (j - (i + 1)) + 1 by omega, List.getElem?_cons_succ]; exact r2
      · cases hq
    · cases hq
end
end Go.Abs

namespace Go.Abs
variable [Globs]
open Go

section
variable {P : Program} {Φ : Nat → Option FnF} {o : Oper} {a : Act} {G : Gh} {h : AH} {c : Nat} {w : World} {env : Env} {r : AV × AH × Nat}

theorem map_new {nm} {ob : Obj} {w' : World} (b : Blk) (W : WRel G h c w) (hw : w'.heap = w.heap.push ob) (h1 : w'.os = w.os) (h2 : w'.tape = w.tape) (h3 : w'.output = w.output)
    (hnew : Later G (G.new c w.heap.size 0 0 0 0) h (h.put nm c b) c (c + 1) w w' → BRel (G.new c w.heap.size 0 0 0 0) (h.put nm c b) (c + 1) w' c b) :
    Stp G (G.new c w.heap.size 0 0 0 0) h (h.put nm c b) c (c + 1) w w' ∧ WRel (G.new c w.heap.size 0 0 0 0) (h.put nm c b) (c + 1) w' := by
  have hk : ∀ k, k < w.heap.size → w'.heap[k]? = w.heap[k]? := by
    intro k hk
    rw [hw, Array.getElem?_push, if_neg (by omega)]
  have L : Later G (G.new c w.heap.size 0 0 0 0) h (h.put nm c b) c (c + 1) w w' :=
    { gh := fun g hg => by
        have : g ≠ c := by omega
        simp [Gh.new, this]
      r0 := fun _ x => x
      r1 := fun _ x => x
      opq := rfl
      cc := by omega
      lv := fun nm' g' hg x => by
        rcases live_put.1 x with ⟨_, rfl⟩ | ⟨_, x⟩
        · omega
        · exact x
      rw := fun b hb => hk b (W.old b hb) }
  constructor
  · exact { L with
      r1' := fun _ x => x
      size := by rw [hw]; simp
      os := h1
      tape := h2
      output := h3
      keep := fun b hb _ => hk b hb
      owns := fun nm' g' x => by
        rcases liveN_put x with ⟨_, rfl⟩ | ⟨_, x⟩
        · right; simp [Gh.new]
        · left
          have hg' : g' < c := by obtain ⟨b, y, _⟩ := x; exact W.gen _ _ _ y
          exact ⟨nm', g', x, by simp [Gh.new, show g' ≠ c by omega]⟩
      froze := fun _ x => .inl x }
  · refine W.put L (by rw [hw]; simp) (fun nm2 g2 hn hl2 => ?_) (by omega) (hnew L) (fun b hb => ?_)
    · obtain ⟨b2, x, _⟩ := hl2
      have hlt : G.blk g2 < w.heap.size := by
        exact (W.blk _ _ _ x).lt
      refine ⟨hk _ hlt, fun _ => ?_, fun x => x⟩
      simp [Gh.new]; omega
    · rw [hw]
      have := W.old b hb
      simp; omega
theorem ok_mkm {t nm} (W : WRel G h c w) (ho : o.op = .makeMap t none) (he : evOp Φ env h c (.mkm nm) = some r) : OpOK P o a G h c w r := by
  simp only [evOp, Option.some.injEq] at he
  subst he
  obtain ⟨S, W'⟩ := map_new (nm := nm) (ob := .map #[] 0) (w' := { w with heap := w.heap.push (.map #[] 0) }) (.mpb []) W rfl rfl rfl rfl (fun L => by
    refine .mpb [] [] 0 ?_ ?_ .nil
    · simp only [Gh.new, if_true]; simp
    · rw [Gh.new_R]
      simp only [Gh.new, if_true]
      intro x; have := W.old _ x; omega)
  refine ⟨_, _, _, ?_, S, W', .inl ⟨.map (some w.heap.size), rfl, .mp _ _ _ (Nat.lt_succ_self c) (fun _ => by simp [Gh.new])⟩⟩
  simp only [execOp, ho, Instr.makeMap, Sem.run_bind, Option.map_none, Sem.run_pure, Result.andThen_ok]
  rfl
theorem map_set {nm g b'} {ob ob' : Obj} (W : WRel G h c w) (hlN : liveN h nm g) (hb : w.heap[G.blk g]? = some ob)
    (hnew : ∀ w' : World, w'.heap[G.blk g]? = some ob' → Later G G h (h.put nm g b') c c w w' → BRel G (h.put nm g b') c w' g b') (hR : ¬ G.R true (G.blk g)) :
    Stp G G h (h.put nm g b') c c w { w with heap := w.heap.setIfInBounds (G.blk g) ob' } ∧ WRel G (h.put nm g b') c { w with heap := w.heap.setIfInBounds (G.blk g) ob' } := by
  have hlt : G.blk g < w.heap.size := (Array.getElem?_eq_some_iff.1 hb).1
  have i1 : ({ w with heap := w.heap.setIfInBounds (G.blk g) ob' } : World).heap[G.blk g]? = some ob' := by simp [hlt]
  have i2 : ∀ b, b ≠ G.blk g → ({ w with heap := w.heap.setIfInBounds (G.blk g) ob' } : World).heap[b]? = w.heap[b]? := by
    intro b hn
    simp only [Array.getElem?_setIfInBounds, if_neg (Ne.symm hn)]
  have i3 : ({ w with heap := w.heap.setIfInBounds (G.blk g) ob' } : World).heap.size = w.heap.size := by simp
  have hl := hlN.live
  have hgc : g < c := by obtain ⟨b, x⟩ := hl; exact W.gen _ _ _ x
  have L : Later G G h (h.put nm g b') c c w { w with heap := w.heap.setIfInBounds (G.blk g) ob' } :=
    { gh := fun _ _ => ⟨rfl, rfl, rfl, rfl, rfl⟩
      r0 := fun _ x => x
      r1 := fun _ x => x
      opq := rfl
      cc := Nat.le_refl _
      lv := fun nm' g' _ x => by
        rcases live_put.1 x with ⟨rfl, rfl⟩ | ⟨_, x⟩
        · exact hl
        · exact x
      rw := fun b hb => i2 b (fun e => hR (e ▸ hb)) }
  constructor
  · exact { L with
      r1' := fun _ x => x
      size := by rw [i3]; exact Nat.le_refl _
      os := rfl
      tape := rfl
      output := rfl
      keep := fun b _ hn => i2 b (fun e => hn nm g hlN e.symm)
      owns := fun nm' g' x => by
        rcases liveN_put x with ⟨rfl, rfl⟩ | ⟨_, x⟩
        · exact .inl ⟨_, _, hlN, rfl⟩
        · exact .inl ⟨_, _, x, rfl⟩
      froze := fun _ x => .inl x }
  · refine W.put L (by rw [i3]; exact Nat.le_refl _) (fun nm2 g2 hn hl2 => ⟨i2 _ (fun e => ?_), fun _ e => ?_, id⟩) hgc (hnew _ i1 L) (fun b hb => by rw [i3]; exact W.old b hb)
    · rcases W.apart nm2 g2 nm g hl2 hlN with ⟨h1, _⟩ | h1
      · exact hn h1
      · exact h1 e
    · rcases W.apart nm2 g2 nm g hl2 hlN with ⟨h1, _⟩ | h1
      · exact hn h1
      · exact h1 e.symm
theorem KVs.set {rows es} (H : KVs rows es) : ∀ {j r e}, KV r e → KVs (rows.set j r) (es.set j e) := by
  induction H with
  | nil => intro j r e _; exact .nil
  | cons h t ih =>
    intro j r e hk
    cases j with
    | zero => exact .cons hk t
    | succ j => exact .cons h (ih hk)
theorem KVs.push {rows es} (H : KVs rows es) {r e} (hk : KV r e) : KVs (rows ++ [r]) (es ++ [e]) := by
  induction H with
  | nil => exact .cons hk .nil
  | cons h t ih => exact .cons h ih
theorem zvFit_spec {t z} (h : zvFit P t z = true) : ∃ i v, P.info? t = some i ∧ i.zero = some v ∧ vFit v z = true := by
  unfold zvFit at h
  split at h
  · next i hi =>
    split at h
    · next v hv => exact ⟨i, v, hi, hv, h⟩
    · cases h
  · cases h
variable (W : WRel G h c w) (E : EnvRel G h c w env a)
include W E
theorem ok_mget {t m k kt et kk z m' k'} (ho : o.op = .lookup t m k false) (ht : P.underlying t = some (.map kt et)) (hk : keyFit P kt kk = true) (hz : zvFit P et z = true) (hm : xFit m m' = true) (hkx : xFit k k' = true)
    (he : evOp Φ env h c (.mget kk z m' k') = some r) : OpOK P o a G h c w r := by
  simp only [evOp, Option.bind_eq_some_iff] at he
  obtain ⟨u, hu, v, hv, he⟩ := he
  have rm := xFit_rel hm E hu
  have rk := xFit_rel hkx E hv
  generalize hcm : a.eval m = cm at rm
  generalize hck : a.eval k = ck at rk
  split at he
  · next nm g ks =>
    split at he
    · next rows hget =>
      split at he
      · next hl =>
        simp only [Option.map_eq_some_iff] at he
        obtain ⟨x, hx, rfl⟩ := he
        obtain ⟨cvs, rfl, LK⟩ := rk.agg_inv
        have K := PVs.of LK hl.2
        cases rm with
        | mp _ _ rr hg hlv =>
          have hr := hlv ⟨_, hget⟩
          subst hr
          cases W.blk _ _ _ hget with
          | mpb _ es clock hb hR hkv =>
            obtain ⟨_, _, fs, hfs, _⟩ := keyFit_spec hk
            have gm : (getObj (G.blk g)).run P w = .ok (.map ⟨es⟩ clock) w := by simp [getObj, Sem.run, hb]
            have hck2 : ∀ em, (Instr.checkKey em 10000 kt (.agg ⟨cvs⟩)).run P w = .ok () w := fun em => run_checkKey_ints hk LK hl.1 em 9998
            unfold mapGet at hx
            split at hx
            · next i hp =>
              obtain ⟨y, f1, f2⟩ := run_find (P := P) (w := w) hk K hl.1 hkv hp
              obtain ⟨_, row, e, r1, r2, r3, r4, rfl⟩ := f2
              rw [Nat.sub_zero] at r1 r2
              rw [r1, Option.bind_some] at hx
              have hfk : (Instr.findKey kt (.agg ⟨cvs⟩) es).run P w = .ok (some (i, e.val)) w := by
                rw [run_findKey_eq w (by rw [hfs]) _ es]; exact f1
              cases r3 with
              | mk v0 ks0 cv0 cvs0 born hv0 hk0 hi0 =>
                simp only [List.head?_cons, Option.some.injEq] at hx
                subst hx
                refine .quiet W (cv := cv0) ?_ hv0.rel
                simp only [execOp, ho, hcm, hck, Instr.lookup, Sem.run_bind, run_underlying ht, gm, Result.andThen_ok, Sem.run_pure, hck2, hfk]
                rfl
            · next hp =>
              obtain ⟨y, f1, f2⟩ := run_find (P := P) (w := w) hk K hl.1 hkv hp
              subst f2
              obtain rfl := Option.some.inj hx
              have hfk : (Instr.findKey kt (.agg ⟨cvs⟩) es).run P w = .ok none w := by
                rw [run_findKey_eq w (by rw [hfs]) _ es]; exact f1
              obtain ⟨inf, zv, z1, z2, z3⟩ := zvFit_spec hz
              have hzv : (zeroValue et).run P w = .ok zv w := by simp [zeroValue, typeInfo, z1, z2]
              have hz1 : VRel G h c w z zv := vFit_rel z3
              refine .quiet W (cv := zv) ?_ hz1
              simp only [execOp, ho, hcm, hck, Instr.lookup, Sem.run_bind, run_underlying ht, gm, Result.andThen_ok, Sem.run_pure, hck2, hfk, hzv]
              rfl
            · cases hx
      · cases he
    · cases he
  · cases he
theorem ok_mset {t m k v kt et kk m' k' v'} (ho : o.op = .mapUpdate t m k v) (hd : o.dst = none) (ht : P.underlying t = some (.map kt et)) (hk : keyFit P kt kk = true) (hm : xFit m m' = true) (hkx : xFit k k' = true) (hvx : xFit v v' = true)
    (he : evOp Φ env h c (.mset kk m' k' v') = some r) : OpOK P o a G h c w r := by
  simp only [evOp, Option.bind_eq_some_iff] at he
  obtain ⟨u, hu, y, hy, z, hz, he⟩ := he
  have rm := xFit_rel hm E hu
  have rk := xFit_rel hkx E hy
  have rv := xFit_rel hvx E hz
  generalize hcm : a.eval m = cm at rm
  generalize hck : a.eval k = ck at rk
  generalize hcv : a.eval v = cv at rv
  split at he
  · next nm g ks =>
    split at he
    · next rows hget =>
      split at he
      · next hl =>
        simp only [Option.map_eq_some_iff] at he
        obtain ⟨x, hx, rfl⟩ := he
        obtain ⟨cvs, rfl, LK⟩ := rk.agg_inv
        have K := PVs.of LK hl.2.1
        have V := PV.of rv hl.2.2
        cases rm with
        | mp _ _ rr hg hlv =>
          have hr := hlv ⟨_, hget⟩
          subst hr
          cases W.blk _ _ _ hget with
          | mpb _ es clock hb hR hkv =>
            obtain ⟨_, _, fs, hfs, _⟩ := keyFit_spec hk
            have hlN : liveN h nm g := ⟨_, hget, by simp⟩
            have gm : (getObj (G.blk g)).run P w = .ok (.map ⟨es⟩ clock) w := by simp [getObj, Sem.run, hb]
            have sm : ∀ ob, (setObj (G.blk g) ob).run P w = .ok () { w with heap := w.heap.setIfInBounds (G.blk g) ob } := fun ob => by simp [setObj, Sem.run, hb]
            have hck2 : ∀ em, (Instr.checkKey em 10000 kt (.agg ⟨cvs⟩)).run P w = .ok () w := fun em => run_checkKey_ints hk LK hl.1 em 9998
            unfold mapSet at hx
            split at hx
            · next i hp =>
              obtain ⟨y, f1, f2⟩ := run_find (P := P) (w := w) hk K hl.1 hkv hp
              obtain ⟨_, row, e, r1, r2, r3, r4, rfl⟩ := f2
              rw [Nat.sub_zero] at r1 r2
              have hfk : (Instr.findKey kt (.agg ⟨cvs⟩) es).run P w = .ok (some (i, e.val)) w := by
                rw [run_findKey_eq w (by rw [hfs]) _ es]; exact f1
              obtain rfl := Option.some.inj hx
              cases r3 with
              | mk v0 ks0 cv0 cvs0 born hv0 hk0 hi0 =>
                have e0 := aeq_ints hl.2.1 hi0 r4
                subst e0
                have e1 := PVs.det K hk0
                subst e1
                have hes : (⟨es⟩ : Array MapEntry).modify i (fun e => { e with key := .agg ⟨cvs⟩, val := cv }) = ⟨es.set i ⟨.agg ⟨cvs⟩, cv, born⟩⟩ := by
                  apply Array.ext'
                  rw [Array.toList_modify]
                  have hi := (List.getElem?_eq_some_iff.1 r2).1
                  apply List.ext_getElem?
                  intro j
                  rw [List.getElem?_modify, List.getElem?_set]
                  by_cases hij : i = j
                  · subst hij
                    have r2' : es[i]? = some ⟨.agg ⟨cvs⟩, cv0, born⟩ := r2
                    have r2'' := (List.getElem?_eq_some_iff.1 r2').2
                    simp [r2', hi, r2'']
                  · simp [hij]
                obtain ⟨S, W'⟩ := map_set (b' := .mpb (rows.set i (z :: ks))) (ob' := .map ⟨es.set i ⟨.agg ⟨cvs⟩, cv, born⟩⟩ clock) W hlN hb (fun w' hw _ => .mpb _ _ clock hw hR (hkv.set (.mk z ks cv cvs born V K hl.2.1))) hR
                refine ⟨_, _, G, ?_, S, W', .inr ⟨rfl, hd⟩⟩
                have hgd : ((((⟨es⟩ : Array MapEntry)[i]?).map (·.key)).getD (.agg ⟨cvs⟩)) = .agg ⟨cvs⟩ := by
                  have : (⟨es⟩ : Array MapEntry)[i]? = some ⟨.agg ⟨cvs⟩, cv0, born⟩ := by simpa using r2
                  rw [this]; rfl
                have hst : (Instr.keyThatStays (.agg ⟨cvs⟩) (.agg ⟨cvs⟩)).run P w = .ok (.agg ⟨cvs⟩) w := by
                  unfold Instr.keyThatStays
                  rw [if_pos (sameBits_self K 9999)]; rfl
                simp only [execOp, ho, hcm, hck, hcv, Instr.mapUpdate, Sem.run_bind, run_underlying ht, gm, Result.andThen_ok, Sem.run_pure, hck2, hfk, hgd, hst, hes, sm]
            · next hp =>
              obtain ⟨y, f1, f2⟩ := run_find (P := P) (w := w) hk K hl.1 hkv hp
              subst f2
              obtain rfl := Option.some.inj hx
              have hfk : (Instr.findKey kt (.agg ⟨cvs⟩) es).run P w = .ok none w := by
                rw [run_findKey_eq w (by rw [hfs]) _ es]; exact f1
              have hes : (⟨es⟩ : Array MapEntry).push { key := .agg ⟨cvs⟩, val := cv, born := clock } = ⟨es ++ [⟨.agg ⟨cvs⟩, cv, clock⟩]⟩ := by
                apply Array.ext'; simp
              obtain ⟨S, W'⟩ := map_set (b' := .mpb (rows ++ [z :: ks])) (ob' := .map ⟨es ++ [⟨.agg ⟨cvs⟩, cv, clock⟩]⟩ (clock + 1)) W hlN hb (fun w' hw _ => .mpb _ _ (clock + 1) hw hR (hkv.push (.mk z ks cv cvs clock V K hl.2.1))) hR
              refine ⟨_, _, G, ?_, S, W', .inr ⟨rfl, hd⟩⟩
              simp only [execOp, ho, hcm, hck, hcv, Instr.mapUpdate, Sem.run_bind, run_underlying ht, gm, Result.andThen_ok, Sem.run_pure, hck2, hfk, hes, sm]
            · cases hx
      · cases he
    · cases he
  · cases he
end
end Go.Abs

namespace Go.Abs
variable [Globs]
open Go

def AOp.isCall : AOp → Bool
  | .call .. | .inl .. | .callm .. | .callv .. | .inlv .. => true
  | _ => false

section
variable {P : Program} {Φ : Nat → Option FnF} {o : Oper} {a : Act} {G : Gh} {h : AH} {c : Nat} {w : World} {env : Env} {r : AV × AH × Nat}

theorem op_ok (W : WRel G h c w) (E : EnvRel G h c w env a) {ao} (hf : opFit P o.dst o.op ao = true) (hc : ao.isCall = false) (he : evOp Φ env h c ao = some r) : OpOK P o a G h c w r := by
  generalize hop : o.op = op at hf
  unfold opFit at hf
  split at hf
  all_goals try (simp only [AOp.isCall] at hc; cases hc; done)
  all_goals try (cases hf; done)
  case h_1 => exact ok_mov W E (.inl hop) hf he
  case h_2 => exact ok_mov W E (.inr hop) hf he
  case h_3 => exact ok_frz W E (.inl hop) hf he
  case h_4 => exact ok_frz W E (.inr hop) hf he
  case h_5 => simp only [Bool.and_eq_true] at hf; exact ok_pick W E hop hf.1.1 hf.1.2 hf.2 he
  case h_6 => exact ok_alloc W hop hf he
  case h_7 => simp only [Bool.and_eq_true] at hf; exact ok_box W E hop hf.1 he
  case h_8 => exact ok_build W E hop hf he
  case h_9 =>
    split at hf
    · next e ht =>
      simp only [Bool.and_eq_true, beq_iff_eq, decide_eq_true_eq] at hf
      obtain ⟨⟨⟨⟨⟨⟨⟨rfl, h1⟩, h2⟩, h3⟩, h4⟩, h5⟩, h6⟩, h7⟩ := hf
      exact ok_bslice W E hop ht h1 h2 h3 h4 h5 h6 h7 he
    · cases hf
  case h_10 => simp only [Bool.and_eq_true, Bool.not_eq_true', beq_eq_false_iff_ne] at hf; exact ok_load W E hop hf.1.1 hf.1.2 hf.2 he
  case h_11 => simp only [Bool.and_eq_true, Option.isNone_iff_eq_none, decide_eq_true_eq] at hf; exact ok_store W E hop hf.2 hf.1.1.1.1 hf.1.1.2 hf.1.2 he
  case h_12 => exact ok_nilck W E hop hf he
  case h_13 =>
    simp only [Bool.and_eq_true, decide_eq_true_eq] at hf
    obtain ⟨⟨⟨rfl, h1⟩, h2⟩, h3⟩ := hf
    exact ok_bin W E hop h1 h2 h3 he
  case h_14 => simp only [Bool.and_eq_true] at hf; exact ok_isnil (neg := false) W E hop hf.1 hf.2 he
  case h_15 => simp only [Bool.and_eq_true] at hf; exact ok_isnil (neg := true) W E hop hf.1 hf.2 he
  case h_16 => simp only [Bool.and_eq_true, beq_iff_eq, Bool.not_eq_true'] at hf; exact ok_eqa (neg := false) W E hop hf.1.1.1.1 hf.1.1.1.2 hf.1.1.2 hf.1.2 hf.2 he
  case h_17 => simp only [Bool.and_eq_true, beq_iff_eq, Bool.not_eq_true'] at hf; exact ok_eqa (neg := true) W E hop hf.1.1.1.1 hf.1.1.1.2 hf.1.1.2 hf.1.2 hf.2 he
  case h_18 => simp only [Bool.and_eq_true] at hf; exact ok_eqb (neg := false) W E hop hf.1.1 hf.1.2 hf.2 he
  case h_19 => simp only [Bool.and_eq_true] at hf; exact ok_eqb (neg := true) W E hop hf.1.1 hf.1.2 hf.2 he
  case h_20 =>
    simp only [Bool.and_eq_true, decide_eq_true_eq] at hf
    obtain ⟨rfl, h1⟩ := hf
    exact ok_un W E hop h1 he
  case h_21 => simp only [Bool.and_eq_true, beq_iff_eq] at hf; exact ok_conv W E hop hf.1.1 hf.1.2 hf.2 he
  case h_22 => simp only [Bool.and_eq_true] at hf; exact ok_sts W E hop hf.1.1 hf.1.2 hf.2 he
  case h_23 =>
    split at hf
    · next e ht => simp only [Bool.and_eq_true, beq_iff_eq] at hf; exact ok_idc W E hop ht hf.1.1 hf.1.2 hf.2 he
    · cases hf
  case h_24 =>
    split at hf
    · next e ht => simp only [Bool.and_eq_true, beq_iff_eq] at hf; exact ok_b2s W E hop ht hf.1.1 hf.1.2 hf.2 he
    · cases hf
  case h_25 =>
    split at hf
    · next e ht => simp only [Bool.and_eq_true, beq_iff_eq] at hf; exact ok_s2b W E hop hf.1.1.1 ht hf.1.1.2 hf.2 he
    · cases hf
  case h_26 =>
    split at hf
    · next e ht => simp only [Bool.and_eq_true, decide_eq_true_eq] at hf; exact ok_mks W E hop ht hf.1.1.1.1.1 hf.1.1.1.1.2 hf.1.1.1.2 hf.1.1.2 hf.1.2 hf.2 he
    · cases hf
  case h_27 =>
    simp only [Bool.and_eq_true, Option.isNone_iff_eq_none] at hf
    obtain ⟨⟨⟨⟨h1, h2⟩, h3⟩, h4⟩, rfl⟩ := hf
    exact ok_slcS W E hop h1 h2 h3 h4 he
  case h_28 t x lo hi mx sz y lo' hi' mx' =>
    simp only [Bool.and_eq_true] at hf
    obtain ⟨⟨⟨⟨h1, h2⟩, h3⟩, h4⟩, h5⟩ := hf
    split at h1
    · next e ht =>
      simp only [Bool.and_eq_true, decide_eq_true_eq] at h1
      cases mx with
      | none =>
        cases mx' with
        | none => exact ok_slc W E hop ht h1.1 h1.2 h2 h3 h4 he
        | some _ => simp [xoFit] at h5
      | some m =>
        cases mx' with
        | none => simp [xoFit] at h5
        | some _ => exact ok_cut00 W E hop ht h1.1 h2 h3 h4 h5 he
    · cases h1
  case h_29 =>
    simp only [Bool.and_eq_true, Option.isNone_iff_eq_none] at hf
    obtain ⟨⟨⟨⟨h1, h2⟩, h3⟩, h4⟩, rfl⟩ := hf
    split at h1
    · next k e hu => simp only [Bool.and_eq_true, beq_iff_eq] at h1; obtain ⟨rfl, h1⟩ := h1; exact ok_slca W E hop (.inl hu) h1 h2 h3 h4 he
    · next u hu =>
      split at h1
      · next k e hu' => simp only [Bool.and_eq_true, beq_iff_eq] at h1; obtain ⟨rfl, h1⟩ := h1; exact ok_slca W E hop (.inr ⟨_, hu, hu'⟩) h1 h2 h3 h4 he
      · cases h1
    · cases h1
  case h_30 =>
    simp only [Bool.and_eq_true] at hf
    obtain ⟨h1, h2⟩ := hf
    split at h1
    · next fs hu =>
      split at h1
      · next f hfd => simp only [Bool.and_eq_true, beq_iff_eq, Bool.not_eq_true'] at h1; exact ok_fad W E hop hu hfd h1.1.1 h1.1.2 h1.2 h2 he
      · cases h1
    · cases h1
  case h_31 =>
    simp only [Bool.and_eq_true] at hf
    obtain ⟨h1, h2⟩ := hf
    split at h1
    · next fs hu =>
      split at h1
      · next f hfd => simp only [Bool.and_eq_true, beq_iff_eq] at h1; exact ok_fld W E hop hu hfd h1.1 h1.2 h2 he
      · cases h1
    · cases h1
  case h_32 =>
    split at hf
    · next e ht => simp only [Bool.and_eq_true, decide_eq_true_eq] at hf; exact ok_iad W E hop ht hf.1.1.1 hf.1.2 hf.2 he
    · cases hf
  case h_33 =>
    simp only [Bool.and_eq_true] at hf
    obtain ⟨⟨h1, h2⟩, h3⟩ := hf
    split at h1
    · next k e hu => simp only [Bool.and_eq_true, beq_iff_eq] at h1; obtain ⟨⟨rfl, h1⟩, _⟩ := h1; exact ok_iada W E hop hu h1 h2 h3 he
    · cases h1
  case h_34 =>
    simp only [Bool.and_eq_true] at hf
    obtain ⟨⟨h1, h2⟩, h3⟩ := hf
    split at h1
    · next k e hu => simp only [Bool.and_eq_true, beq_iff_eq] at h1; obtain ⟨⟨rfl, h1⟩, h1'⟩ := h1; exact ok_idx W E hop hu h1 h1' h2 h3 he
    · cases h1
  case h_35 => simp only [Bool.and_eq_true] at hf; exact ok_idxs W E hop hf.1.1 hf.1.2 hf.2 he
  case h_36 =>
    simp only [Bool.and_eq_true, beq_iff_eq] at hf
    obtain ⟨rfl, h1⟩ := hf
    exact ok_ext W E hop h1 he
  case h_37 f first cap f' cap' =>
    simp only [Bool.and_eq_true, beq_iff_eq, Array.isEmpty_iff] at hf
    obtain ⟨⟨rfl, rfl⟩, h1⟩ := hf
    exact ok_mkf W E hop rfl h1 he
  case h_38 f first cap f' fst' =>
    simp only [Bool.and_eq_true, beq_iff_eq, Array.isEmpty_iff] at hf
    obtain ⟨⟨rfl, rfl⟩, h1⟩ := hf
    exact ok_mkb W E hop rfl h1 he
  case h_39 =>
    split at hf
    · next x t h1 h2 =>
      simp only [Bool.and_eq_true] at hf
      obtain ⟨e, he'⟩ := Option.isSome_iff_exists.1 hf.1
      exact ok_len W E hop h1 h2 he' hf.2 he
    · cases hf
  case h_40 =>
    split at hf
    · next x t h1 h2 => simp only [Bool.and_eq_true] at hf; exact ok_lenS W E hop h1 h2 hf.1 hf.2 he
    · cases hf
  case h_41 =>
    split at hf
    · next x t h1 h2 =>
      split at hf
      · next k e hu => simp only [beq_iff_eq] at hf; subst hf; exact ok_lenc W E hop h1 h2 (.inl ⟨_, hu⟩) he
      · next u hu =>
        split at hf
        · next k e hu' => simp only [beq_iff_eq] at hf; subst hf; exact ok_lenc W E hop h1 h2 (.inr ⟨_, _, hu, hu'⟩) he
        · cases hf
      · cases hf
    · cases hf
  case h_42 =>
    split at hf
    · next s' x' t u h1 h2 =>
      split at hf
      · next e ht =>
        simp only [Bool.and_eq_true, decide_eq_true_eq, Bool.or_eq_true] at hf
        obtain ⟨⟨⟨⟨⟨⟨⟨g1, g2⟩, g3⟩, g4⟩, g5⟩, g6⟩, g7⟩, g8⟩ := hf
        exact ok_app W E hop h1 h2 ht g1 g2 g3 g5 g4 g6 g7 g8 he
      · cases hf
    · cases hf
  case h_43 =>
    split at hf
    · next s' x' t u h1 h2 =>
      split at hf
      · next e ht =>
        simp only [Bool.and_eq_true, decide_eq_true_eq] at hf
        exact ok_cpy W E hop h1 h2 ht hf.1.1.1 hf.1.1.2 hf.1.2 hf.2 he
      · cases hf
    · cases hf
  case h_48 f args ats f' s c =>
    simp only [Bool.and_eq_true, beq_iff_eq] at hf
    obtain ⟨⟨rfl, h1⟩, h2⟩ := hf
    split at h1
    · next fn hfn =>
      simp only [Bool.and_eq_true, beq_iff_eq] at h1
      split at h2
      · next a b ha =>
        simp only [Bool.and_eq_true] at h2
        exact ok_xib W E hop hfn h1.1.1 h1.1.2 h1.2 ha h2.1 h2.2 he
      · cases h2
    · cases h1
  case h_49 => simp only [Bool.and_eq_true] at hf; exact ok_mm W E hop (.inl ⟨rfl, hf.1⟩) hf.2 he
  case h_50 => simp only [Bool.and_eq_true, Bool.not_eq_true'] at hf; exact ok_mm W E hop (.inr ⟨rfl, hf.1⟩) hf.2 he
  case h_51 =>
    split at hf
    · next e ht =>
      simp only [Bool.and_eq_true, beq_iff_eq, Array.isEmpty_iff] at hf
      obtain ⟨⟨rfl, rfl⟩, hs⟩ := hf
      exact ok_bemp W hop ht hs he
    · cases hf
  case h_52 => exact ok_mkm W hop he
  case h_53 =>
    simp only [Bool.and_eq_true, Option.isNone_iff_eq_none] at hf
    obtain ⟨⟨⟨⟨h1, h2⟩, h3⟩, h4⟩, h5⟩ := hf
    split at h1
    · next kt et ht => exact ok_mset W E hop h5 ht h1 h2 h3 h4 he
    · cases h1
  case h_54 =>
    simp only [Bool.and_eq_true] at hf
    obtain ⟨⟨h1, h2⟩, h3⟩ := hf
    split at h1
    · next kt et ht =>
      simp only [Bool.and_eq_true] at h1
      exact ok_mget W E hop ht h1.1 h1.2 h2 h3 he
    · cases h1
  case h_55 =>
    split at hf
    · next e ht =>
      simp only [Bool.and_eq_true, beq_iff_eq, decide_eq_true_eq] at hf
      obtain ⟨⟨⟨⟨⟨rfl, h1⟩, h2⟩, h3⟩, h4⟩, h5⟩ := hf
      exact ok_bslv W E hop ht h1 h2 h3 h4 h5 he
    · cases hf
end
end Go.Abs

namespace Go.Abs
variable [Globs]
open Go

theorem AV.bare_of_plain {v : AV} (h : v.plain = true) : v.bare = true := by
  cases v <;> first | rfl | (simp [AV.plain] at h; done)

/-- what a bare value says hangs on memory that nobody writes alone -/
theorem VRel.ofBare {G G' h h' c c'} {w w' : World} (r0 : ∀ b, G.R0 b → G'.R0 b ∧ w'.heap[b]? = w.heap[b]?) (r1 : ∀ b, G.R1 b → G'.R1 b ∧ w'.heap[b]? = w.heap[b]?) {v cv} (H : VRel G h c w v cv) (hp : v.bare = true) : VRel G' h' c' w' v cv := by
  cases H with
  | int k n => exact .int k n
  | bool b => exact .bool b
  | str s => exact .str s
  | nilS => exact .nilS
  | emp a => exact .emp a
  | nilP => exact .nilP
  | nilF => exact .nilF
  | nilM => exact .nilM
  | nilI => exact .nilI
  | ifc t v => exact .ifc t v
  | ro t sz rows a cap cv hc hr hpl hcell hv =>
    have hR : ∀ b, G.R t b → G'.R t b ∧ w'.heap[b]? = w.heap[b]? := by
      intro b hb
      cases t with
      | false => exact r0 b hb
      | true => exact hb.elim (fun x => ⟨.inl (r0 b x).1, (r0 b x).2⟩) (fun x => ⟨.inr (r1 b x).1, (r1 b x).2⟩)
    refine .ro t sz rows a cap cv hc (fun hne => ⟨(hR _ (hr hne).1).1, (hr hne).2⟩) hpl (fun i j row v h1 h2 => ?_) (fun i j row v h1 h2 => (hv i j row v h1 h2).ofPlain r0 ?_)
    · have hne : rows ≠ [] := by intro e; subst e; simp at h1
      exact (cell?_of_heap (a := ⟨a.block, _, none⟩) (hR _ (hr hne).1).2).trans (hcell i j row v h1 h2)
    · have := (hpl row (List.mem_of_getElem? h1)).2
      rw [List.all_eq_true] at this
      exact this v (List.mem_of_getElem? h2)
  | own => simp [AV.bare] at hp
  | vsl => simp [AV.bare] at hp
  | ptr => simp [AV.bare] at hp
  | eptr => simp [AV.bare] at hp
  | rptr => simp [AV.bare] at hp
  | agg => simp [AV.bare] at hp
  | tup => simp [AV.bare] at hp
  | fn f cs vs cv hn hi hv =>
    cases cs with
    | nil =>
      have : vs = [] := by simpa using hn
      subst this
      exact .fn_mk .nil
    | cons => simp [AV.bare] at hp
  | bm => simp [AV.bare] at hp
  | opq => simp [AV.bare] at hp
  | yld => simp [AV.bare] at hp
  | mp => simp [AV.bare] at hp

/-- a new slice, a cell of a struct -/
inductive FCell (G : Gh) (w : World) : AV → Value → List Nat → Prop
  | bare (v cv) (hb : v.bare = true) (H : VRel G [] 0 w v cv) : FCell G w v cv []
  | fr (sz rows b base a cap vs elem lo hi) (hb : w.heap[b]? = some (.cells ⟨vs⟩ elem (lo, hi))) (hf : UnfzS sz vs.length lo hi) (hz : 0 < sz)
      (hc : rows.length ≤ cap) (ha : cap = 0 ∨ a = ⟨b, base, none⟩) (ht : base + cap * sz ≤ vs.length) (hp : ∀ row ∈ rows, row.length = sz ∧ row.all AV.plain = true)
      (hcell : ∀ (i j : Nat) row v, rows[i]? = some row → row[j]? = some v → ∃ v', vs[base + (i * sz + j)]? = some v' ∧ VRel G [] 0 w v v') :
      FCell G w (.fr sz rows) (.slice (some a) rows.length cap) [b]

inductive FCells (G : Gh) (w : World) : List AV → List Value → List Nat → Prop
  | nil : FCells G w [] [] []
  | cons {v cv fp vs cvs fps} (h : FCell G w v cv fp) (t : FCells G w vs cvs fps) : FCells G w (v :: vs) (cv :: cvs) (fp ++ fps)

/-- what goes over the border: a cell, a struct, what lies behind a pointer -/
inductive FVal (G : Gh) (w : World) : AV → Value → List Nat → Prop
  | cell {v cv fp} (h : FCell G w v cv fp) : FVal G w v cv fp
  | agg {cs vs fp} (h : FCells G w cs vs fp) : FVal G w (.agg cs) (.agg ⟨vs⟩) fp
  | pv {cs vs fp} (b elem lo hi) (hb : w.heap[b]? = some (.cells ⟨vs⟩ elem (lo, hi))) (hf : Unfz vs.length lo hi) (h : FCells G w cs vs fp) : FVal G w (.pv cs) (.pointer (some ⟨b, 0, none⟩)) (b :: fp)

inductive FVals (G : Gh) (w : World) : List AV → List Value → List Nat → Prop
  | nil : FVals G w [] [] []
  | cons {v cv fp vs cvs fps} (h : FVal G w v cv fp) (t : FVals G w vs cvs fps) : FVals G w (v :: vs) (cv :: cvs) (fp ++ fps)

inductive FRes (G : Gh) (w : World) : AV → Value → List Nat → Prop
  | val {v cv fp} (h : FVal G w v cv fp) : FRes G w v cv fp
  | tup {vs cvs fp} (h : FVals G w vs cvs fp) : FRes G w (.tup vs) (.tuple ⟨cvs⟩) fp

/-- what now lies behind the pointers among the arguments -/
inductive FPvs (G : Gh) (w : World) : List AV → List Value → List (List AV) → List Nat → Prop
  | nil : FPvs G w [] [] [] []
  | skip {v cv vs cvs ps fp} (hv : ∀ cs, v ≠ .pv cs) (t : FPvs G w vs cvs ps fp) : FPvs G w (v :: vs) (cv :: cvs) ps fp
  | pv {cs cv vs cvs cs' fp1 ps fp} (hl : cs'.length = cs.length) (h : FVal G w (.pv cs') cv fp1) (t : FPvs G w vs cvs ps fp) : FPvs G w (.pv cs :: vs) (cv :: cvs) (cs' :: ps) (fp1 ++ fp)

/-- the border's ghost: only what nobody writes -/
def Gh.only (R0 R1 : Nat → Prop) : Gh := { blk := fun _ => 0, base := fun _ => 0, sz := fun _ => 0, ln := fun _ => 0, tot := fun _ => 0, R0, R1, opq := fun _ => undef, lp := fun _ => ⟨.ready, none, 0, #[], #[], .skip, .skip, 0⟩ }

theorem FCell.up {R0 R1 w v cv fp} (hc : FCell (Gh.only R0 fun _ => False) w v cv fp) : FCell (Gh.only R0 R1) w v cv fp := by
  cases hc with
  | bare v cv hb H =>
    refine .bare _ _ hb ?_
    refine VRel.ofBare (G := Gh.only R0 fun _ => False) ?_ ?_ H hb
    · exact fun b hb => ⟨hb, rfl⟩
    · exact fun b hb => hb.elim
  | fr sz rows b base a cap vs elem lo hi hb hf hz hc ha ht hp hcell =>
    refine .fr sz rows b base a cap vs elem lo hi hb hf hz hc ha ht hp (fun i j row v x1 x2 => ?_)
    obtain ⟨v', y1, y2⟩ := hcell i j row v x1 x2
    have hpl : v.plain = true := by
      have := (hp row (List.mem_of_getElem? x1)).2
      rw [List.all_eq_true] at this
      exact this v (List.mem_of_getElem? x2)
    refine ⟨v', y1, ?_⟩
    refine VRel.ofPlain (G := Gh.only R0 fun _ => False) ?_ y2 hpl
    exact fun b hb => ⟨hb, rfl⟩
theorem FCells.up {R0 R1 w vs cvs fp} (hc : FCells (Gh.only R0 fun _ => False) w vs cvs fp) : FCells (Gh.only R0 R1) w vs cvs fp := by
  induction hc with
  | nil => exact .nil
  | cons h t ih => exact .cons h.up ih
theorem FVal.up {R0 R1 w v cv fp} (hc : FVal (Gh.only R0 fun _ => False) w v cv fp) : FVal (Gh.only R0 R1) w v cv fp := by
  cases hc with
  | cell h => exact .cell h.up
  | agg h => exact .agg h.up
  | pv b elem lo hi hb hf h => exact .pv b elem lo hi hb hf h.up
theorem FVals.up {R0 R1 w vs cvs fp} (hc : FVals (Gh.only R0 fun _ => False) w vs cvs fp) : FVals (Gh.only R0 R1) w vs cvs fp := by
  induction hc with
  | nil => exact .nil
  | cons h t ih => exact .cons h.up ih
theorem FRes.up {R0 R1 w v cv fp} (hc : FRes (Gh.only R0 fun _ => False) w v cv fp) : FRes (Gh.only R0 R1) w v cv fp := by
  cases hc with
  | val h => exact .val h.up
  | tup h => exact .tup h.up

/-- F says what the Go function f does. -/
def Refines (P : Program) (f : Nat) (F : CallF) : Prop :=
  ∀ bs r ps, F bs = some (r, ps) → ∀ (R0 R1 : Nat → Prop) (w : World) (cargs : List Value) (fp : List Nat),
    GlobOK R0 w → FVals (Gh.only R0 R1) w bs cargs fp → fp.Nodup → (∀ b ∈ fp, ¬ R0 b ∧ ¬ R1 b) → (∀ b, R0 b ∨ R1 b → b < w.heap.size) →
    Calls P f ⟨cargs⟩ w fun e w' => ∃ cv R0' fpr fpp, e = .returned cv ∧ w.heap.size ≤ w'.heap.size ∧ w'.os = w.os ∧ w'.tape = w.tape ∧ w'.output = w.output ∧
      (∀ b, b < w.heap.size → b ∉ fp → w'.heap[b]? = w.heap[b]?) ∧ (∀ b, R0 b → R0' b) ∧ (∀ b, R0' b → (R0 b ∨ b ∈ fp ∨ w.heap.size ≤ b) ∧ b < w'.heap.size) ∧
      FRes (Gh.only R0' fun _ => False) w' r cv fpr ∧ FPvs (Gh.only R0' fun _ => False) w' bs cargs ps fpp ∧ (fpr ++ fpp).Nodup ∧ (∀ b ∈ fpr ++ fpp, (b ∈ fp ∨ w.heap.size ≤ b) ∧ ¬ R0' b)

end Go.Abs

namespace Go.Abs
variable [Globs]
open Go

section
variable {w : World}

/-- a block is owned, and not gone to a callee -/
def owned (G : Gh) (h : AH) (b : Nat) : Prop := ∃ nm g, liveN h nm g ∧ G.blk g = b

theorem WRel.lt {G h c} (W : WRel G h c w) {b} (hb : owned G h b) : b < w.heap.size := by
  obtain ⟨nm, g, ⟨bl, x, _⟩, rfl⟩ := hb
  exact (W.blk _ _ _ x).lt

/-- one more block is the call's own, the world stays -/
theorem adopt {G h c nm bk b base sz ln tot} (W : WRel G h c w) (hno : ¬ owned G h b) (_hlt : b < w.heap.size)
    (hnew : Later G (G.new c b base sz ln tot) h (h.put nm c bk) c (c + 1) w w → BRel (G.new c b base sz ln tot) (h.put nm c bk) (c + 1) w c bk) :
    Later G (G.new c b base sz ln tot) h (h.put nm c bk) c (c + 1) w w ∧ WRel (G.new c b base sz ln tot) (h.put nm c bk) (c + 1) w := by
  have L : Later G (G.new c b base sz ln tot) h (h.put nm c bk) c (c + 1) w w :=
    { gh := fun g hg => by
        have : g ≠ c := by omega
        simp [Gh.new, this]
      r0 := fun _ x => x
      r1 := fun _ x => x
      opq := rfl
      cc := by omega
      lv := fun nm' g' hg x => by
        rcases live_put.1 x with ⟨_, rfl⟩ | ⟨_, x⟩
        · omega
        · exact x
      rw := fun _ _ => rfl }
  refine ⟨L, W.put L (Nat.le_refl _) (fun nm2 g2 hn hl2 => ⟨rfl, fun _ => ?_, id⟩) (by omega) (hnew L) W.old⟩
  simp only [Gh.new, if_true]
  exact fun e => hno ⟨nm2, g2, hl2, e.symm⟩

/-- what a step of taking in leaves -/
structure InOK (G G' : Gh) (h h' : AH) (c c' : Nat) (w : World) (fp : List Nat) : Prop where
  later : Later G G' h h' c c' w w
  wrel : WRel G' h' c' w
  own : ∀ b, owned G' h' b → owned G h b ∨ b ∈ fp
  r0 : G'.R0 = G.R0
  r1 : G'.R1 = G.R1

theorem InOK.refl {G h c} (W : WRel G h c w) : InOK G G h h c c w [] :=
  ⟨(Stp.refl G h c w).toLater, W, fun _ x => .inl x, rfl, rfl⟩
theorem InOK.trans {G1 G2 G3 h1 h2 h3 c1 c2 c3 f1 f2} (A : InOK G1 G2 h1 h2 c1 c2 w f1) (B : InOK G2 G3 h2 h3 c2 c3 w f2) : InOK G1 G3 h1 h3 c1 c3 w (f1 ++ f2) :=
  ⟨A.later.trans B.later, B.wrel, fun b x => (B.own b x).elim (fun y => (A.own b y).imp id (fun z => List.mem_append_left _ z)) (fun z => .inr (List.mem_append_right _ z)), B.r0.trans A.r0, B.r1.trans A.r1⟩

theorem owned_new {G h c nm bk b base sz ln tot} (W : WRel G h c w) {x} (hx : owned (G.new c b base sz ln tot) (h.put nm c bk) x) : owned G h x ∨ x ∈ [b] := by
  obtain ⟨n, g, hl, rfl⟩ := hx
  rcases liveN_put hl with ⟨_, rfl⟩ | ⟨_, hl⟩
  · right; simp [Gh.new]
  · left
    have hg' : g < c := by obtain ⟨b, y, _⟩ := hl; exact W.gen _ _ _ y
    exact ⟨n, g, hl, by simp [Gh.new, show g ≠ c by omega]⟩

theorem inCell_ok {G h c nm v cv fp v' h' c'} (W : WRel G h c w) (F : FCell (Gh.only G.R0 G.R1) w v cv fp) (hd : ∀ b ∈ fp, ¬ owned G h b ∧ ¬ G.R true b) (he : inCell h c nm v = some (v', h', c')) :
    ∃ G', InOK G G' h h' c c' w fp ∧ VRel G' h' c' w v' cv := by
  unfold inCell at he
  split at he
  · next sz rows =>
    simp only [Option.some.injEq, Prod.mk.injEq] at he
    obtain ⟨rfl, rfl, rfl⟩ := he
    cases F with
    | bare _ _ hb => simp [AV.bare] at hb
    | fr _ _ b base ad cap vs elem lo hi hb hf hz hc ha ht hp hcell =>
      obtain ⟨h1, h2⟩ := hd b (by simp)
      have hlt : b < w.heap.size := (Array.getElem?_eq_some_iff.1 hb).1
      obtain ⟨L, W'⟩ := adopt (nm := nm) (bk := .arr sz rows false) (base := base) (sz := sz) (ln := rows.length) (tot := vs.length) W h1 hlt (fun L => by
        refine .arr sz rows false vs elem lo hi (by simp [Gh.new]) (by simp [Gh.new, hb]) hf (by simp [Gh.new]) (by simp [Gh.new]) (by simpa [Gh.new] using hz) ?_ ?_ (by simpa [Gh.new] using hp) ?_
        · simp only [Gh.new, if_true]
          exact Nat.le_trans (Nat.add_le_add_left (Nat.mul_le_mul_right _ hc) _) ht
        · simp only [Bool.false_eq_true, if_false]; rw [Gh.new_R]; simpa [Gh.new] using h2
        · intro i j row v x1 x2
          simp only [Gh.new, if_true]
          obtain ⟨v', y1, y2⟩ := hcell i j row v x1 x2
          have hpl : v.plain = true := by
            have := (hp row (List.mem_of_getElem? x1)).2
            rw [List.all_eq_true] at this
            exact this v (List.mem_of_getElem? x2)
          refine ⟨v', y1, ?_⟩
          refine VRel.ofPlain (G := Gh.only G.R0 G.R1) ?_ y2 hpl
          exact fun b hb => ⟨hb, rfl⟩)
      refine ⟨_, ⟨L, W', fun x hx => owned_new W hx, rfl, rfl⟩, ?_⟩
      refine .own _ _ _ _ _ _ hc (by omega) (fun _ => ?_)
      simp only [Gh.new, if_true, Nat.zero_mul, Nat.add_zero, Nat.zero_add]
      exact ⟨ha, hc, ht⟩
  · next hn =>
    split at he
    · next hb =>
      simp only [Option.some.injEq, Prod.mk.injEq] at he
      obtain ⟨rfl, rfl, rfl⟩ := he
      cases F with
      | bare _ _ _ H =>
        refine ⟨G, InOK.refl W, ?_⟩
        refine VRel.ofBare (G := Gh.only G.R0 G.R1) ?_ ?_ H hb
        · exact fun b hb => ⟨hb, rfl⟩
        · exact fun b hb => ⟨hb, rfl⟩
      | fr => simp [AV.bare] at hb
    · cases he

theorem inCells_ok {w} : ∀ {vs cvs fp G h c nm vs' h' c'}, WRel G h c w → FCells (Gh.only G.R0 G.R1) w vs cvs fp → fp.Nodup → (∀ b ∈ fp, ¬ owned G h b ∧ ¬ G.R true b) → inCells h c nm vs = some (vs', h', c') →
    ∃ G', InOK G G' h h' c c' w fp ∧ LRel G' h' c' w vs' cvs
  | [], cvs, fp, G, h, c, nm, vs', h', c', W, F, _, hd, he => by
    simp only [inCells, Option.some.injEq, Prod.mk.injEq] at he
    obtain ⟨rfl, rfl, rfl⟩ := he
    cases F
    exact ⟨G, InOK.refl W, .nil⟩
  | v :: vs, cvs, fp, G, h, c, nm, vs', h', c', W, F, hnd, hd, he => by
    simp only [inCells, Option.bind_eq_some_iff, Option.map_eq_some_iff] at he
    obtain ⟨p, hp, q, hq, he⟩ := he
    simp only [Prod.mk.injEq] at he
    obtain ⟨rfl, rfl, rfl⟩ := he
    cases F with
    | @cons _ cv fp1 _ cvs' fps F1 F2 =>
      rw [List.nodup_append] at hnd
      obtain ⟨n1, n2, n3⟩ := hnd
      obtain ⟨G1, I1, R1⟩ := inCell_ok (v' := p.1) (h' := p.2.1) (c' := p.2.2) W F1 (fun b hb => hd b (List.mem_append_left _ hb)) hp
      have hd2 : ∀ b ∈ fps, ¬ owned G1 p.2.1 b ∧ ¬ G1.R true b := by
        intro b hb
        obtain ⟨x1, x2⟩ := hd b (List.mem_append_right _ hb)
        refine ⟨fun x => ?_, ?_⟩
        · rcases I1.own b x with y | y
          · exact x1 y
          · exact n3 b y b hb rfl
        · intro x; apply x2
          simpa [Gh.R, I1.r0, I1.r1] using x
      obtain ⟨G2, I2, L2⟩ := inCells_ok (vs' := q.1) (h' := q.2.1) (c' := q.2.2) I1.wrel (by rw [I1.r0, I1.r1]; exact F2) n2 hd2 hq
      exact ⟨G2, I1.trans I2, .cons (R1.later I2.later) L2⟩

theorem FCells.len {G w vs cvs fp} (F : FCells G w vs cvs fp) : cvs.length = vs.length := by
  induction F with
  | nil => rfl
  | cons h t ih => simp [ih]

theorem inCells_len : ∀ {vs h c nm vs' h' c'}, inCells h c nm vs = some (vs', h', c') → vs'.length = vs.length ∧ vs'.all AV.cellb = true
  | [], h, c, nm, vs', h', c', he => by
    simp only [inCells, Option.some.injEq, Prod.mk.injEq] at he
    obtain ⟨rfl, _, _⟩ := he
    exact ⟨rfl, rfl⟩
  | v :: vs, h, c, nm, vs', h', c', he => by
    simp only [inCells, Option.bind_eq_some_iff, Option.map_eq_some_iff] at he
    obtain ⟨p, hp, q, hq, he⟩ := he
    simp only [Prod.mk.injEq] at he
    obtain ⟨rfl, rfl, rfl⟩ := he
    obtain ⟨i1, i2⟩ := inCells_len (vs' := q.1) (h' := q.2.1) (c' := q.2.2) hq
    refine ⟨by simp [i1], ?_⟩
    simp only [List.all_cons, i2, Bool.and_true]
    unfold inCell at hp
    split at hp
    · obtain rfl := Option.some.inj hp; rfl
    · split at hp
      · next hb => obtain rfl := Option.some.inj hp; cases v <;> first | rfl | (simp [AV.bare] at hb; done)
      · cases hp

theorem inVal_ok {v cv fp G h c nm v' h' c'} (W : WRel G h c w) (F : FVal (Gh.only G.R0 G.R1) w v cv fp) (hnd : fp.Nodup) (hd : ∀ b ∈ fp, ¬ owned G h b ∧ ¬ G.R true b) (he : inVal h c nm v = some (v', h', c')) :
    ∃ G', InOK G G' h h' c c' w fp ∧ VRel G' h' c' w v' cv := by
  unfold inVal at he
  split at he
  · next cs =>
    simp only [Option.map_eq_some_iff] at he
    obtain ⟨q, hq, he⟩ := he
    simp only [Prod.mk.injEq] at he
    obtain ⟨rfl, rfl, rfl⟩ := he
    cases F with
    | cell h => cases h with | bare _ _ hb => simp [AV.bare] at hb
    | agg F =>
      obtain ⟨G', I, L⟩ := inCells_ok (vs' := q.1) (h' := q.2.1) (c' := q.2.2) W F hnd hd hq
      exact ⟨G', I, .agg_mk L⟩
  · next cs =>
    simp only [Option.map_eq_some_iff] at he
    obtain ⟨q, hq, he⟩ := he
    simp only [Prod.mk.injEq] at he
    obtain ⟨rfl, rfl, rfl⟩ := he
    cases F with
    | cell h => cases h with | bare _ _ hb => simp [AV.bare] at hb
    | @pv _ vs fp' b elem lo hi hb hf F =>
      rw [List.nodup_cons] at hnd
      obtain ⟨G1, I, L⟩ := inCells_ok (vs' := q.1) (h' := q.2.1) (c' := q.2.2) W F hnd.2 (fun b hb => hd b (List.mem_cons_of_mem _ hb)) hq
      obtain ⟨x1, x2⟩ := hd b (by simp)
      have hno : ¬ owned G1 q.2.1 b := fun x => by
        rcases I.own b x with y | y
        · exact x1 y
        · exact hnd.1 y
      have hlt : b < w.heap.size := (Array.getElem?_eq_some_iff.1 hb).1
      obtain ⟨hl1, hl2⟩ := inCells_len (vs' := q.1) (h' := q.2.1) (c' := q.2.2) hq
      obtain ⟨L', W'⟩ := adopt (nm := nm) (bk := .var q.1) (base := 0) (sz := 1) (ln := q.1.length) (tot := vs.length) I.wrel hno hlt (fun L' => by
        refine .var q.1 vs elem lo hi (by simp [Gh.new, hb]) hf (by simp [Gh.new]) (by simp [Gh.new]) ?_ hl2 (L.later L')
        rw [Gh.new_R]
        simp only [Gh.new, if_true]
        intro x; apply x2
        simpa [Gh.R, I.r0, I.r1] using x)
      refine ⟨_, ⟨I.later.trans L', W', fun x hx => ?_, I.r0, I.r1⟩, .ptr _ _ _ _ (by omega) (fun _ => by simp [Gh.new])⟩
      rcases owned_new I.wrel hx with y | y
      · exact (I.own x y).imp id (fun z => List.mem_cons_of_mem _ z)
      · right; simp at y; simp [y]
  · next hn1 hn2 =>
    cases F with
    | cell h => exact inCell_ok W h hd he
    | agg => exact absurd rfl (hn1 _)
    | pv => exact absurd rfl (hn2 _)

theorem inVals_ok {w} : ∀ {vs cvs fp G h c nm vs' h' c'}, WRel G h c w → FVals (Gh.only G.R0 G.R1) w vs cvs fp → fp.Nodup → (∀ b ∈ fp, ¬ owned G h b ∧ ¬ G.R true b) → inVals h c nm vs = some (vs', h', c') →
    ∃ G', InOK G G' h h' c c' w fp ∧ LRel G' h' c' w vs' cvs
  | [], cvs, fp, G, h, c, nm, vs', h', c', W, F, _, hd, he => by
    simp only [inVals, Option.some.injEq, Prod.mk.injEq] at he
    obtain ⟨rfl, rfl, rfl⟩ := he
    cases F
    exact ⟨G, InOK.refl W, .nil⟩
  | v :: vs, cvs, fp, G, h, c, nm, vs', h', c', W, F, hnd, hd, he => by
    simp only [inVals, Option.bind_eq_some_iff, Option.map_eq_some_iff] at he
    obtain ⟨p, hp, q, hq, he⟩ := he
    simp only [Prod.mk.injEq] at he
    obtain ⟨rfl, rfl, rfl⟩ := he
    cases F with
    | @cons _ cv fp1 _ cvs' fps F1 F2 =>
      rw [List.nodup_append] at hnd
      obtain ⟨n1, n2, n3⟩ := hnd
      obtain ⟨G1, I1, R1⟩ := inVal_ok (v' := p.1) (h' := p.2.1) (c' := p.2.2) W F1 n1 (fun b hb => hd b (List.mem_append_left _ hb)) hp
      have hd2 : ∀ b ∈ fps, ¬ owned G1 p.2.1 b ∧ ¬ G1.R true b := by
        intro b hb
        obtain ⟨x1, x2⟩ := hd b (List.mem_append_right _ hb)
        refine ⟨fun x => ?_, ?_⟩
        · rcases I1.own b x with y | y
          · exact x1 y
          · exact n3 b y b hb rfl
        · intro x; apply x2
          simpa [Gh.R, I1.r0, I1.r1] using x
      obtain ⟨G2, I2, L2⟩ := inVals_ok (vs' := q.1) (h' := q.2.1) (c' := q.2.2) I1.wrel (by rw [I1.r0, I1.r1]; exact F2) n2 hd2 hq
      exact ⟨G2, I1.trans I2, .cons (R1.later I2.later) L2⟩

theorem inRes_ok {v cv fp G h c nm v' h' c'} (W : WRel G h c w) (F : FRes (Gh.only G.R0 G.R1) w v cv fp) (hnd : fp.Nodup) (hd : ∀ b ∈ fp, ¬ owned G h b ∧ ¬ G.R true b) (he : inRes h c nm v = some (v', h', c')) :
    ∃ G', InOK G G' h h' c c' w fp ∧ VRel G' h' c' w v' cv := by
  unfold inRes at he
  split at he
  · next vs =>
    simp only [Option.map_eq_some_iff] at he
    obtain ⟨q, hq, he⟩ := he
    simp only [Prod.mk.injEq] at he
    obtain ⟨rfl, rfl, rfl⟩ := he
    cases F with
    | val h => cases h with | cell h => cases h with | bare _ _ hb => simp [AV.bare] at hb
    | tup F =>
      obtain ⟨G', I, L⟩ := inVals_ok (vs' := q.1) (h' := q.2.1) (c' := q.2.2) W F hnd hd hq
      exact ⟨G', I, .tup_mk L⟩
  · next hn =>
    cases F with
    | val h => exact inVal_ok W h hnd hd he
    | tup => exact absurd rfl (hn _)
end
end Go.Abs

namespace Go.Abs
variable [Globs]
open Go

section
variable {w : World} {G : Gh} {c : Nat}

/-- what a step of giving out leaves -/
structure OutOK (G : Gh) (h h' : AH) (c : Nat) (w : World) (fp : List Nat) : Prop where
  sub : ∀ nm g b, h'.get nm g = some b → h.get nm g = some b
  fpo : ∀ x ∈ fp, owned G h x ∧ ¬ owned G h' x ∧ ¬ G.R true x
  nodup : fp.Nodup

theorem owned_sub {h h' : AH} (hs : ∀ nm g b, h'.get nm g = some b → h.get nm g = some b) {x} (hx : owned G h' x) : owned G h x := by
  obtain ⟨nm, g, ⟨b, y, n⟩, e⟩ := hx
  exact ⟨nm, g, ⟨b, hs _ _ _ y, n⟩, e⟩

theorem OutOK.refl {h : AH} : OutOK G h h c w [] := ⟨fun _ _ _ x => x, by simp, List.nodup_nil⟩
theorem OutOK.trans {h1 h2 h3 f1 f2} (A : OutOK G h1 h2 c w f1) (B : OutOK G h2 h3 c w f2) : OutOK G h1 h3 c w (f1 ++ f2) where
  sub := fun nm g b x => A.sub _ _ _ (B.sub _ _ _ x)
  fpo := fun x hx => by
    rcases List.mem_append.1 hx with y | y
    · exact ⟨(A.fpo x y).1, fun z => (A.fpo x y).2.1 (owned_sub B.sub z), (A.fpo x y).2.2⟩
    · exact ⟨owned_sub A.sub (B.fpo x y).1, (B.fpo x y).2⟩
  nodup := by
    rw [List.nodup_append]
    refine ⟨A.nodup, B.nodup, fun x hx y hy e => ?_⟩
    subst e
    exact (A.fpo x hx).2.1 (B.fpo x hy).1

theorem sub_del {h : AH} {nm : Nat} : ∀ n g b, (h.del nm).get n g = some b → h.get n g = some b := by
  intro n g b x
  rw [get_del] at x
  split at x
  · cases x
  · exact x

theorem out_del {h : AH} {nm g b} (W : WRel G h c w) (hb : h.get nm g = some b) (hbg : b ≠ .gone) (hR : ¬ G.R true (G.blk g)) : OutOK G h (h.del nm) c w [G.blk g] where
  sub := sub_del
  fpo := fun x hx => by
    simp only [List.mem_singleton] at hx
    subst hx
    refine ⟨⟨nm, g, ⟨b, hb, hbg⟩, rfl⟩, fun ⟨n2, g2, ⟨b2, y, yn⟩, e⟩ => ?_, hR⟩
    rw [get_del] at y
    split at y
    · cases y
    · next hn =>
      rcases W.apart n2 g2 nm g ⟨_, y, yn⟩ ⟨_, hb, hbg⟩ with ⟨e1, _⟩ | e1
      · exact hn e1
      · exact e1 e
  nodup := by simp

theorem mvCell_ok {h : AH} {v cv b h'} (R1 : Nat → Prop) (W : WRel G h c w) (R : VRel G h c w v cv) (he : mvCell h v = some (b, h')) :
    ∃ fp, FCell (Gh.only G.R0 R1) w b cv fp ∧ OutOK G h h' c w fp := by
  unfold mvCell at he
  split at he
  · next nm g off len =>
    split at he
    · next sz rows hb =>
      split at he
      · next hle =>
        simp only [Option.some.injEq, Prod.mk.injEq] at he
        obtain ⟨rfl, rfl⟩ := he
        cases R with
        | own _ _ _ _ ad cap hc hg hl =>
          obtain ⟨ha, hk, ht⟩ := hl ⟨_, hb⟩
          cases W.blk _ _ _ hb with
          | arr _ _ _ us elem lo hi hsz hb1 hf htot hln hz hin hR hp hcs =>
            subst hsz
            have hR' : ¬ G.R true (G.blk g) := by simpa using hR
            refine ⟨[G.blk g], ?_, out_del W hb (by simp) hR'⟩
            have hlen : ((rows.drop off).take len).length = len := by simp; omega
            have := FCell.fr (G := Gh.only G.R0 R1) (w := w) (G.sz g) ((rows.drop off).take len) (G.blk g) (G.base g + off * G.sz g) ad cap us elem lo hi hb1 hf hz (by rw [hlen]; exact hc) ha
              (by rw [htot]; rw [Nat.add_mul] at ht; omega) (fun row hrow => hp row (List.mem_of_mem_drop (List.mem_of_mem_take hrow))) (fun i j row v x1 x2 => by
                obtain ⟨hi', x1'⟩ := take_drop_get _ _ _ _ _ x1
                obtain ⟨v', y1, y2⟩ := hcs (off + i) j row v x1' x2
                have hpl : v.plain = true := by
                  have := (hp row (List.mem_of_getElem? x1')).2
                  rw [List.all_eq_true] at this
                  exact this v (List.mem_of_getElem? x2)
                refine ⟨v', ?_, ?_⟩
                · rw [← y1]; congr 1; rw [Nat.add_mul]; omega
                · refine VRel.ofPlain (G := G) ?_ y2 hpl
                  exact fun b hb => ⟨hb, rfl⟩)
            rw [hlen] at this
            exact this
      · cases he
    · cases he
  · split at he
    · next hp =>
      simp only [Option.some.injEq, Prod.mk.injEq] at he
      obtain ⟨rfl, rfl⟩ := he
      refine ⟨[], .bare _ _ (AV.bare_of_plain hp) ?_, .refl⟩
      refine VRel.ofPlain (G := G) ?_ R hp
      exact fun b hb => ⟨hb, rfl⟩
    · cases he

theorem mvCells_ok (R1 : Nat → Prop) : ∀ {h : AH} {vs cvs bs h'}, WRel G h c w → LRel G h c w vs cvs → mvCells h vs = some (bs, h') →
    ∃ fp, FCells (Gh.only G.R0 R1) w bs cvs fp ∧ OutOK G h h' c w fp
  | h, [], cvs, bs, h', W, L, he => by
    simp only [mvCells, Option.some.injEq, Prod.mk.injEq] at he
    obtain ⟨rfl, rfl⟩ := he
    rw [L.nil_inv]
    exact ⟨[], .nil, .refl⟩
  | h, v :: vs, cvs, bs, h', W, L, he => by
    simp only [mvCells, Option.bind_eq_some_iff, Option.map_eq_some_iff] at he
    obtain ⟨p, hp, q, hq, he⟩ := he
    simp only [Prod.mk.injEq] at he
    obtain ⟨rfl, rfl⟩ := he
    obtain ⟨u, us, rfl, R, L'⟩ := L.cons_inv
    obtain ⟨f1, F1, O1⟩ := mvCell_ok (b := p.1) (h' := p.2) R1 W R hp
    obtain ⟨f2, F2, O2⟩ := mvCells_ok R1 (bs := q.1) (h' := q.2) (W.fewer O1.sub) (L'.later (Later.fewer O1.sub)) hq
    exact ⟨_, .cons F1 F2, O1.trans O2⟩

theorem mvVar_ok (R1 : Nat → Prop) {h : AH} {nm g cells bs h'} (W : WRel G h c w) (hb : h.get nm g = some (.var cells)) (he : mvCells (h.del nm) cells = some (bs, h')) :
    ∃ fp, FVal (Gh.only G.R0 R1) w (.pv bs) (.pointer (some ⟨G.blk g, 0, none⟩)) fp ∧ OutOK G h h' c w fp := by
  cases W.blk _ _ _ hb with
  | var _ us elem lo hi hb1 hf htot hln hR hcb hcs =>
    have O1 := out_del W hb (by simp) hR
    obtain ⟨f2, F2, O2⟩ := mvCells_ok R1 (W.fewer O1.sub) (hcs.later (Later.fewer O1.sub)) he
    exact ⟨_, .pv (G.blk g) elem lo hi hb1 hf F2, O1.trans O2⟩

theorem outVal_ok (R1 : Nat → Prop) {h : AH} {v cv b h'} (W : WRel G h c w) (R : VRel G h c w v cv) (he : outVal h v = some (b, h')) :
    ∃ fp, FVal (Gh.only G.R0 R1) w b cv fp ∧ OutOK G h h' c w fp := by
  unfold outVal at he
  split at he
  · simp only [Option.map_eq_some_iff] at he
    obtain ⟨q, hq, he⟩ := he
    simp only [Prod.mk.injEq] at he
    obtain ⟨rfl, rfl⟩ := he
    obtain ⟨vs, rfl, L⟩ := R.agg_inv
    obtain ⟨fp, F, O⟩ := mvCells_ok R1 (bs := q.1) (h' := q.2) W L hq
    exact ⟨fp, .agg F, O⟩
  · next nm g off =>
    split at he
    · next cells hb =>
      split at he
      · next h0 =>
        subst h0
        simp only [Option.map_eq_some_iff] at he
        obtain ⟨q, hq, he⟩ := he
        simp only [Prod.mk.injEq] at he
        obtain ⟨rfl, rfl⟩ := he
        cases R with
        | ptr _ _ _ ad hg hl =>
          have := hl ⟨_, hb⟩
          subst this
          exact mvVar_ok R1 W hb hq
      · cases he
    · cases he
  · obtain ⟨fp, F, O⟩ := mvCell_ok R1 W R he
    exact ⟨fp, .cell F, O⟩

theorem outVals_ok (R1 : Nat → Prop) : ∀ {h : AH} {vs cvs bs h'}, WRel G h c w → LRel G h c w vs cvs → outVals h vs = some (bs, h') →
    ∃ fp, FVals (Gh.only G.R0 R1) w bs cvs fp ∧ OutOK G h h' c w fp
  | h, [], cvs, bs, h', W, L, he => by
    simp only [outVals, Option.some.injEq, Prod.mk.injEq] at he
    obtain ⟨rfl, rfl⟩ := he
    rw [L.nil_inv]
    exact ⟨[], .nil, .refl⟩
  | h, v :: vs, cvs, bs, h', W, L, he => by
    simp only [outVals, Option.bind_eq_some_iff, Option.map_eq_some_iff] at he
    obtain ⟨p, hp, q, hq, he⟩ := he
    simp only [Prod.mk.injEq] at he
    obtain ⟨rfl, rfl⟩ := he
    obtain ⟨u, us, rfl, R, L'⟩ := L.cons_inv
    obtain ⟨f1, F1, O1⟩ := outVal_ok R1 (b := p.1) (h' := p.2) W R hp
    obtain ⟨f2, F2, O2⟩ := outVals_ok R1 (bs := q.1) (h' := q.2) (W.fewer O1.sub) (L'.later (Later.fewer O1.sub)) hq
    exact ⟨_, .cons F1 F2, O1.trans O2⟩

theorem outRes_ok (R1 : Nat → Prop) {h : AH} {v cv b h'} (W : WRel G h c w) (R : VRel G h c w v cv) (he : outRes h v = some (b, h')) :
    ∃ fp, FRes (Gh.only G.R0 R1) w b cv fp ∧ OutOK G h h' c w fp := by
  unfold outRes at he
  split at he
  · simp only [Option.map_eq_some_iff] at he
    obtain ⟨q, hq, he⟩ := he
    simp only [Prod.mk.injEq] at he
    obtain ⟨rfl, rfl⟩ := he
    obtain ⟨vs, rfl, L⟩ := R.tup_inv
    obtain ⟨fp, F, O⟩ := outVals_ok R1 (bs := q.1) (h' := q.2) W L hq
    exact ⟨fp, .tup F, O⟩
  · obtain ⟨fp, F, O⟩ := outVal_ok R1 W R he
    exact ⟨fp, .val F, O⟩

/- ---------------------------------------------------------------- arguments -/
/-- arguments from which the variables have gone -/
inductive MArgs (G : Gh) (h : AH) (c : Nat) (w : World) (R1 : Nat → Prop) : List AV → List Value → List (Nat × Nat × Nat) → List Nat → Prop
  | nil : MArgs G h c w R1 [] [] [] []
  | val {v cv vs cvs ms fp} (hn : ∀ cs, v ≠ .pv cs) (hv : VRel G h c w v cv) (t : MArgs G h c w R1 vs cvs ms fp) : MArgs G h c w R1 (v :: vs) (cv :: cvs) ms fp
  | pv {cs vs cvs nm g f1 ms fp} (hf : FVal (Gh.only G.R0 R1) w (.pv cs) (.pointer (some ⟨G.blk g, 0, none⟩)) f1) (hl : live h nm g) (hg : g < c) (hn : G.ln g = cs.length ∧ G.tot g = cs.length) (t : MArgs G h c w R1 vs cvs ms fp) : MArgs G h c w R1 (.pv cs :: vs) (.pointer (some ⟨G.blk g, 0, none⟩) :: cvs) ((nm, g, cs.length) :: ms) (f1 ++ fp)
  | fr {sz rows cv f1 vs cvs ms fp} (hf : FCell (Gh.only G.R0 R1) w (.fr sz rows) cv f1) (t : MArgs G h c w R1 vs cvs ms fp) : MArgs G h c w R1 (.fr sz rows :: vs) (cv :: cvs) ms (f1 ++ fp)

theorem mvCells_len : ∀ {h : AH} {vs bs h'}, mvCells h vs = some (bs, h') → bs.length = vs.length
  | h, [], bs, h', he => by
    simp only [mvCells, Option.some.injEq, Prod.mk.injEq] at he
    obtain ⟨rfl, rfl⟩ := he; rfl
  | h, v :: vs, bs, h', he => by
    simp only [mvCells, Option.bind_eq_some_iff, Option.map_eq_some_iff] at he
    obtain ⟨p, hp, q, hq, he⟩ := he
    simp only [Prod.mk.injEq] at he
    obtain ⟨rfl, rfl⟩ := he
    simp [mvCells_len (bs := q.1) (h' := q.2) hq]

/-- a variable's content goes to a callee -/
theorem put_gone {h : AH} {nm g cells} (W : WRel G h c w) (hb : h.get nm g = some (.var cells)) : WRel G (h.put nm g .gone) c w ∧ Later G G h (h.put nm g .gone) c c w w := by
  have L : Later G G h (h.put nm g .gone) c c w w := { (Stp.refl G h c w).toLater with
    lv := fun n2 g2 _ x => by
      rcases live_put.1 x with ⟨rfl, rfl⟩ | ⟨_, x⟩
      · exact ⟨_, hb⟩
      · exact x }
  refine ⟨W.put L (Nat.le_refl _) (fun nm2 g2 hn hl2 => ⟨rfl, fun e => absurd rfl e, id⟩) (W.gen _ _ _ hb) ?_ W.old, L⟩
  · cases W.blk _ _ _ hb with
    | var _ us elem lo hi hb1 hf htot hln hR hcb hcs => exact .gone (Array.getElem?_eq_some_iff.1 hb1).1

/-- what giving arguments out leaves: fewer, or gone -/
structure MvOK (G : Gh) (h h' : AH) (c : Nat) (w : World) (fp : List Nat) : Prop where
  later : Later G G h h' c c w w
  wrel : WRel G h' c w
  sub : ∀ nm g b, h'.get nm g = some b → b ≠ .gone → h.get nm g = some b
  fpo : ∀ x ∈ fp, owned G h x ∧ ¬ owned G h' x ∧ ¬ G.R true x
  nodup : fp.Nodup
theorem MvOK.subN {h h' fp} (A : MvOK G h h' c w fp) {x} (hx : owned G h' x) : owned G h x := by
  obtain ⟨nm, g, ⟨b, y, n⟩, e⟩ := hx
  exact ⟨nm, g, ⟨b, A.sub _ _ _ y n, n⟩, e⟩
theorem MvOK.trans {h1 h2 h3 f1 f2} (A : MvOK G h1 h2 c w f1) (B : MvOK G h2 h3 c w f2) : MvOK G h1 h3 c w (f1 ++ f2) where
  later := A.later.trans B.later
  wrel := B.wrel
  sub := fun nm g b x n => A.sub _ _ _ (B.sub _ _ _ x n) n
  fpo := fun x hx => by
    rcases List.mem_append.1 hx with y | y
    · exact ⟨(A.fpo x y).1, fun z => (A.fpo x y).2.1 (B.subN z), (A.fpo x y).2.2⟩
    · exact ⟨A.subN (B.fpo x y).1, (B.fpo x y).2⟩
  nodup := by
    rw [List.nodup_append]
    refine ⟨A.nodup, B.nodup, fun x hx y hy e => ?_⟩
    subst e
    exact (A.fpo x hx).2.1 (B.fpo x hy).1
theorem OutOK.mv {h h' fp} (W : WRel G h c w) (A : OutOK G h h' c w fp) : MvOK G h h' c w fp :=
  ⟨Later.fewer A.sub, W.fewer A.sub, fun nm g b x _ => A.sub _ _ _ x, A.fpo, A.nodup⟩
theorem MvOK.refl {h} (W : WRel G h c w) : MvOK G h h c w [] := OutOK.mv W .refl

theorem gone_ok {h : AH} {nm g cells} (W : WRel G h c w) (hb : h.get nm g = some (.var cells)) : MvOK G h (h.put nm g .gone) c w [G.blk g] := by
  obtain ⟨W', L⟩ := put_gone W hb
  refine ⟨L, W', fun n2 g2 b x n => ?_, fun x hx => ?_, by simp⟩
  · rw [get_put] at x
    split at x
    · split at x
      · obtain rfl := Option.some.inj x; exact absurd rfl n
      · cases x
    · exact x
  · simp only [List.mem_singleton] at hx
    subst hx
    refine ⟨⟨nm, g, ⟨_, hb, by simp⟩, rfl⟩, fun ⟨n2, g2, ⟨b2, y, nn⟩, e⟩ => ?_, ?_⟩
    · rw [get_put] at y
      split at y
      · split at y
        · obtain rfl := Option.some.inj y; exact nn rfl
        · cases y
      · next hn =>
        rcases W.apart n2 g2 nm g ⟨_, y, nn⟩ ⟨_, hb, by simp⟩ with ⟨e1, _⟩ | e1
        · exact hn e1
        · exact e1 e
    · cases W.blk _ _ _ hb with
      | var _ us elem lo hi hb1 hf htot hln hR hcb hcs => exact hR

theorem mvVarG_ok (R1 : Nat → Prop) {h : AH} {nm g cells bs h'} (W : WRel G h c w) (hb : h.get nm g = some (.var cells)) (he : mvCells (h.put nm g .gone) cells = some (bs, h')) :
    ∃ fp, FVal (Gh.only G.R0 R1) w (.pv bs) (.pointer (some ⟨G.blk g, 0, none⟩)) fp ∧ MvOK G h h' c w fp ∧ (G.ln g = cells.length ∧ G.tot g = cells.length) := by
  have M := gone_ok W hb
  cases W.blk _ _ _ hb with
  | var _ us elem lo hi hb1 hf htot hln hR hcb hcs =>
    obtain ⟨f2, F2, O2⟩ := mvCells_ok R1 M.wrel (hcs.later M.later) he
    exact ⟨_, .pv (G.blk g) elem lo hi hb1 hf F2, M.trans (O2.mv M.wrel), hln.symm, by rw [← htot]; exact hcs.1⟩

theorem mvArgs_ok (R1 : Nat → Prop) (h0 : AH) : ∀ {h : AH} {vs cvs vs1 h1 ms mv}, WRel G h c w → (∀ nm g b, h.get nm g = some b → b ≠ .gone → h0.get nm g = some b) → LRel G h0 c w vs cvs → mvArgs h vs mv = some (vs1, h1, ms) →
    ∃ fp, MArgs G h0 c w R1 vs1 cvs ms fp ∧ MvOK G h h1 c w fp
  | h, [], cvs, vs1, h1, ms, mv, W, hs, L, he => by
    simp only [mvArgs, Option.some.injEq, Prod.mk.injEq] at he
    obtain ⟨rfl, rfl, rfl⟩ := he
    rw [L.nil_inv]
    exact ⟨[], .nil, .refl W⟩
  | h, v :: vs, cvs, vs1, h1, ms, mv, W, hs, L, he => by
    obtain ⟨u, us, rfl, R, L'⟩ := L.cons_inv
    unfold mvArgs at he
    split at he
    · next e => cases e
    · next nm g off r mv e =>
      simp only [List.cons.injEq] at e
      obtain ⟨rfl, rfl⟩ := e
      split at he
      · next cells hb =>
        split at he
        · next h0' =>
          subst h0'
          simp only [Option.bind_eq_some_iff, Option.map_eq_some_iff] at he
          obtain ⟨p, hp, q, hq, he⟩ := he
          simp only [Prod.mk.injEq] at he
          obtain ⟨rfl, rfl, rfl⟩ := he
          obtain ⟨f1, F1, O1, hln⟩ := mvVarG_ok R1 (bs := p.1) (h' := p.2) W hb hp
          obtain ⟨f2, M2, O2⟩ := mvArgs_ok R1 h0 (vs1 := q.1) (h1 := q.2.1) (ms := q.2.2) O1.wrel (fun nm g b x n => hs _ _ _ (O1.sub _ _ _ x n) n) L' hq
          cases R with
          | ptr _ _ _ ad hg hl =>
            have := hl ⟨_, hs _ _ _ hb (by simp)⟩
            subst this
            have M := MArgs.pv F1 ⟨_, hs _ _ _ hb (by simp)⟩ hg (by rw [mvCells_len hp]; exact hln) M2
            rw [mvCells_len hp] at M
            exact ⟨_, M, O1.trans O2⟩
        · cases he
      · cases he
    · next nm g off len r mv e =>
      simp only [List.cons.injEq] at e
      obtain ⟨rfl, rfl⟩ := e
      simp only [Option.bind_eq_some_iff, Option.map_eq_some_iff] at he
      obtain ⟨p, hp, q, hq, he⟩ := he
      simp only [Prod.mk.injEq] at he
      obtain ⟨rfl, rfl, rfl⟩ := he
      have hp' := hp
      unfold mvCell at hp'
      simp only at hp'
      split at hp'
      · next sz rows hb =>
        split at hp'
        · next hle =>
          have hpe := (Option.some.inj hp').symm
          cases R with
          | own _ _ _ _ ad cap hc hg hl =>
            have R' : VRel G h c w (.own nm g off len) (.slice (some ad) len cap) := .own _ _ _ _ _ _ hc hg (fun _ => hl ⟨_, hs _ _ _ hb (by simp)⟩)
            obtain ⟨f1, F1, O1⟩ := mvCell_ok (b := p.1) (h' := p.2) R1 W R' hp
            have O1 := O1.mv W
            obtain ⟨f2, M2, O2⟩ := mvArgs_ok R1 h0 (vs1 := q.1) (h1 := q.2.1) (ms := q.2.2) O1.wrel (fun nm g b x n => hs _ _ _ (O1.sub _ _ _ x n) n) L' hq
            rw [hpe] at F1 ⊢
            exact ⟨_, .fr F1 M2, by rw [hpe] at O1 O2; exact O1.trans O2⟩
        · cases hp'
      · cases hp'
    · next mv v' r hn e hno =>
      simp only [List.cons.injEq] at e
      obtain ⟨rfl, rfl⟩ := e
      simp only [Option.map_eq_some_iff] at he
      obtain ⟨q, hq, he⟩ := he
      simp only [Prod.mk.injEq] at he
      obtain ⟨rfl, rfl, rfl⟩ := he
      obtain ⟨f2, M2, O2⟩ := mvArgs_ok R1 h0 (vs1 := q.1) (h1 := q.2.1) (ms := q.2.2) W hs L' hq
      exact ⟨_, .val (fun cs e => by subst e; cases R) R M2, O2⟩

/-- lent rows are not written as long as the call lasts -/
theorem lendCell_ok {h : AH} {v cv b} (W : WRel G h c w) (R : VRel G h c w v cv) (he : lendCell h v = some b) : FCell (Gh.only G.R0 fun x => G.R1 x ∨ owned G h x) w b cv [] := by
  have base : ∀ {v}, VRel G h c w v cv → v.bare = true → FCell (Gh.only G.R0 fun x => G.R1 x ∨ owned G h x) w v cv [] := by
    intro v R hb
    refine .bare _ _ hb ?_
    refine VRel.ofBare (G := G) ?_ ?_ R hb
    · exact fun b hb => ⟨hb, rfl⟩
    · exact fun b hb => ⟨.inl hb, rfl⟩
  unfold lendCell at he
  split at he
  · next nm g off len =>
    split at he
    · next sz rows fz hb =>
      split at he
      · next hle =>
        obtain rfl := Option.some.inj he
        have H := rowsOf_run (sz := sz) (rows := (rows.drop off).take len) W R (by simp [rowsOf, hb, hle])
        have hlen : ((rows.drop off).take len).length = len := by simp; omega
        cases R with
        | own _ _ _ _ ad cap hc hg hl =>
          obtain ⟨ha, hk, ht⟩ := hl ⟨_, hb⟩
          cases W.blk _ _ _ hb with
          | arr _ _ _ us elem lo hi hsz hb1 hf htot hln hz hin hR hp hcs =>
            subst hsz
            refine .bare _ _ rfl ?_
            have key : VRel (Gh.only G.R0 fun x => G.R1 x ∨ owned G h x) [] 0 w (.ro true (G.sz g) ((rows.drop off).take len)) (.slice (some ad) ((rows.drop off).take len).length cap) := by
              refine .ro true (G.sz g) _ ad cap (fun i j => (us[G.base g + ((off + i) * G.sz g + j)]?).getD undef) (by rw [hlen]; exact hc) (fun hne => ?_) H.hrow ?_ ?_
              · have hpos : 0 < len := by
                  rcases Nat.eq_zero_or_pos len with e | e
                  · subst e; simp at hne
                  · exact e
                rcases ha with ha | ha
                · omega
                · subst ha; exact ⟨.inr (.inr ⟨nm, g, ⟨_, hb, by simp⟩, rfl⟩), rfl, hz⟩
              · intro i j row v x1 x2
                obtain ⟨hi', x1'⟩ := take_drop_get _ _ _ _ _ x1
                obtain ⟨v', y1, y2⟩ := hcs (off + i) j row v x1' x2
                rcases ha with ha | ha
                · omega
                · subst ha
                  rw [cell?_blk (w := w) hb1]
                  have e : G.base g + off * G.sz g + (i * G.sz g + j) = G.base g + ((off + i) * G.sz g + j) := by rw [Nat.add_mul]; omega
                  show us[G.base g + off * G.sz g + (i * G.sz g + j)]? = _
                  rw [e, y1]; rfl
              · intro i j row v x1 x2
                obtain ⟨hi', x1'⟩ := take_drop_get _ _ _ _ _ x1
                obtain ⟨v', y1, y2⟩ := hcs (off + i) j row v x1' x2
                simp only [y1, Option.getD_some]
                have hpl : v.plain = true := by
                  have := (hp row (List.mem_of_getElem? x1')).2
                  rw [List.all_eq_true] at this
                  exact this v (List.mem_of_getElem? x2)
                refine VRel.ofPlain (G := G) ?_ y2 hpl
                exact fun b hb => ⟨hb, rfl⟩
            rw [hlen] at key
            exact key
      · cases he
    · cases he
  · next nm g off len =>
    split at he
    · next cells hb =>
      split at he
      · next hcond =>
        obtain ⟨hle, hpl⟩ := hcond
        obtain rfl := Option.some.inj he
        have H := rowsOf_run (sz := 1) (rows := ((cells.drop off).take len).map fun c => [c]) W R (by simp only [rowsOf, hb]; rw [if_pos ⟨trivial, hle, hpl⟩])
        have hlen : (((cells.drop off).take len).map fun c => [c]).length = len := by simp; omega
        have hget : ∀ (i j : Nat) row v, (((cells.drop off).take len).map fun c => [c])[i]? = some row → row[j]? = some v → i < len ∧ j = 0 ∧ cells[off + i]? = some v := by
          intro i j row v x1 x2
          rw [List.getElem?_map, Option.map_eq_some_iff] at x1
          obtain ⟨u, hu, rfl⟩ := x1
          obtain ⟨hi', hu'⟩ := take_drop_get _ _ _ _ _ hu
          cases j with
          | zero => simp at x2; subst x2; exact ⟨hi', rfl, hu'⟩
          | succ j => simp at x2
        cases R with
        | vsl _ _ _ _ ad cap hc hg hl =>
          obtain ⟨ha, hk⟩ := hl ⟨_, hb⟩
          cases W.blk _ _ _ hb with
          | var _ us elem lo hi hb1 hf htot hln hR hcb hcs =>
            refine .bare _ _ rfl ?_
            have key : VRel (Gh.only G.R0 fun x => G.R1 x ∨ owned G h x) [] 0 w (.ro true 1 (((cells.drop off).take len).map fun c => [c])) (.slice (some ad) (((cells.drop off).take len).map fun c => [c]).length cap) := by
              refine .ro true 1 _ ad cap (fun i j => (us[off + i]?).getD undef) (by rw [hlen]; exact hc) (fun hne => ?_) H.hrow ?_ ?_
              · have hpos : 0 < len := by
                  rcases Nat.eq_zero_or_pos len with e | e
                  · subst e; simp at hne
                  · exact e
                rcases ha with ha | ha
                · omega
                · subst ha; exact ⟨.inr (.inr ⟨nm, g, ⟨_, hb, by simp⟩, rfl⟩), rfl, by omega⟩
              · intro i j row v x1 x2
                obtain ⟨hi', rfl, hu⟩ := hget i j row v x1 x2
                obtain ⟨v', y1, y2⟩ := hcs.2 _ v hu
                rcases ha with ha | ha
                · omega
                · subst ha
                  rw [cell?_blk (w := w) hb1]
                  show us[off + (i * 1 + 0)]? = _
                  rw [show off + (i * 1 + 0) = off + i by omega, y1]; rfl
              · intro i j row v x1 x2
                obtain ⟨hi', rfl, hu⟩ := hget i j row v x1 x2
                obtain ⟨v', y1, y2⟩ := hcs.2 _ v hu
                simp only [y1, Option.getD_some]
                have hpl' : v.plain = true := by
                  have := (H.hrow row (List.mem_of_getElem? x1)).2
                  rw [List.all_eq_true] at this
                  exact this v (List.mem_of_getElem? x2)
                refine VRel.ofPlain (G := G) ?_ y2 hpl'
                exact fun b hb => ⟨hb, rfl⟩
            rw [hlen] at key
            exact key
      · cases he
    · cases he
  · split at he
    · next hb => obtain rfl := Option.some.inj he; exact base R hb
    · cases he

theorem lendCells_ok {h : AH} (W : WRel G h c w) : ∀ {vs cvs bs}, LRel G h c w vs cvs → lendCells h vs = some bs → FCells (Gh.only G.R0 fun x => G.R1 x ∨ owned G h x) w bs cvs []
  | [], cvs, bs, L, he => by
    simp only [lendCells, Option.some.injEq] at he
    subst he
    rw [L.nil_inv]; exact .nil
  | v :: vs, cvs, bs, L, he => by
    simp only [lendCells, Option.bind_eq_some_iff, Option.map_eq_some_iff] at he
    obtain ⟨p, hp, q, hq, rfl⟩ := he
    obtain ⟨u, us, rfl, R, L'⟩ := L.cons_inv
    exact .cons (fp := []) (fps := []) (lendCell_ok W R hp) (lendCells_ok W L' hq)

theorem lendArgs_ok {h h1 : AH} (W : WRel G h1 c w) (hs : Later G G h h1 c c w w) : ∀ {vs cvs ms fp bs}, MArgs G h c w (fun x => G.R1 x ∨ owned G h1 x) vs cvs ms fp → lendArgs h1 vs = some bs →
    FVals (Gh.only G.R0 fun x => G.R1 x ∨ owned G h1 x) w bs cvs fp
  | [], cvs, ms, fp, bs, M, he => by
    simp only [lendArgs, Option.some.injEq] at he
    subst he
    cases M; exact .nil
  | v :: vs, cvs, ms, fp, bs, M, he => by
    simp only [lendArgs, Option.bind_eq_some_iff, Option.map_eq_some_iff] at he
    obtain ⟨p, hp, q, hq, rfl⟩ := he
    cases M with
    | val hn hv t =>
      have hv1 := hv.later hs
      have ih := lendArgs_ok W hs t hq
      unfold lendArg at hp
      split at hp
      · simp only [Option.map_eq_some_iff] at hp
        obtain ⟨x, hx, rfl⟩ := hp
        obtain ⟨us, rfl, L⟩ := hv1.agg_inv
        exact .cons (fp := []) (.agg (lendCells_ok W L hx)) ih
      · exact absurd rfl (hn _)
      · cases hv1
      · exact .cons (fp := []) (.cell (lendCell_ok W hv1 hp)) ih
    | fr hf t =>
      have ih := lendArgs_ok W hs t hq
      simp only [lendArg, Option.some.injEq] at hp
      subst hp
      exact .cons (.cell hf) ih
    | pv hf hl hg hn t =>
      have ih := lendArgs_ok W hs t hq
      simp only [lendArg, Option.some.injEq] at hp
      subst hp
      exact .cons hf ih
end
end Go.Abs

namespace Go.Abs
variable [Globs]
open Go

section
variable {P : Program} {Φ : Nat → Option FnF} {G : Gh} {h : AH} {c : Nat} {w : World}

theorem inPvs_ok {w' : World} {G0 : Gh} {h0 : AH} {c0 : Nat} {w0 : World} {Rx : Nat → Prop} : ∀ {vs1 cvs ms fp0 bs ps fpp G h c h2 c2}, MArgs G0 h0 c0 w0 Rx vs1 cvs ms fp0 → FPvs (Gh.only G.R0 fun _ => False) w' bs cvs ps fpp → (∀ (i : Nat) cs, vs1[i]? = some (.pv cs) → bs[i]? = some (.pv cs)) → vs1.length = bs.length → (∀ (i : Nat) cs, bs[i]? = some (.pv cs) → vs1[i]? = some (.pv cs)) →
    WRel G h c w' → (∀ g, g < c0 → G.blk g = G0.blk g ∧ G.ln g = G0.ln g ∧ G.tot g = G0.tot g) → c0 ≤ c → fpp.Nodup → (∀ b ∈ fpp, ¬ owned G h b ∧ ¬ G.R true b) → inPvs h c ms ps = some (h2, c2) →
    ∃ G', InOK G G' h h2 c c2 w' fpp ∧ (∀ g, g < c0 → G'.blk g = G0.blk g ∧ G'.ln g = G0.ln g ∧ G'.tot g = G0.tot g)
  | [], cvs, ms, fp0, bs, ps, fpp, G, h, c, h2, c2, M, F, hb, hlen, hb', W, hG, hc, hnd, hd, he => by
    cases M
    cases F
    simp only [inPvs, Option.some.injEq, Prod.mk.injEq] at he
    obtain ⟨rfl, rfl⟩ := he
    exact ⟨G, InOK.refl W, hG⟩
  | v :: vs1, cvs, ms, fp0, bs, ps, fpp, G, h, c, h2, c2, M, F, hb, hlen, hb', W, hG, hc, hnd, hd, he => by
    cases M with
    | val hn hv t =>
      cases F with
      | skip hv' F' =>
        exact inPvs_ok t F' (fun i cs x => hb (i + 1) cs (by simpa using x)) (by simpa using hlen) (fun i cs x => hb' (i + 1) cs (by simpa using x)) W hG hc hnd hd he
      | pv hl hF F' =>
        have := hb' 0 _ (by simp; rfl)
        simp at this
        exact absurd this (hn _)
    | fr hf t =>
      cases F with
      | skip hv' F' =>
        exact inPvs_ok t F' (fun i cs x => hb (i + 1) cs (by simpa using x)) (by simpa using hlen) (fun i cs x => hb' (i + 1) cs (by simpa using x)) W hG hc hnd hd he
      | pv hl hF F' =>
        have := hb' 0 _ (by simp; rfl)
        simp at this
    | @pv cs _ cvs' nm g f1 ms' fp' hf hl hg hn t =>
      cases F with
      | skip hv' F' =>
        have := hb 0 cs (by simp)
        simp at this
        exact absurd this (hv' _)
      | @pv cs2 _ _ _ cs' fp1 ps' fps hl' hF F' =>
        have e1 := hb' 0 cs2 (by simp)
        simp only [List.getElem?_cons_zero, Option.some.injEq, AV.pv.injEq] at e1
        subst e1
        simp only [inPvs] at he
        by_cases hlen' : cs'.length = cs.length
        · rw [if_pos hlen'] at he
          simp only [Option.bind_eq_some_iff] at he
          obtain ⟨p, hp, he⟩ := he
          rw [List.nodup_append] at hnd
          obtain ⟨n1, n2, n3⟩ := hnd
          cases hF with
          | cell h => cases h with | bare _ _ hb => simp [AV.bare] at hb
          | @pv _ us fp2 b elem lo hi hbk hfz F2 =>
            rw [List.nodup_cons] at n1
            have hdj : ∀ b ∈ fp2, ¬ owned G h b ∧ ¬ G.R true b := fun b hb => hd b (List.mem_append_left _ (List.mem_cons_of_mem _ hb))
            have F2' : FCells (Gh.only G.R0 G.R1) w' cs' us fp2 := F2.up
            obtain ⟨G1, I1, L1⟩ := inCells_ok (vs' := p.1) (h' := p.2.1) (c' := p.2.2) W F2' n1.2 hdj hp
            split at he
            · next hgone =>
              have hg1 : g < c := by omega
              obtain ⟨k1, k2, k3, k4, k5⟩ := I1.later.gh g hg1
              obtain ⟨q1, q2, q3⟩ := hG g hg
              have hb1 := hd (G0.blk g) (List.mem_append_left _ (by simp))
              have hblk : G1.blk g = G0.blk g := k1.trans q1
              have hul : us.length = cs'.length := F2.len
              obtain ⟨m1, m2⟩ := inCells_len (vs' := p.1) (h' := p.2.1) (c' := p.2.2) hp
              have hno : ¬ owned G1 p.2.1 (G1.blk g) := by
                intro x
                rw [hblk] at x
                rcases I1.own _ x with y | y
                · exact hb1.1 y
                · exact n1.1 y
              have L' : Later G1 G1 p.2.1 (p.2.1.put nm g (.var p.1)) p.2.2 p.2.2 w' w' :=
                { (Stp.refl G1 p.2.1 p.2.2 w').toLater with
                  lv := fun nm2 g2 _ x => by
                    rcases live_put.1 x with ⟨rfl, rfl⟩ | ⟨_, x⟩
                    · exact ⟨_, hgone⟩
                    · exact x }
              have hlt : g < p.2.2 := Nat.lt_of_lt_of_le hg1 I1.later.cc
              have W2 : WRel G1 (p.2.1.put nm g (.var p.1)) p.2.2 w' := by
                refine I1.wrel.put L' (Nat.le_refl _) (fun nm2 g2 hn2 hl2 => ⟨rfl, fun _ e => hno ⟨nm2, g2, hl2, e.symm⟩, id⟩) hlt ?_ I1.wrel.old
                refine .var p.1 us elem lo hi (by rw [hblk]; exact hbk) hfz ?_ ?_ ?_ m2 (L1.later L')
                · rw [k5, q3, hn.2, hul, hl']
                · rw [k4, q2, hn.1, m1, hl']
                · rw [hblk]; intro x; apply hb1.2; simpa [Gh.R, I1.r0, I1.r1] using x
              have I2 : InOK G G1 h (p.2.1.put nm g (.var p.1)) c p.2.2 w' (G0.blk g :: fp2) := by
                refine ⟨I1.later.trans L', W2, fun x hx => ?_, I1.r0, I1.r1⟩
                obtain ⟨n2, g2, hl2, e⟩ := hx
                rcases liveN_put hl2 with ⟨rfl, rfl⟩ | ⟨_, hl2⟩
                · right; rw [← e, hblk]; simp
                · exact (I1.own x ⟨n2, g2, hl2, e⟩).imp id (fun z => List.mem_cons_of_mem _ z)
              have hd3 : ∀ b ∈ fps, ¬ owned G1 (p.2.1.put nm g (.var p.1)) b ∧ ¬ G1.R true b := by
                intro b hb
                obtain ⟨x1, x2⟩ := hd b (List.mem_append_right _ hb)
                refine ⟨fun x => ?_, ?_⟩
                · rcases I2.own b x with y | y
                  · exact x1 y
                  · exact n3 b y b hb rfl
                · intro x; apply x2
                  simpa [Gh.R, I1.r0, I1.r1] using x
              have hG1 : ∀ g', g' < c0 → G1.blk g' = G0.blk g' ∧ G1.ln g' = G0.ln g' ∧ G1.tot g' = G0.tot g' := by
                intro g' hg'
                obtain ⟨z1, z2, z3, z4, z5⟩ := I1.later.gh g' (by omega)
                obtain ⟨y1, y2, y3⟩ := hG g' hg'
                exact ⟨z1.trans y1, z4.trans y2, z5.trans y3⟩
              obtain ⟨G3, I3, hG3⟩ := inPvs_ok t (by rw [I1.r0]; exact F') (fun i cs x => hb (i + 1) cs (by simpa using x)) (by simpa using hlen) (fun i cs x => hb' (i + 1) cs (by simpa using x)) W2 hG1 (Nat.le_trans hc I1.later.cc) n2 hd3 he
              exact ⟨G3, I2.trans I3, hG3⟩
            · cases he
        · rw [if_neg hlen'] at he; cases he

theorem lend_pv : ∀ {h : AH} {vs bs}, lendArgs h vs = some bs → vs.length = bs.length ∧ (∀ (i : Nat) cs, vs[i]? = some (.pv cs) → bs[i]? = some (.pv cs)) ∧ (∀ (i : Nat) cs, bs[i]? = some (.pv cs) → vs[i]? = some (.pv cs))
  | h, [], bs, he => by
    simp only [lendArgs, Option.some.injEq] at he
    subst he; simp
  | h, v :: vs, bs, he => by
    simp only [lendArgs, Option.bind_eq_some_iff, Option.map_eq_some_iff] at he
    obtain ⟨p, hp, q, hq, rfl⟩ := he
    obtain ⟨i1, i2, i3⟩ := lend_pv hq
    have hpv : ∀ cs, v = .pv cs ↔ p = .pv cs := by
      intro cs
      unfold lendArg at hp
      split at hp
      · simp only [Option.map_eq_some_iff] at hp
        obtain ⟨x, _, rfl⟩ := hp
        simp
      · obtain rfl := Option.some.inj hp; simp
      · obtain rfl := Option.some.inj hp; simp
      · next v' hn1 hn2 hn3 =>
        constructor
        · intro e; exact absurd e (hn2 _)
        · intro e; subst e
          unfold lendCell at hp
          split at hp
          · split at hp
            · split at hp <;> simp at hp
            · cases hp
          · split at hp
            · split at hp <;> simp at hp
            · cases hp
          · split at hp
            · obtain rfl := Option.some.inj hp; exact absurd rfl (hn2 _)
            · cases hp
    refine ⟨by simp [i1], fun i cs x => ?_, fun i cs x => ?_⟩
    · cases i with
      | zero => simp at x ⊢; exact (hpv cs).1 x
      | succ i => simp at x ⊢; exact i2 i cs x
    · cases i with
      | zero => simp at x ⊢; exact (hpv cs).2 x
      | succ i => simp at x ⊢; exact i3 i cs x

/-- A call of a function whose contract is known. -/
theorem acall_ok {f F nm vs cvs r mv} (W : WRel G h c w) (L : LRel G h c w vs cvs) (HF : Refines P f F) (hgl : GlobOK G.R0 w) (he : acall F h c nm vs mv = some r) :
    Calls P f ⟨cvs⟩ w fun e w' => ∃ cv G', e = .returned cv ∧ Stp G G' h r.2.1 c r.2.2 w w' ∧ WRel G' r.2.1 r.2.2 w' ∧ VRel G' r.2.1 r.2.2 w' r.1 cv := by
  simp only [acall, Option.bind_eq_some_iff] at he
  obtain ⟨m, hm, bs, hbs, x, hx, q, hq, he⟩ := he
  obtain ⟨fp, M, O⟩ := mvArgs_ok (vs1 := m.1) (h1 := m.2.1) (ms := m.2.2) (fun x => G.R1 x ∨ owned G m.2.1 x) h W (fun _ _ _ x _ => x) L hm
  have FV := lendArgs_ok O.wrel O.later M hbs
  obtain ⟨l1, l2, l3⟩ := lend_pv hbs
  refine (HF bs x.1 x.2 hx G.R0 (fun x => G.R1 x ∨ owned G m.2.1 x) w cvs fp hgl FV O.nodup (fun b hb => ?_) (fun b hb => ?_)).mono ?_
  · obtain ⟨_, y2, y3⟩ := O.fpo b hb
    exact ⟨fun z => y3 (.inl z), fun z => z.elim (fun z => y3 (.inr z)) y2⟩
  · rcases hb with y | y | y
    · exact W.old b (.inl y)
    · exact W.old b (.inr y)
    · exact O.wrel.lt y
  · rintro e w' ⟨cv, R0', fpr, fpp, rfl, hsz, hos, htp, hout, hkeep, hr0, hr0', FR, FP, hnd, hown⟩
    let G1 : Gh := { G with R0 := R0' }
    have hRfp : ∀ b, G.R true b → b ∉ fp := fun b hb hf => (O.fpo b hf).2.2 hb
    have L1 : Later G G1 h m.2.1 c c w w' :=
      { gh := fun _ _ => ⟨rfl, rfl, rfl, rfl, rfl⟩
        r0 := hr0
        r1 := fun _ x => x
        opq := rfl
        cc := Nat.le_refl _
        lv := O.later.lv
        rw := fun b hb => hkeep b (W.old b hb) (hRfp b hb) }
    have L1' : Later G G1 m.2.1 m.2.1 c c w w' := { L1 with lv := fun _ _ _ x => x }
    have hR1 : ∀ b, b < w.heap.size → b ∉ fp → G1.R true b → G.R true b := by
      intro b hb hf hR
      rcases hR with y | y
      · rcases (hr0' b y).1 with z | z | z
        · exact .inl z
        · exact absurd z hf
        · omega
      · exact .inr y
    have W1 : WRel G1 m.2.1 c w' :=
      { gen := O.wrel.gen
        blk := fun nm g b x => by
          by_cases hg : b = .gone
          · subst hg
            cases O.wrel.blk nm g _ x with
            | gone hlt => exact .gone (Nat.lt_of_lt_of_le hlt hsz)
          · have ho : owned G m.2.1 (G.blk g) := ⟨nm, g, ⟨b, x, hg⟩, rfl⟩
            have hlt := O.wrel.lt ho
            have hnf : G.blk g ∉ fp := fun y => (O.fpo _ y).2.1 ho
            exact (O.wrel.blk nm g b x).later L1' (O.wrel.gen _ _ _ x) (hkeep _ hlt hnf) (hR1 _ hlt hnf) (fun y => Nat.lt_of_lt_of_le y hsz)
        apart := O.wrel.apart
        old := fun b hb => by
          rcases hb with y | y
          · exact (hr0' b y).2
          · exact Nat.lt_of_lt_of_le (W.old b (.inr y)) hsz }
    have hfresh : ∀ b ∈ fpr ++ fpp, ¬ owned G1 m.2.1 b ∧ ¬ G1.R true b := by
      intro b hb
      obtain ⟨y1, y2⟩ := hown b hb
      constructor
      · intro ho
        have ho' : owned G m.2.1 b := ho
        rcases y1 with y | y
        · exact (O.fpo b y).2.1 ho'
        · have := O.wrel.lt ho'; omega
      · rintro (z | z)
        · exact y2 z
        · rcases y1 with y | y
          · exact (O.fpo b y).2.2 (.inr z)
          · have := W.old b (.inr z); omega
    rw [List.nodup_append] at hnd
    obtain ⟨n1, n2, n3⟩ := hnd
    obtain ⟨G2, I2, hG2⟩ := inPvs_ok (h2 := q.1) (c2 := q.2) M FP l2 l1 l3 W1 (fun _ _ => ⟨rfl, rfl, rfl⟩) (Nat.le_refl _) n2 (fun b hb => hfresh b (List.mem_append_right _ hb)) hq
    have FR' : FRes (Gh.only G2.R0 G2.R1) w' x.1 cv fpr := by
      rw [I2.r0, I2.r1]
      exact FR.up
    have hfr2 : ∀ b ∈ fpr, ¬ owned G2 q.1 b ∧ ¬ G2.R true b := by
      intro b hb
      obtain ⟨y1, y2⟩ := hfresh b (List.mem_append_left _ hb)
      refine ⟨fun z => ?_, fun z => y2 (by simpa [Gh.R, I2.r0, I2.r1] using z)⟩
      rcases I2.own b z with u | u
      · exact y1 u
      · exact n3 b hb b u rfl
    obtain ⟨G3, I3, R3⟩ := inRes_ok (v' := r.1) (h' := r.2.1) (c' := r.2.2) I2.wrel FR' n1 hfr2 he
    refine ⟨cv, G3, rfl, ?_, I3.wrel, R3⟩
    have LL := (L1.trans I2.later).trans I3.later
    exact { LL with
      r1' := fun b z => by rw [I3.r1, I2.r1] at z; exact z
      size := hsz
      os := hos
      tape := htp
      output := hout
      keep := fun b hb hn => hkeep b hb (fun hf => by
        obtain ⟨nm, g, hl, e⟩ := (O.fpo b hf).1
        exact hn nm g hl e)
      owns := fun nm g hl => by
        have key : ∀ b, (b ∈ fp ∨ w.heap.size ≤ b) → (∃ nm' g', liveN h nm' g' ∧ G.blk g' = b) ∨ w.heap.size ≤ b := by
          intro b hb
          rcases hb with y | y
          · exact .inl (O.fpo b y).1
          · exact .inr y
        rcases I3.own _ ⟨nm, g, hl, rfl⟩ with y | y
        · rcases I2.own _ y with z | z
          · have z' : owned G m.2.1 (G3.blk g) := z
            exact .inl (O.subN z')
          · exact key _ (hown _ (List.mem_append_right _ z)).1
        · exact key _ (hown _ (List.mem_append_left _ y)).1
      froze := fun b hb => by
        rw [I3.r0, I2.r0] at hb
        rcases (hr0' b hb).1 with z | z | z
        · exact .inl z
        · obtain ⟨nm, g, hl, e⟩ := (O.fpo b z).1
          exact .inr (.inl ⟨nm, g, hl, e⟩)
        · exact .inr (.inr z) }
end
end Go.Abs

namespace Go.Abs
variable [Globs]
open Go

/-- the function has a body, and no name that the machine takes apart -/
def callable (P : Program) (f : Nat) : Bool :=
  match P.funcs[f]? with
  | some fn => !(fn.name == "runtime.NumGoroutine") && fn.body.isSome
  | none => false

/-- I says what f does in the caller's memory. -/
def RefInl (P : Program) (f : Nat) (I : InlF) : Prop :=
  ∀ (G : Gh) (h : AH) (c : Nat) (w : World) (vs : List AV) (cvs : List Value) (r : AV × AH × Nat), WRel G h c w → GlobOK G.R0 w → LRel G h c w vs cvs → I h c vs = some r →
    Calls P f ⟨cvs⟩ w fun e w' => ∃ cv G', e = .returned cv ∧ Stp G G' h r.2.1 c r.2.2 w w' ∧ WRel G' r.2.1 r.2.2 w' ∧ VRel G' r.2.1 r.2.2 w' r.1 cv

/-- the fence of a round: nothing is fenced off -/
abbrev FR (l : Nat) : Fence := Fence.wide.inRound l
/-- nothing is fenced off; in a round or not -/
def FW (F : Fence) : Prop := F = Fence.wide ∨ ∃ l, F = FR l

/-- Y says what the loop's yield of the name nm does, from here on. -/
def YldOK (P : Program) (nm : Nat) (Y : InlF) (G0 : Gh) (h0 : AH) (c0 : Nat) (w0 : World) : Prop :=
  ∀ (G : Gh) (h : AH) (c : Nat) (w : World) (g : Nat) (vs : List AV) (cvs : List Value) (r : AV × AH × Nat), Later G0 G h0 h c0 c w0 w → WRel G h c w → GlobOK G.R0 w → LRel G h c w vs cvs → h.get nm g = some (.lp .ready) → Y h c vs = some r →
    cvs.length = (G.lp g).params.size ∧ ∀ (F : Fence) (m : Nat), FW F →
      RoundIn F m P (G.blk g) (G.lp g).fn (((G.lp g).params.zip ⟨cvs⟩).foldl (fun tmps (t, a) => tmps.setIfInBounds t a) (G.lp g).tmps) (G.lp g).assign (G.lp g).body w
        fun e w' => ∃ cv G', e = .returned cv ∧ Stp G G' h r.2.1 c r.2.2 w w' ∧ WRel G' r.2.1 r.2.2 w' ∧ VRel G' r.2.1 r.2.2 w' r.1 cv
theorem YldOK.later {P nm Y G h c w G' h' c' w'} (L : Later G G' h h' c c' w w') (H : YldOK P nm Y G h c w) : YldOK P nm Y G' h' c' w' :=
  fun G2 h2 c2 w2 g vs cvs r L2 => H G2 h2 c2 w2 g vs cvs r (L.trans L2)

/-- I says what the iterator f does in the memory of the loop's function. -/
def RefItr (P : Program) (f : Nat) (I : Nat → InlF → InlF) : Prop :=
  ∀ (nm : Nat) (Y : InlF) (G : Gh) (h : AH) (c : Nat) (w : World) (vs : List AV) (cvs : List Value) (r : AV × AH × Nat), WRel G h c w → GlobOK G.R0 w → YldOK P nm Y G h c w → LRel G h c w vs cvs → I nm Y h c vs = some r →
    Calls P f ⟨cvs⟩ w fun e w' => ∃ cv G', e = .returned cv ∧ Stp G G' h r.2.1 c r.2.2 w w' ∧ WRel G' r.2.1 r.2.2 w' ∧ VRel G' r.2.1 r.2.2 w' r.1 cv

/-- what is known of a function -/
structure FnOK (P : Program) (f : Nat) (F : FnF) : Prop where
  can : callable P f = true ∨ (F.call = CallF.none ∧ F.inl = InlF.none ∧ F.itr = fun _ _ => InlF.none)
  call : Refines P f F.call
  inl : RefInl P f F.inl
  itr : RefItr P f F.itr
structure PhiOK (P : Program) (Φ : Nat → Option FnF) (G : Gh) (h : AH) (c : Nat) (w : World) : Prop where
  fn : ∀ f F, Φ f = some F → FnOK P f F
  yl : ∀ nm F, Φ (ykey nm) = some F → YldOK P nm F.yl G h c w
theorem PhiOK.later {P Φ G h c w G' h' c' w'} (L : Later G G' h h' c c' w w') (H : PhiOK P Φ G h c w) : PhiOK P Φ G' h' c' w' :=
  ⟨H.fn, fun nm F hF => (H.yl nm F hF).later L⟩
theorem FnOK.yield (P : Program) (f : Nat) (Y : InlF) : FnOK P f (FnF.yield Y) where
  can := .inr ⟨rfl, rfl, rfl⟩
  call := fun _ _ _ h => by cases h
  inl := fun _ _ _ _ _ _ _ _ _ _ h => by cases h
  itr := fun _ _ _ _ _ _ _ _ _ _ _ _ _ h => by cases h
theorem PhiOK.withY {P Φ G h c w nm Y} (H : PhiOK P Φ G h c w) (hY : YldOK P nm Y G h c w) : PhiOK P (withY Φ nm Y) G h c w where
  fn := fun f F hF => by
    unfold Abs.withY at hF
    split at hF
    · obtain rfl := Option.some.inj hF; exact FnOK.yield P f Y
    · exact H.fn f F hF
  yl := fun nm' F hF => by
    unfold Abs.withY at hF
    split at hF
    · next e =>
      obtain rfl := Option.some.inj hF
      have : nm' = nm := by simp [ykey] at e; omega
      subst this; exact hY
    · exact H.yl nm' F hF
theorem acall_none {h c nm vs mv r} (he : acall CallF.none h c nm vs mv = some r) : False := by
  simp only [acall, Option.bind_eq_some_iff] at he
  obtain ⟨_, _, _, _, _, hx, _⟩ := he
  cases hx
theorem FnOK.can_call {P f F h c nm vs mv r} (H : FnOK P f F) (he : acall F.call h c nm vs mv = some r) : callable P f = true :=
  H.can.elim id fun x => by rw [x.1] at he; exact (acall_none he).elim
theorem FnOK.can_inl {P f F h c vs r} (H : FnOK P f F) (he : F.inl h c vs = some r) : callable P f = true :=
  H.can.elim id fun x => by rw [x.2.1] at he; cases he
theorem FnOK.can_itr {P f F nm Y h c vs r} (H : FnOK P f F) (he : F.itr nm Y h c vs = some r) : callable P f = true :=
  H.can.elim id fun x => by rw [x.2.2] at he; cases he

def operFit (P : Program) (N : Nat) (ops : Array Oper) (o : Oper) (ao : AOper) : Bool :=
  (o.dst == ao.dst) && (match o.dst with | some d => decide (d < N) | none => true) && opFit P o.dst o.op ao.op &&
  match o.guard, ao.guard with
  | none, none => true
  | some (j, want), some (t, want') => want == want' && ((ops[j]?).bind (·.dst) == some t)
  | _, _ => false

structure SRel (G : Gh) (s : St) (a : Act) (w : World) : Prop where
  wrel : WRel G s.h s.c w
  env : EnvRel G s.h s.c w s.env a

section
variable {P : Program} {Φ : Nat → Option FnF} {G : Gh} {w : World} {a : Act} {s : St}

theorem EnvRel.put {G h c w env a d v cv} (E : EnvRel G h c w env a) (hd : d < a.tmps.size) (hv : VRel G h c w v cv) : EnvRel G h c w (envSet env d v) (a.put (some d) cv) := by
  refine ⟨?_, E.gl⟩
  intro n u hu
  rw [envGet_set] at hu
  split at hu
  · next e =>
    subst e
    obtain rfl := Option.some.inj hu
    refine ⟨by simpa [Act.put] using hd, ?_⟩
    simpa [Act.put, Array.getD, hd] using hv
  · next e =>
    obtain ⟨h1, h2⟩ := E.tm n u hu
    refine ⟨by simpa [Act.put] using h1, ?_⟩
    have : (a.put (some d) cv).tmps.getD n undef = a.tmps.getD n undef := by
      simp only [Act.put]
      simp [Array.getD, h1, Array.getElem_setIfInBounds, Ne.symm e]
    rw [this]; exact h2

theorem EnvRel.del {G h c w env a d cv} (E : EnvRel G h c w env a) : EnvRel G h c w (envDel env d) (a.put (some d) cv) := by
  refine ⟨?_, E.gl⟩
  intro n u hu
  rw [envGet_del] at hu
  split at hu
  · cases hu
  · next e =>
    obtain ⟨h1, h2⟩ := E.tm n u hu
    refine ⟨by simpa [Act.put] using h1, ?_⟩
    have : (a.put (some d) cv).tmps.getD n undef = a.tmps.getD n undef := by
      simp only [Act.put]
      simp [Array.getD, h1, Array.getElem_setIfInBounds, Ne.symm e]
    rw [this]; exact h2

theorem put_size (a : Act) (d : Option Tmp) (v : Value) : (a.put d v).tmps.size = a.tmps.size := by cases d <;> simp [Act.put]
theorem put_defers (a : Act) (d : Option Tmp) (v : Value) : (a.put d v).defers = a.defers := by cases d <;> rfl

theorem callFunc_run {f args} (hc : callable P f = true) : (callFunc f args).run P w = .ok (.enter f args) w := by
  unfold callable at hc
  cases hf : P.funcs[f]? with
  | none => simp [hf] at hc
  | some fn =>
    simp only [hf, Bool.and_eq_true, Bool.not_eq_true'] at hc
    have h1 : ¬ fn.name = "runtime.NumGoroutine" := by simpa using hc.1
    have h2 : ¬ fn.body = none := by intro e; rw [e] at hc; simp at hc
    simp [callFunc, hf, h1, h2]
end
end Go.Abs

namespace Go.Abs
variable [Globs]
open Go
set_option linter.unusedVariables false
theorem FW.fn {F : Fence} (h : FW F) (f : FuncId) : F.fn f := by
  rcases h with rfl | ⟨l, rfl⟩ <;> trivial
section
variable {P : Program} {F : Fence} {n : Nat} {f : FuncId} {args : Array Value} {w : World}
theorem callsIn_F (hW : FW F) {R : Ending → World → Prop} (h : Calls P f args w R) : CallsIn F n P f args w R := by
  rcases hW with rfl | ⟨l, rfl⟩ <;> exact (callsIn_wide (n := n)).2 h
theorem rowsIn_F (hW : FW F) {row : String} {R : Value → World → Prop} (h : Rows P row args w R) : RowsIn F n P row args w R := by
  intro c cs _
  obtain ⟨v, w', r, s⟩ := h c cs
  refine ⟨v, w', r, ?_⟩
  rcases hW with rfl | ⟨l, rfl⟩ <;> exact stepsIn_wide.2 s
theorem depth_F (hW : FW F) : F.depth.isSome = true → 1 ≤ n := by
  rcases hW with rfl | ⟨l, rfl⟩ <;> (intro e; cases e)
theorem operIn_F (hW : FW F) {o : Oper} {a : Act} {K : Act → World → Prop} {Q : Exit → Act → World → Prop} (hnd : ∀ c, o.op ≠ .defer c) (h : o.wp P a w K Q) : o.wpIn F n P a w K Q := by
  unfold Oper.wp at h
  unfold Oper.wpIn
  refine ⟨fun f _ => hW.fn f, ?_⟩
  rw [Oper.semAt_eq _ _ _ hnd]
  generalize (execOp a.eval o).run P w = r at *
  cases r with
  | ok x w' =>
    cases x <;> simp only [Oper.upon, Oper.uponIn] at h ⊢
    case value => exact h
    case skip => exact h
    case defer => exact h
    case enter => exact ⟨depth_F hW, callsIn_F hW h⟩
    case row => exact ⟨depth_F hW, rowsIn_F hW h⟩
  | halt x w' => cases x <;> simp only [Oper.upon, Oper.uponIn] at h ⊢ <;> exact h
theorem opFit_defer (d : Option Tmp) (c : Call) (x : AOp) : opFit P d (.defer c) x = false := by cases x <;> rfl
end
section
variable {P : Program} {Φ : Nat → Option FnF} {G : Gh} {w : World} {a : Act} {s : St}
/-- one operation -/
theorem oper_putF {F : Fence} {m : Nat} (hW : FW F) (hΦ : PhiOK P Φ G s.h s.c w) {N ops} {o : Oper} {ao : AOper} {s'} (hf : operFit P N ops o ao = true) (hN : a.tmps.size = N) (S : SRel G s a w) (he : evOper Φ s ao = some s') {i : Nat} (hi : ops[i]? = some o) {K : Act → World → Prop} {Q : Exit → Act → World → Prop}
    (hK : ∀ cv w' G', Stp G G' s.h s'.h s.c s'.c w w' → SRel G' s' (a.put o.dst cv) w' → K (a.put o.dst cv) w') : wpOpIn F m P ops Q i K a w := by
  simp only [operFit, Bool.and_eq_true, beq_iff_eq] at hf
  obtain ⟨⟨⟨hd, hdN⟩, hop⟩, hg⟩ := hf
  have hnd : ∀ c, o.op ≠ .defer c := by intro c e; rw [e, opFit_defer] at hop; cases hop
  have go : (evOp Φ s.env s.h s.c ao.op).map (fun r => ({ env := match ao.dst with | some d => envSet s.env d r.1 | none => s.env, h := r.2.1, c := r.2.2 } : St)) = some s' → o.wpIn F m P a w K Q := by
    intro hgo
    simp only [Option.map_eq_some_iff] at hgo
    obtain ⟨r, hr, rfl⟩ := hgo
    have fin : ∀ cv w' G', Stp G G' s.h r.2.1 s.c r.2.2 w w' → WRel G' r.2.1 r.2.2 w' → (VRel G' r.2.1 r.2.2 w' r.1 cv ∨ o.dst = none) → K (a.put o.dst cv) w' := by
      intro cv w' G' St W' hv
      refine hK _ _ _ St ⟨W', ?_⟩
      rw [← hd]
      have E' := S.env.later St.toLater
      cases hdd : o.dst with
      | none => simpa [Act.put] using E'
      | some d =>
        rw [hdd] at hdN hv
        simp only [decide_eq_true_eq] at hdN
        rcases hv with hv | hv
        · exact E'.put (by rw [hN]; exact hdN) hv
        · cases hv
    by_cases hcall : ao.op.isCall = true
    · cases hao : ao.op with
      | call nm f args =>
        rw [hao] at hop hr
        simp only [evOp, Option.bind_eq_some_iff] at hr
        obtain ⟨vs, hvs, F, hF, hcall⟩ := hr
        have hcb := (hΦ.fn f F hF).can_call hcall; have HR := (hΦ.fn f F hF).call
        have hfit : ∃ cargs ats, o.op = .call { callee := .value (.func f), args := cargs, argTypes := ats } ∧ xsFit cargs.toList args = true := by
          generalize o.op = op at hop
          unfold opFit at hop
          split at hop <;> simp only [reduceCtorEq, AOp.call.injEq] at * <;> try (cases hop; done)
          all_goals first
            | (next e => obtain ⟨rfl, rfl, rfl⟩ := e; simp only [Bool.and_eq_true, beq_iff_eq] at hop; obtain ⟨rfl, h2⟩ := hop; exact ⟨_, _, rfl, h2⟩)
            | skip
        obtain ⟨cargs, ats, hoo, hxs⟩ := hfit
        have L := xsFit_rel S.env hxs hvs
        have C := acall_ok S.wrel L HR S.env.gl hcall
        have hrun : (execOp a.eval o).run P w = .ok (.enter f (cargs.map a.eval)) w := by
          simp only [execOp, hoo, resolve, Act.eval, Deferred.ofValue, Sem.run_bind, Sem.run_pure, Result.andThen_ok, invoke]
          rw [callFunc_run hcb]; simp
        refine operIn_F hW hnd ?_
        unfold Oper.wp
        rw [hrun, Oper.upon_enter]
        have e : cargs.map a.eval = ⟨cargs.toList.map a.eval⟩ := by cases cargs; simp
        rw [e]
        refine C.mono ?_
        rintro e w' ⟨cv, G', rfl, St, W', R⟩
        exact fin cv w' G' St W' (.inl R)
      | callm nm f args mv =>
        rw [hao] at hop hr
        simp only [evOp, Option.bind_eq_some_iff] at hr
        obtain ⟨vs, hvs, F, hF, hcall⟩ := hr
        have hcb := (hΦ.fn f F hF).can_call hcall; have HR := (hΦ.fn f F hF).call
        have hfit : ∃ cargs ats, o.op = .call { callee := .value (.func f), args := cargs, argTypes := ats } ∧ xsFit cargs.toList args = true := by
          generalize o.op = op at hop
          unfold opFit at hop
          split at hop <;> simp only [reduceCtorEq, AOp.callm.injEq] at * <;> try (cases hop; done)
          all_goals first
            | (next e => obtain ⟨rfl, rfl, rfl, rfl⟩ := e; simp only [Bool.and_eq_true, beq_iff_eq] at hop; obtain ⟨rfl, h2⟩ := hop; exact ⟨_, _, rfl, h2⟩)
            | skip
        obtain ⟨cargs, ats, hoo, hxs⟩ := hfit
        have L := xsFit_rel S.env hxs hvs
        have C := acall_ok S.wrel L HR S.env.gl hcall
        have hrun : (execOp a.eval o).run P w = .ok (.enter f (cargs.map a.eval)) w := by
          simp only [execOp, hoo, resolve, Act.eval, Deferred.ofValue, Sem.run_bind, Sem.run_pure, Result.andThen_ok, invoke]
          rw [callFunc_run hcb]; simp
        refine operIn_F hW hnd ?_
        unfold Oper.wp
        rw [hrun, Oper.upon_enter]
        have e : cargs.map a.eval = ⟨cargs.toList.map a.eval⟩ := by cases cargs; simp
        rw [e]
        refine C.mono ?_
        rintro e w' ⟨cv, G', rfl, St, W', R⟩
        exact fin cv w' G' St W' (.inl R)
      | inl f args =>
        rw [hao] at hop hr
        simp only [evOp, Option.bind_eq_some_iff] at hr
        obtain ⟨vs, hvs, F, hF, hcall⟩ := hr
        have hcb := (hΦ.fn f F hF).can_inl hcall
        have HI := (hΦ.fn f F hF).inl
        have hfit : ∃ cargs ats, o.op = .call { callee := .value (.func f), args := cargs, argTypes := ats } ∧ xsFit cargs.toList args = true := by
          generalize o.op = op at hop
          unfold opFit at hop
          split at hop <;> simp only [reduceCtorEq, AOp.inl.injEq] at * <;> try (cases hop; done)
          all_goals first
            | (next e => obtain ⟨rfl, rfl⟩ := e; simp only [Bool.and_eq_true, beq_iff_eq] at hop; obtain ⟨rfl, h2⟩ := hop; exact ⟨_, _, rfl, h2⟩)
            | skip
        obtain ⟨cargs, ats, hoo, hxs⟩ := hfit
        have L := xsFit_rel S.env hxs hvs
        have C := HI G s.h s.c w vs _ r S.wrel S.env.gl L hcall
        have hrun : (execOp a.eval o).run P w = .ok (.enter f (cargs.map a.eval)) w := by
          simp only [execOp, hoo, resolve, Act.eval, Deferred.ofValue, Sem.run_bind, Sem.run_pure, Result.andThen_ok, invoke]
          rw [callFunc_run hcb]; simp
        refine operIn_F hW hnd ?_
        unfold Oper.wp
        rw [hrun, Oper.upon_enter]
        have e : cargs.map a.eval = ⟨cargs.toList.map a.eval⟩ := by cases cargs; simp
        rw [e]
        refine C.mono ?_
        rintro e w' ⟨cv, G', rfl, St, W', R⟩
        exact fin cv w' G' St W' (.inl R)
      | inlv x args =>
        rw [hao] at hop hr
        simp only [evOp, Option.bind_eq_some_iff] at hr
        obtain ⟨xv, hxv, hr⟩ := hr
        split at hr
        · next f cap =>
          simp only [Option.bind_eq_some_iff] at hr
          obtain ⟨vs, hvs, F, hF, hcall⟩ := hr
          have hcb := (hΦ.fn f F hF).can_inl hcall
          have HI := (hΦ.fn f F hF).inl
          have hfit : ∃ y cargs ats, o.op = .call { callee := .value y, args := cargs, argTypes := ats } ∧ xFit y x = true ∧ xsFit cargs.toList args = true := by
            generalize o.op = op at hop
            unfold opFit at hop
            split at hop <;> simp only [reduceCtorEq, AOp.inlv.injEq] at * <;> try (cases hop; done)
            all_goals first
              | (next e => obtain ⟨rfl, rfl⟩ := e; simp only [Bool.and_eq_true] at hop; exact ⟨_, _, _, rfl, hop.1, hop.2⟩)
              | skip
          obtain ⟨y, cargs, ats, hoo, hxf, hxs⟩ := hfit
          have L := xsFit_rel S.env hxs hvs
          have rx := xFit_rel hxf S.env hxv
          obtain ⟨us, hus, Lc⟩ := rx.fn_inv
          have C := HI G s.h s.c w (vs ++ cap) _ r S.wrel S.env.gl (L.append Lc) hcall
          have hrun : (execOp a.eval o).run P w = .ok (.enter f (cargs.map a.eval ++ ⟨us⟩)) w := by
            simp only [execOp, hoo, resolve, hus, Deferred.ofValue, Sem.run_bind, Sem.run_pure, Result.andThen_ok, invoke]
            rw [callFunc_run hcb]; simp
          refine operIn_F hW hnd ?_
          unfold Oper.wp
          rw [hrun, Oper.upon_enter]
          have e : cargs.map a.eval ++ ⟨us⟩ = ⟨cargs.toList.map a.eval ++ us⟩ := by cases cargs; simp
          rw [e]
          refine C.mono ?_
          rintro e w' ⟨cv, G', rfl, St, W', R⟩
          exact fin cv w' G' St W' (.inl R)
        · cases hr
      | callv nm x args =>
        rw [hao] at hop hr
        simp only [evOp, Option.bind_eq_some_iff] at hr
        obtain ⟨xv, hxv, hr⟩ := hr
        split at hr
        · next f cap =>
          simp only [Option.bind_eq_some_iff] at hr
          obtain ⟨vs, hvs, F, hF, hcall⟩ := hr
          have hcb := (hΦ.fn f F hF).can_call hcall; have HR := (hΦ.fn f F hF).call
          have hfit : ∃ y cargs ats, o.op = .call { callee := .value y, args := cargs, argTypes := ats } ∧ xFit y x = true ∧ xsFit cargs.toList args = true := by
            generalize o.op = op at hop
            unfold opFit at hop
            split at hop <;> simp only [reduceCtorEq, AOp.callv.injEq] at * <;> try (cases hop; done)
            all_goals first
              | (next e => obtain ⟨rfl, rfl, rfl⟩ := e; simp only [Bool.and_eq_true] at hop; exact ⟨_, _, _, rfl, hop.1, hop.2⟩)
              | skip
          obtain ⟨y, cargs, ats, hoo, hxf, hxs⟩ := hfit
          have L := xsFit_rel S.env hxs hvs
          have rx := xFit_rel hxf S.env hxv
          obtain ⟨us, hus, Lc⟩ := rx.fn_inv
          have C := acall_ok S.wrel (L.append Lc) HR S.env.gl hcall
          have hrun : (execOp a.eval o).run P w = .ok (.enter f (cargs.map a.eval ++ ⟨us⟩)) w := by
            simp only [execOp, hoo, resolve, hus, Deferred.ofValue, Sem.run_bind, Sem.run_pure, Result.andThen_ok, invoke]
            rw [callFunc_run hcb]; simp
          refine operIn_F hW hnd ?_
          unfold Oper.wp
          rw [hrun, Oper.upon_enter]
          have e : cargs.map a.eval ++ ⟨us⟩ = ⟨cargs.toList.map a.eval ++ us⟩ := by cases cargs; simp
          rw [e]
          refine C.mono ?_
          rintro e w' ⟨cv, G', rfl, St, W', R⟩
          exact fin cv w' G' St W' (.inl R)
        · next f fst =>
          simp only [Option.bind_eq_some_iff] at hr
          obtain ⟨vs, hvs, F, hF, hcall⟩ := hr
          have hcb := (hΦ.fn f F hF).can_call hcall; have HR := (hΦ.fn f F hF).call
          have hfit : ∃ y cargs ats, o.op = .call { callee := .value y, args := cargs, argTypes := ats } ∧ xFit y x = true ∧ xsFit cargs.toList args = true := by
            generalize o.op = op at hop
            unfold opFit at hop
            split at hop <;> simp only [reduceCtorEq, AOp.callv.injEq] at * <;> try (cases hop; done)
            all_goals first
              | (next e => obtain ⟨rfl, rfl, rfl⟩ := e; simp only [Bool.and_eq_true] at hop; exact ⟨_, _, _, rfl, hop.1, hop.2⟩)
              | skip
          obtain ⟨y, cargs, ats, hoo, hxf, hxs⟩ := hfit
          have L := xsFit_rel S.env hxs hvs
          have rx := xFit_rel hxf S.env hxv
          obtain ⟨us, hus, Lc⟩ := rx.bm_inv
          have C := acall_ok S.wrel (Lc.append L) HR S.env.gl hcall
          have hrun : (execOp a.eval o).run P w = .ok (.enter f (⟨us⟩ ++ cargs.map a.eval)) w := by
            simp only [execOp, hoo, resolve, hus, Deferred.ofValue, Sem.run_bind, Sem.run_pure, Result.andThen_ok, invoke]
            rw [callFunc_run hcb]; simp
          refine operIn_F hW hnd ?_
          unfold Oper.wp
          rw [hrun, Oper.upon_enter]
          have e : (⟨us⟩ : Array Value) ++ cargs.map a.eval = ⟨us ++ cargs.toList.map a.eval⟩ := by cases cargs; simp
          rw [e]
          refine C.mono ?_
          rintro e w' ⟨cv, G', rfl, St, W', R⟩
          exact fin cv w' G' St W' (.inl R)
        · next nm' g =>
          split at hr
          · next hrec =>
            simp only [Option.bind_eq_some_iff] at hr
            obtain ⟨vs, hvs, F', hF, hY⟩ := hr
            have hfit : ∃ y cargs ats, o.op = .call { callee := .value y, args := cargs, argTypes := ats } ∧ xFit y x = true ∧ xsFit cargs.toList args = true := by
              generalize o.op = op at hop
              unfold opFit at hop
              split at hop <;> simp only [reduceCtorEq, AOp.callv.injEq] at * <;> try (cases hop; done)
              all_goals first
                | (next e => obtain ⟨rfl, rfl, rfl⟩ := e; simp only [Bool.and_eq_true] at hop; exact ⟨_, _, _, rfl, hop.1, hop.2⟩)
                | skip
            obtain ⟨y, cargs, ats, hoo, hxf, hxs⟩ := hfit
            have L := xsFit_rel S.env hxs hvs
            have rx := xFit_rel hxf S.env hxv
            generalize hcv : a.eval y = cv at rx
            cases rx with
            | yld _ _ l hg hl =>
              obtain rfl := hl ⟨_, hrec⟩
              obtain ⟨hsz, hround⟩ := hΦ.yl nm' F' hF G s.h s.c w g vs _ r (Stp.refl G s.h s.c w).toLater S.wrel S.env.gl L hrec hY
              have hb : w.heap[G.blk g]? = some (.loop (RecSt.ready.loop (G.lp g))) := by
                cases S.wrel.blk _ _ _ hrec with
                | lp _ hb => exact hb
              have e : cargs.map a.eval = ⟨cargs.toList.map a.eval⟩ := by cases cargs; simp
              have hrun : (execOp a.eval o).run P w = .ok (.round (G.blk g) (G.lp g).fn (((G.lp g).params.zip ⟨cargs.toList.map a.eval⟩).foldl (fun tmps (t, a) => tmps.setIfInBounds t a) (G.lp g).tmps) (G.lp g).assign (G.lp g).body) w := by
                simp only [execOp, hoo, resolve, hcv, Deferred.ofValue, Sem.run_bind, Sem.run_pure, Result.andThen_ok, invoke]
                have := run_yield (P := P) (args := cargs.map a.eval) hb (by rw [e]; exact hsz)
                rw [e] at this
                simpa [e, RecSt.loop] using this
              unfold Oper.wpIn
              refine ⟨fun f _ => hW.fn f, ?_⟩
              rw [Oper.semAt_eq _ _ _ hnd, hrun, Oper.uponIn_round]
              refine ⟨depth_F hW, (hround F (m - 1) hW).mono ?_⟩
              rintro e w' ⟨cv, G', rfl, St, W', R⟩
              exact fin cv w' G' St W' (.inl R)
          · cases hr
        · cases hr
      | _ => rw [hao] at hcall; simp [AOp.isCall] at hcall
    · obtain ⟨nx, w', G', h1, h2, h3, h4⟩ := op_ok S.wrel S.env hop (by simpa using hcall) hr
      refine operIn_F hW hnd ?_
      unfold Oper.wp
      rw [h1]
      rcases h4 with ⟨cv, rfl, hv⟩ | ⟨rfl, hdn⟩
      · rw [Oper.upon_value]; exact fin cv w' G' h2 h3 (.inl hv)
      · rw [Oper.upon_skip]; exact fin undef w' G' h2 h3 (.inr hdn)
  unfold wpOpIn
  rw [hi]
  simp only
  unfold evOper at he
  simp only at he
  split at hg
  · next g1 g2 =>
    rw [g2] at he
    rw [if_pos (by simp [Region.wanted, g1])]
    exact go he
  · next j want t want' g1 g2 =>
    simp only [Bool.and_eq_true, beq_iff_eq] at hg
    obtain ⟨rfl, hj⟩ := hg
    rw [g2] at he
    simp only at he
    have skip : Region.wanted o (yielded ops a.tmps) = false → (({ s with env := match ao.dst with | some d => envSet s.env d (.tup []) | none => s.env } : St) = s') → (if Region.wanted o (yielded ops a.tmps) = true then o.wpIn F m P a w K Q else (∀ f, o.about P w a.eval = some f → F.fn f) ∧ K (a.put o.dst undef) w) := by
      intro hw he
      rw [hw, if_neg (by simp)]
      subst he
      refine ⟨fun f _ => hW.fn f, ?_⟩
      refine hK _ _ G (Stp.refl _ _ _ _) ⟨S.wrel, ?_⟩
      rw [← hd]
      cases hdd : o.dst with
      | none => simpa [Act.put] using S.env
      | some d =>
        rw [hdd] at hdN
        simp only [decide_eq_true_eq] at hdN
        exact S.env.put (by rw [hN]; exact hdN) (.tup_mk .nil)
    have hgd : ∀ u, envGet s.env t = some u → t < a.tmps.size ∧ VRel G s.h s.c w u (a.tmps.getD t undef) ∧ ((ops[j]?).bind (·.dst)).bind (a.tmps[·]?) = some (a.tmps.getD t undef) := by
      intro u hu
      obtain ⟨ht1, ht2⟩ := S.env.tm t _ hu
      refine ⟨ht1, ht2, ?_⟩
      rw [hj]
      simp only [Option.bind_some]
      simp [Array.getD, ht1]
    split at he
    · next b hb =>
      obtain ⟨ht1, ht2⟩ := S.env.tm t _ hb
      have hy : yielded ops a.tmps j = some b := by
        unfold yielded
        have e1 : ((ops[j]?).bind (·.dst)).bind (a.tmps[·]?) = some (.bool b) := by
          rw [hj]
          simp only [Option.bind_some]
          have : a.tmps.getD t undef = .bool b := by
            generalize a.tmps.getD t undef = x at ht2
            cases ht2; rfl
          simp [Array.getD, ht1] at this
          simp [ht1, this]
        rw [e1]
      have hw : Region.wanted o (yielded ops a.tmps) = (b == want) := by
        simp only [Region.wanted, g1, hy]; cases b <;> cases want <;> rfl
      rw [hw]
      split at he
      · next hbw =>
        subst hbw
        rw [if_pos (by simp)]
        exact go he
      · next hbw =>
        rw [← hw]
        exact skip (by rw [hw]; simpa using hbw) (Option.some.inj he)
    · next hb =>
      obtain ⟨ht1, ht2, e1⟩ := hgd _ hb
      have hy : yielded ops a.tmps j = none := by
        unfold yielded
        rw [e1]
        generalize a.tmps.getD t undef = x at ht2
        cases ht2; rfl
      exact skip (by simp [Region.wanted, g1, hy]) (Option.some.inj he)
    · cases he
  · cases hg

theorem oper_okF {F : Fence} {m : Nat} (hW : FW F) (hΦ : PhiOK P Φ G s.h s.c w) {N ops} {o : Oper} {ao : AOper} {s'} (hf : operFit P N ops o ao = true) (hN : a.tmps.size = N) (S : SRel G s a w) (he : evOper Φ s ao = some s') {i : Nat} (hi : ops[i]? = some o) {K : Act → World → Prop} {Q : Exit → Act → World → Prop}
    (hK : ∀ a' w' G', a'.tmps.size = N → a'.defers = a.defers → Stp G G' s.h s'.h s.c s'.c w w' → SRel G' s' a' w' → K a' w') : wpOpIn F m P ops Q i K a w :=
  oper_putF hW hΦ hf hN S he hi (fun cv w' G' St S' => hK _ w' G' (by rw [put_size]; exact hN) (put_defers _ _ _) St S')
end
end Go.Abs

namespace Go.Abs
variable [Globs]
open Go

/-- the generations that a value names -/
inductive Refs (D : Nat → Nat → Prop) : AV → Prop
  | int (k n) : Refs D (.int k n)
  | bool (b) : Refs D (.bool b)
  | str (s) : Refs D (.str s)
  | nilS : Refs D .nilS
  | emp : Refs D .emp
  | nilP : Refs D .nilP
  | nilF : Refs D .nilF
  | nilM : Refs D .nilM
  | nilI : Refs D .nilI
  | ifc : Refs D .ifc
  | ro (t sz rows) : Refs D (.ro t sz rows)
  | rptr (cs) : Refs D (.rptr cs)
  | opq (k) : Refs D (.opq k)
  | own (nm g off len) (h : D nm g) : Refs D (.own nm g off len)
  | vsl (nm g off len) (h : D nm g) : Refs D (.vsl nm g off len)
  | ptr (nm g off) (h : D nm g) : Refs D (.ptr nm g off)
  | eptr (nm g i off) (h : D nm g) : Refs D (.eptr nm g i off)
  | yld (nm g) (h : D nm g) : Refs D (.yld nm g)
  | mp (nm g) (h : D nm g) : Refs D (.mp nm g)
  | agg (cs) (h : ∀ (j : Nat) v, cs[j]? = some v → Refs D v) : Refs D (.agg cs)
  | tup (cs) (h : ∀ (j : Nat) v, cs[j]? = some v → Refs D v) : Refs D (.tup cs)
  | fn (f cs) (h : ∀ (j : Nat) v, cs[j]? = some v → Refs D v) : Refs D (.fn f cs)
  | bm (f cs) (h : ∀ (j : Nat) v, cs[j]? = some v → Refs D v) : Refs D (.bm f cs)

theorem Refs.mono {D D' : Nat → Nat → Prop} (hd : ∀ nm g, D nm g → D' nm g) {v} (H : Refs D v) : Refs D' v := by
  induction H with
  | own nm g off len h => exact .own _ _ _ _ (hd _ _ h)
  | vsl nm g off len h => exact .vsl _ _ _ _ (hd _ _ h)
  | ptr nm g off h => exact .ptr _ _ _ (hd _ _ h)
  | eptr nm g i off h => exact .eptr _ _ _ _ (hd _ _ h)
  | yld nm g h => exact .yld _ _ (hd _ _ h)
  | mp nm g h => exact .mp _ _ (hd _ _ h)
  | agg cs h ih => exact .agg _ ih
  | tup cs h ih => exact .tup _ ih
  | fn f cs h ih => exact .fn _ _ ih
  | bm f cs h ih => exact .bm _ _ ih
  | int k n => exact .int k n
  | bool b => exact .bool b
  | str s => exact .str s
  | nilS => exact .nilS
  | emp => exact .emp
  | nilP => exact .nilP
  | nilF => exact .nilF
  | nilM => exact .nilM
  | nilI => exact .nilI
  | ifc => exact .ifc
  | ro t sz rows => exact .ro t sz rows
  | rptr cs => exact .rptr cs
  | opq k => exact .opq k

theorem VRel.refs {G h c w v cv} (H : VRel G h c w v cv) : Refs (fun _ g => g < c) v := by
  induction H with
  | int k n => exact .int k n
  | bool b => exact .bool b
  | str s => exact .str s
  | nilS => exact .nilS
  | emp a => exact .emp
  | nilP => exact .nilP
  | nilF => exact .nilF
  | nilM => exact .nilM
  | nilI => exact .nilI
  | ifc t v => exact .ifc
  | ro t sz rows a cap cv hc hr hp hcell hv ih => exact .ro ..
  | own nm g off len a cap hc hg hl => exact .own _ _ _ _ hg
  | vsl nm g off len a cap hc hg hl => exact .vsl _ _ _ _ hg
  | ptr nm g off a hg hl => exact .ptr _ _ _ hg
  | eptr nm g i off a hg hl => exact .eptr _ _ _ _ hg
  | yld nm g l hg hl => exact .yld _ _ hg
  | mp nm g r hg hl => exact .mp _ _ hg
  | rptr cells a cv hr hp hcell hv ih => exact .rptr _
  | agg cs vs cv hn hi hv ih => exact .agg _ ih
  | tup cs vs cv hn hi hv ih => exact .tup _ ih
  | fn f cs vs cv hn hi hv ih => exact .fn _ _ ih
  | bm f cs vs cv hn hi hv ih => exact .bm _ _ ih
  | opq k ho => exact .opq k

/-- from one ghost to another: at the generations of D they are one -/
structure LaterD (D : Nat → Nat → Prop) (G G' : Gh) (h h' : AH) (c' : Nat) (w w' : World) : Prop where
  gh : ∀ nm g, D nm g → G'.blk g = G.blk g ∧ G'.base g = G.base g ∧ G'.sz g = G.sz g ∧ G'.ln g = G.ln g ∧ G'.tot g = G.tot g
  r0 : ∀ b, G.R0 b → G'.R0 b
  r1 : ∀ b, G.R1 b → G'.R1 b
  opq : G'.opq = G.opq
  cc : ∀ nm g, D nm g → g < c'
  lv : ∀ nm g, D nm g → live h' nm g → live h nm g
  rw : ∀ b, G.R true b → w'.heap[b]? = w.heap[b]?
  lpf : ∀ nm g, D nm g → G'.lp g = G.lp g := by intros; rfl

theorem VRel.re {D G G' h h' c c' w w'} (L : LaterD D G G' h h' c' w w') {v cv} (H : VRel G h c w v cv) (R : Refs D v) : VRel G' h' c' w' v cv := by
  induction H with
  | int k n => exact .int k n
  | bool b => exact .bool b
  | str s => exact .str s
  | nilS => exact .nilS
  | emp a => exact .emp a
  | nilP => exact .nilP
  | nilF => exact .nilF
  | nilM => exact .nilM
  | nilI => exact .nilI
  | ifc t v => exact .ifc t v
  | ro t sz rows a cap cv hc hr hp hcell hv ih =>
    have hpl : ∀ (i j : Nat) row v, rows[i]? = some row → row[j]? = some v → v.plain = true := by
      intro i j row v h1 h2
      have := (hp row (List.mem_of_getElem? h1)).2
      rw [List.all_eq_true] at this
      exact this v (List.mem_of_getElem? h2)
    refine .ro t sz rows a cap cv hc (fun hne => ⟨Gh.R_mono L.r0 L.r1 (hr hne).1, (hr hne).2⟩) hp (fun i j row v h1 h2 => ?_)
      (fun i j row v h1 h2 => (hv i j row v h1 h2).ofPlain (fun b hb => ⟨L.r0 b hb, L.rw b (.inl hb)⟩) (hpl i j row v h1 h2))
    have hne : rows ≠ [] := by intro e; subst e; simp at h1
    exact (cell?_of_heap (a := ⟨a.block, _, none⟩) (L.rw _ (Gh.R_true (hr hne).1))).trans (hcell i j row v h1 h2)
  | own nm g off len a cap hc hg hl =>
    cases R with
    | own _ _ _ _ hd =>
      obtain ⟨e1, e2, e3, e4, e5⟩ := L.gh _ g hd
      refine .own nm g off len a cap hc (L.cc _ g hd) (fun hl' => ?_)
      rw [e1, e2, e3, e4, e5]
      exact hl (L.lv _ _ hd hl')
  | vsl nm g off len a cap hc hg hl =>
    cases R with
    | vsl _ _ _ _ hd =>
      obtain ⟨e1, e2, e3, e4, e5⟩ := L.gh _ g hd
      refine .vsl nm g off len a cap hc (L.cc _ g hd) (fun hl' => ?_)
      rw [e1, e4]
      exact hl (L.lv _ _ hd hl')
  | ptr nm g off a hg hl =>
    cases R with
    | ptr _ _ _ hd =>
      obtain ⟨e1, e2, e3, e4, e5⟩ := L.gh _ g hd
      refine .ptr nm g off a (L.cc _ g hd) (fun hl' => ?_)
      rw [e1]; exact hl (L.lv _ _ hd hl')
  | eptr nm g i off a hg hl =>
    cases R with
    | eptr _ _ _ _ hd =>
      obtain ⟨e1, e2, e3, e4, e5⟩ := L.gh _ g hd
      refine .eptr nm g i off a (L.cc _ g hd) (fun hl' => ?_)
      rw [e1, e2, e3]; exact hl (L.lv _ _ hd hl')
  | yld nm g l hg hl =>
    cases R with
    | yld _ _ hd =>
      obtain ⟨e1, e2, e3, e4, e5⟩ := L.gh _ g hd
      refine .yld nm g l (L.cc _ g hd) (fun hl' => ?_)
      rw [e1]; exact hl (L.lv _ _ hd hl')
  | mp nm g r hg hl =>
    cases R with
    | mp _ _ hd =>
      obtain ⟨e1, e2, e3, e4, e5⟩ := L.gh _ g hd
      refine .mp nm g r (L.cc _ g hd) (fun hl' => ?_)
      rw [e1]; exact hl (L.lv _ _ hd hl')
  | rptr cells a cv hr hp hcell hv ih =>
    have hpl : ∀ (j : Nat) v, cells[j]? = some v → v.plain = true := by
      intro j v h1
      rw [List.all_eq_true] at hp
      exact hp v (List.mem_of_getElem? h1)
    refine .rptr cells a cv (fun hne => ⟨Gh.R_mono L.r0 L.r1 (hr hne).1, (hr hne).2⟩) hp (fun j v h1 => ?_)
      (fun j v h1 => (hv j v h1).ofPlain (fun b hb => ⟨L.r0 b hb, L.rw b (.inl hb)⟩) (hpl j v h1))
    have hne : cells ≠ [] := by intro e; subst e; simp at h1
    exact (cell?_of_heap (a := ⟨a.block, _, none⟩) (L.rw _ (Gh.R_true (hr hne).1))).trans (hcell j v h1)
  | agg cs vs cv hn hi hv ih =>
    cases R with
    | agg _ hd => exact .agg cs vs cv hn hi (fun j v hj => ih j v hj (hd j v hj))
  | tup cs vs cv hn hi hv ih =>
    cases R with
    | tup _ hd => exact .tup cs vs cv hn hi (fun j v hj => ih j v hj (hd j v hj))
  | fn f cs vs cv hn hi hv ih =>
    cases R with
    | fn _ _ hd => exact .fn f cs vs cv hn hi (fun j v hj => ih j v hj (hd j v hj))
  | bm f cs vs cv hn hi hv ih =>
    cases R with
    | bm _ _ hd => exact .bm f cs vs cv hn hi (fun j v hj => ih j v hj (hd j v hj))
  | opq k ho => rw [← L.opq] at ho ⊢; exact .opq k ho

/-- the generations that a block names -/
def RefsB (D : Nat → Nat → Prop) : Blk → Prop
  | .var cells => ∀ (j : Nat) v, cells[j]? = some v → Refs D v
  | _ => True

theorem BRel.re {D G G' h h' c c' w w' nm g b} (L : LaterD D G G' h h' c' w w') (H : BRel G h c w g b) (hg : D nm g) (R : RefsB D b) (hb : w'.heap[G.blk g]? = w.heap[G.blk g]?) (hs : w.heap.size ≤ w'.heap.size)
    (hR0 : ∀ b, b < w.heap.size → G'.R0 b → G.R0 b ∨ b ≠ G.blk g) (hR1 : ∀ b, G'.R1 b → G.R1 b) : BRel G' h' c' w' g b := by
  obtain ⟨e1, e2, e3, e4, e5⟩ := L.gh _ g hg
  have lt : ∀ o : Obj, w.heap[G.blk g]? = some o → G.blk g < w.heap.size := fun o h => by
    rcases Nat.lt_or_ge (G.blk g) w.heap.size with x | x
    · exact x
    · rw [Array.getElem?_eq_none x] at h; cases h
  cases H with
  | gone hlt => exact .gone (by rw [e1]; omega)
  | lp st hb' hR =>
    refine .lp st (by rw [e1, hb, L.lpf _ g hg]; exact hb') ?_
    rw [e1]
    rintro (x | x)
    · exact (hR0 _ (lt _ hb') x).elim (fun y => hR (.inl y)) (fun y => y rfl)
    · exact hR (.inr (hR1 _ x))
  | mpb rows es clock hb' hR hk =>
    refine .mpb rows es clock (by rw [e1, hb]; exact hb') ?_ hk
    rw [e1]
    rintro (x | x)
    · exact (hR0 _ (lt _ hb') x).elim (fun y => hR (.inl y)) (fun y => y rfl)
    · exact hR (.inr (hR1 _ x))
  | var cells vs elem lo hi hb' hf ht hl hR hcb hc =>
    refine .var cells vs elem lo hi (by rw [e1, hb]; exact hb') hf (by rw [e5]; exact ht) (by rw [e4]; exact hl) ?_ hcb ⟨hc.1, fun j v hj => ?_⟩
    · rw [e1]
      rintro (x | x)
      · exact (hR0 _ (lt _ hb') x).elim (fun y => hR (.inl y)) (fun y => y rfl)
      · exact hR (.inr (hR1 _ x))
    · obtain ⟨v', x1, x2⟩ := hc.2 j v hj
      exact ⟨v', x1, x2.re L (R j v hj)⟩
  | arr sz rows fz vs elem lo hi hsz hb' hf ht hl hz hin hR hp hc =>
    refine .arr sz rows fz vs elem lo hi (by rw [e3]; exact hsz) (by rw [e1, hb]; exact hb') hf (by rw [e5]; exact ht) (by rw [e4]; exact hl) (by rw [e3]; exact hz) (by rw [e2, e3]; exact hin) ?_ (by rw [e3]; exact hp) (fun i j row v h1 h2 => ?_)
    · rw [e1]
      cases fz with
      | true => exact L.r0 _ hR
      | false =>
        simp only [Bool.false_eq_true, if_false] at hR ⊢
        rintro (x | x)
        · exact (hR0 _ (lt _ hb') x).elim (fun y => hR (.inl y)) (fun y => y rfl)
        · exact hR (.inr (hR1 _ x))
    · rw [e2, e3]
      obtain ⟨v', x1, x2⟩ := hc i j row v h1 h2
      refine ⟨v', x1, x2.ofPlain (fun b hb => ⟨L.r0 b hb, L.rw b (.inl hb)⟩) ?_⟩
      have := (hp row (List.mem_of_getElem? h1)).2
      rw [List.all_eq_true] at this
      exact this v (List.mem_of_getElem? h2)
end Go.Abs

namespace Go.Abs
variable [Globs]
open Go

/-- still operations leave the memory as it is -/
theorem evOp_still {Φ env h c o r} (hs : o.still = true) (he : evOp Φ env h c o = some r) : r.2.1 = h ∧ r.2.2 = c := by
  cases o <;> simp only [AOp.still, Bool.false_eq_true] at hs <;> simp only [evOp] at he
  all_goals
    repeat' first
      | (cases he; done)
      | (obtain rfl := Option.some.inj he; exact ⟨rfl, rfl⟩)
      | (rw [Option.bind_eq_some_iff] at he; obtain ⟨_, _, he⟩ := he)
      | (rw [Option.map_eq_some_iff] at he; obtain ⟨_, _, rfl⟩ := he; exact ⟨rfl, rfl⟩)
      | (split at he)

theorem evOper_still {Φ s o q} (hs : o.op.still = true) (he : evOper Φ s o = some q) : q.h = s.h := by
  unfold evOper at he
  simp only at he
  have key : ∀ {q}, (evOp Φ s.env s.h s.c o.op).map (fun r => ({ env := match o.dst with | some d => envSet s.env d r.1 | none => s.env, h := r.2.1, c := r.2.2 } : St)) = some q → q.h = s.h := by
    intro q hq
    rw [Option.map_eq_some_iff] at hq
    obtain ⟨r, hr, rfl⟩ := hq
    exact (evOp_still hs hr).1
  split at he
  · exact key he
  · split at he
    · split at he
      · exact key he
      · obtain rfl := Option.some.inj he; rfl
    · obtain rfl := Option.some.inj he; rfl
    · cases he

def AH.le (h H : AH) : Prop := ∀ nm g b, h.get nm g = some b → H.get nm g = some b
theorem cellsAt_mono {h H : AH} (hm : h.le H) {p cs} (he : cellsAt h p = some cs) : cellsAt H p = some cs := by
  unfold cellsAt at he ⊢
  split at he
  · split at he
    · next hg => rw [hm _ _ _ hg]; exact he
    · cases he
  · split at he
    · next hg => rw [hm _ _ _ hg]; exact he
    · cases he
  · exact he
  · cases he
theorem rowsOf_mono {h H : AH} (hm : h.le H) {sz v rows} (he : rowsOf h sz v = some rows) : rowsOf H sz v = some rows := by
  unfold rowsOf at he ⊢
  split at he <;> first | exact he | skip
  · split at he
    · next hg => rw [hm _ _ _ hg]; exact he
    · cases he
  · split at he
    · next hg => rw [hm _ _ _ hg]; exact he
    · cases he
theorem aslice_mono {h H : AH} (hm : h.le H) {sz x lo hi v} (he : aslice h sz x lo hi = some v) : aslice H sz x lo hi = some v := by
  unfold aslice at he ⊢
  split at he <;> first | exact he | skip
  · split at he
    · next hg => rw [hm _ _ _ hg]; exact he
    · cases he
  · split at he
    · next hg => rw [hm _ _ _ hg]; exact he
    · cases he
theorem evOp_mono {Φ env} {h H : AH} {c C : Nat} {op r} (hs : op.still = true) (hm : h.le H) (he : evOp Φ env h c op = some r) : evOp Φ env H C op = some (r.1, H, C) := by
  cases op <;> try (simp [AOp.still] at hs; done)
  case load n a =>
    simp only [evOp, Option.bind_eq_some_iff, Option.map_eq_some_iff] at he ⊢
    obtain ⟨p, hp, cs, hcs, v, hv, rfl⟩ := he
    exact ⟨p, hp, cs, cellsAt_mono hm hcs, v, hv, rfl⟩
  case b2s x =>
    simp only [evOp, Option.bind_eq_some_iff, Option.map_eq_some_iff] at he ⊢
    obtain ⟨p, hp, cs, hcs, v, hv, rfl⟩ := he
    exact ⟨p, hp, cs, rowsOf_mono hm hcs, v, hv, rfl⟩
  case slc sz x lo hi mx =>
    simp only [evOp, Option.bind_eq_some_iff] at he ⊢
    obtain ⟨v, hv, lo', hlo, hi', hhi, mx', hmx, he⟩ := he
    refine ⟨v, hv, lo', hlo, hi', hhi, mx', hmx, ?_⟩
    split at he
    · next _ =>
      simp only [Option.map_eq_some_iff] at he ⊢
      obtain ⟨u, hu, rfl⟩ := he
      exact ⟨u, aslice_mono hm hu, rfl⟩
    · next _ =>
      simp only [Option.map_eq_some_iff] at he ⊢
      obtain ⟨u, hu, rfl⟩ := he
      exact ⟨u, hu, rfl⟩
  case slca n x lo hi =>
    simp only [evOp, Option.bind_eq_some_iff] at he ⊢
    obtain ⟨v, hv, lo', hlo, hi', hhi, he⟩ := he
    refine ⟨v, hv, lo', hlo, hi', hhi, ?_⟩
    split at he
    · next nm g off =>
      split at he
      · next cs hg =>
        rw [hm _ _ _ hg]
        simp only
        split at he
        · next e =>
          rw [if_pos e]
          simp only [Option.map_eq_some_iff] at he ⊢
          obtain ⟨u, hu, rfl⟩ := he
          exact ⟨u, aslice_mono hm hu, rfl⟩
        · cases he
      · cases he
    · cases he
  case mget nk z x k =>
    simp only [evOp, Option.bind_eq_some_iff] at he ⊢
    obtain ⟨v, hv, u, hu, he⟩ := he
    refine ⟨v, hv, u, hu, ?_⟩
    split at he
    · split at he
      · next hg =>
        rw [hm _ _ _ hg]
        simp only
        split at he
        · next e =>
          rw [if_pos e]
          simp only [Option.map_eq_some_iff] at he ⊢
          obtain ⟨u, hu, rfl⟩ := he
          exact ⟨u, hu, rfl⟩
        · cases he
      · cases he
    · cases he
  case iad sz x i =>
    simp only [evOp, Option.bind_eq_some_iff] at he ⊢
    obtain ⟨v, hv, i', hi, he⟩ := he
    refine ⟨v, hv, i', hi, ?_⟩
    split at he
    · next k hk =>
      split at he
      · next t s rows =>
        split at he
        · next e =>
          rw [if_pos e]
          simp only [Option.map_eq_some_iff] at he ⊢
          obtain ⟨u, hu, rfl⟩ := he
          exact ⟨u, hu, rfl⟩
        · cases he
      · next nm g off len =>
        split at he
        · next s rows fz hg =>
          rw [hm _ _ _ hg]
          simp only
          split at he
          · next e => rw [if_pos e]; obtain rfl := Option.some.inj he; rfl
          · cases he
        · cases he
      · next nm g off len =>
        split at he
        · next e => simp only [if_pos e]; obtain rfl := Option.some.inj he; rfl
        · cases he
      · cases he
    · cases he
  case eqa neg ks x y =>
    simp only [evOp, Option.bind_eq_some_iff] at he ⊢
    obtain ⟨a, ha, b, hb, he⟩ := he
    refine ⟨a, ha, b, hb, ?_⟩
    split at he
    · next a b =>
      split at he
      · next e =>
        rw [if_pos e]
        rw [Option.map_eq_some_iff] at he ⊢
        obtain ⟨u, hu, rfl⟩ := he
        exact ⟨u, hu, rfl⟩
      · cases he
    · cases he
  case slcS x lo hi =>
    simp only [evOp, Option.bind_eq_some_iff] at he ⊢
    obtain ⟨v, hv, lo', hlo, hi', hhi, he⟩ := he
    refine ⟨v, hv, lo', hlo, hi', hhi, ?_⟩
    split at he
    · simp only [Option.bind_eq_some_iff, Option.map_eq_some_iff] at he ⊢
      obtain ⟨u, hu, y, hy, rfl⟩ := he
      exact ⟨u, hu, y, hy, rfl⟩
    · cases he
  case idx len sz n x i =>
    simp only [evOp, Option.bind_eq_some_iff] at he ⊢
    obtain ⟨v, hv, i', hi, he⟩ := he
    refine ⟨v, hv, i', hi, ?_⟩
    split at he
    · split at he
      · next e =>
        rw [if_pos e]
        split at he
        · simp only [Option.map_eq_some_iff] at he ⊢
          obtain ⟨u, hu, rfl⟩ := he
          exact ⟨u, hu, rfl⟩
        · cases he
      · cases he
    · cases he
  all_goals
    simp only [evOp, Option.bind_eq_some_iff, Option.map_eq_some_iff] at he ⊢
    repeat' (first
      | (obtain ⟨_, h0, he⟩ := he; refine ⟨_, h0, ?_⟩)
      | (split at he))
    all_goals first
      | (cases he; done)
      | (rw [Option.map_eq_some_iff] at he ⊢; obtain ⟨u, hu, rfl⟩ := he; exact ⟨u, hu, rfl⟩)
      | (simp_all [Option.map_eq_some_iff]; obtain ⟨u, hu, rfl⟩ := he; exact ⟨u, hu, rfl⟩)
      | (subst he; simp_all; done)
      | (obtain rfl := Option.some.inj he; simp_all; done)
      | skip

theorem evOper_mono {Φ} {s q : St} {o : AOper} {H : AH} {C : Nat} (hs : o.op.still = true) (hm : s.h.le H) (he : evOper Φ s o = some q) : evOper Φ ⟨s.env, H, C⟩ o = some ⟨q.env, H, C⟩ ∧ q.h = s.h ∧ q.c = s.c := by
  unfold evOper at he ⊢
  simp only at he ⊢
  have key : ∀ {q}, (evOp Φ s.env s.h s.c o.op).map (fun r => ({ env := match o.dst with | some d => envSet s.env d r.1 | none => s.env, h := r.2.1, c := r.2.2 } : St)) = some q →
      (evOp Φ s.env H C o.op).map (fun r => ({ env := match o.dst with | some d => envSet s.env d r.1 | none => s.env, h := r.2.1, c := r.2.2 } : St)) = some ⟨q.env, H, C⟩ ∧ q.h = s.h ∧ q.c = s.c := by
    intro q hq
    rw [Option.map_eq_some_iff] at hq
    obtain ⟨r, hr, rfl⟩ := hq
    rw [evOp_mono (C := C) hs hm hr]
    exact ⟨rfl, evOp_still hs hr⟩
  split at he
  · exact key he
  · split at he
    · split at he
      · next e => simp only [if_pos e]; exact key he
      · next e => simp only [if_neg e]; obtain rfl := Option.some.inj he; exact ⟨rfl, rfl, rfl⟩
    · obtain rfl := Option.some.inj he; exact ⟨rfl, rfl, rfl⟩
    · cases he

mutual
theorem AV.same_eq : ∀ {v u : AV}, v.same u = true → v = u
  | .int .., u, h => by cases u <;> simp_all [AV.same]
  | .bool .., u, h => by cases u <;> simp_all [AV.same]
  | .str ⟨⟨s⟩⟩, u, h => by
    cases u with
    | str t => cases t with | mk t => cases t with | mk t => simp [AV.same] at h; rw [h]
    | _ => simp [AV.same] at h
  | .agg cs, u, h => by
    cases u with
    | agg ds => simp only [AV.same] at h; rw [sameL_eq h]
    | _ => simp [AV.same] at h
  | .tup cs, u, h => by
    cases u with
    | tup ds => simp only [AV.same] at h; rw [sameL_eq h]
    | _ => simp [AV.same] at h
  | .nilS, u, h => by cases u <;> simp_all [AV.same]
  | .emp, u, h => by cases u <;> simp_all [AV.same]
  | .nilP, u, h => by cases u <;> simp_all [AV.same]
  | .nilF, u, h => by cases u <;> simp_all [AV.same]
  | .nilM, u, h => by cases u <;> simp_all [AV.same]
  | .nilI, u, h => by cases u <;> simp_all [AV.same]
  | .ifc, u, h => by cases u <;> simp_all [AV.same]
  | .ro t sz rows, u, h => by
    cases u with
    | ro t' sz' rows' =>
      simp only [AV.same, Bool.and_eq_true, beq_iff_eq] at h
      obtain ⟨⟨rfl, rfl⟩, h⟩ := h
      rw [sameLL_eq h]
    | _ => simp [AV.same] at h
  | .own .., u, h => by cases u <;> simp_all [AV.same]
  | .vsl .., u, h => by cases u <;> simp_all [AV.same]
  | .ptr .., u, h => by cases u <;> simp_all [AV.same]
  | .eptr .., u, h => by cases u <;> simp_all [AV.same]
  | .rptr cs, u, h => by
    cases u with
    | rptr ds => simp only [AV.same] at h; rw [sameL_eq h]
    | _ => simp [AV.same] at h
  | .fn f cs, u, h => by
    cases u with
    | fn g ds =>
      simp only [AV.same, Bool.and_eq_true, beq_iff_eq] at h
      rw [h.1, sameL_eq h.2]
    | _ => simp [AV.same] at h
  | .bm f cs, u, h => by
    cases u with
    | bm g ds =>
      simp only [AV.same, Bool.and_eq_true, beq_iff_eq] at h
      rw [h.1, sameL_eq h.2]
    | _ => simp [AV.same] at h
  | .fr t rows, u, h => by
    cases u with
    | fr t' rows' =>
      simp only [AV.same, Bool.and_eq_true, beq_iff_eq] at h
      rw [h.1, sameLL_eq h.2]
    | _ => simp [AV.same] at h
  | .pv cs, u, h => by
    cases u with
    | pv ds => simp only [AV.same] at h; rw [sameL_eq h]
    | _ => simp [AV.same] at h
  | .opq k, u, h => by cases u <;> simp_all [AV.same]
  | .yld .., u, h => by cases u <;> simp_all [AV.same]
  | .mp .., u, h => by cases u <;> simp_all [AV.same]
theorem sameL_eq : ∀ {l m : List AV}, sameL l m = true → l = m
  | [], m, h => by cases m <;> simp_all [sameL]
  | v :: r, m, h => by
    cases m with
    | nil => simp [sameL] at h
    | cons u q => simp only [sameL, Bool.and_eq_true] at h; rw [AV.same_eq h.1, sameL_eq h.2]
theorem sameLL_eq : ∀ {l m : List (List AV)}, sameLL l m = true → l = m
  | [], m, h => by cases m <;> simp_all [sameLL]
  | v :: r, m, h => by
    cases m with
    | nil => simp [sameLL] at h
    | cons u q => simp only [sameLL, Bool.and_eq_true] at h; rw [sameL_eq h.1, sameLL_eq h.2]
end
theorem Blk.same_eq {b d : Blk} (h : b.same d = true) : b = d := by
  cases b with
  | var cs =>
    cases d with
    | var ds => simp only [Blk.same] at h; rw [sameL_eq h]
    | _ => simp [Blk.same] at h
  | arr sz rows fz =>
    cases d with
    | arr sz' rows' fz' =>
      simp only [Blk.same, Bool.and_eq_true, beq_iff_eq] at h
      rw [h.1.1, sameLL_eq h.1.2, h.2]
    | _ => simp [Blk.same] at h
  | gone => cases d <;> simp_all [Blk.same]
  | lp st => cases d <;> simp_all [Blk.same]
  | mpb rows =>
    cases d with
    | mpb rows' => simp only [Blk.same] at h; rw [sameLL_eq h]
    | _ => simp [Blk.same] at h
theorem AH.same_eq : ∀ {h k : AH}, AH.same h k = true → h = k
  | [], k, x => by cases k <;> simp_all [AH.same]
  | e :: r, k, x => by
    cases k with
    | nil => simp [AH.same] at x
    | cons f q =>
      simp only [AH.same, Bool.and_eq_true, beq_iff_eq] at x
      obtain ⟨⟨⟨h1, h2⟩, h3⟩, h4⟩ := x
      rw [AH.same_eq h4]
      have := Blk.same_eq h3
      cases e; cases f; simp_all

/-- what an operation of a drawn region does, in parts -/
structure StepD (Φ : Nat → Option FnF) (al : List (Nat × Nat)) (s : St) (o : AOper) (q s' : St) : Prop where
  ev : evOper Φ ⟨envOnly o.rs s.env, s.h.only o.tn, s.c⟩ o = some q
  cc : s.c ≤ q.c
  ro : q.h.hide o.wn = (s.h.only o.tn).hide o.wn
  c : s'.c = q.c
  kind : (o.op.still = true ∧ o.wn = [] ∧ s'.h = s.h ∧ q.h = s.h.only o.tn ∧ q.c = s.c) ∨ (o.op.still = false ∧ lowH o.tn ((s.c, q.c) :: al) q.h = true ∧ s'.h = q.h.join (s.h.hide o.tn) ∧
    ∀ d v, o.dst = some d → envGet q.env d = some v → v.low o.tn ((s.c, q.c) :: al) = true)
  env : (o.dst = none ∧ s'.env = s.env) ∨ ∃ d v, o.dst = some d ∧ envGet q.env d = some v ∧ v.low (o.tn ++ o.mn) ((s.c, q.c) :: al) = true ∧ s'.env = envSet s.env d v

theorem low1_more {ns ms al} {v : AV} (h : v.low1 ns al = true) : v.low1 (ns ++ ms) al = true := by
  unfold AV.low1 at h ⊢
  split <;> simp_all
  all_goals try (rcases h.2 with ⟨x, hx, e⟩; exact .inl ⟨x, hx, e⟩)
theorem lowL_more {ns ms al} : ∀ {cs : List AV}, lowL ns al cs = true → lowL (ns ++ ms) al cs = true
  | [], _ => rfl
  | v :: r, h => by
    simp only [lowL, Bool.and_eq_true] at h ⊢
    exact ⟨low1_more h.1, lowL_more h.2⟩
theorem low2_more {ns ms al} {v : AV} (h : v.low2 ns al = true) : v.low2 (ns ++ ms) al = true := by
  cases v with
  | agg cs => exact lowL_more (ns := ns) (ms := ms) (al := al) (cs := cs) h
  | fn f cs => exact lowL_more (ns := ns) (ms := ms) (al := al) (cs := cs) h
  | bm f cs => exact lowL_more (ns := ns) (ms := ms) (al := al) (cs := cs) h
  | int k n => exact low1_more (ns := ns) (ms := ms) (al := al) (v := .int k n) h
  | bool b => exact low1_more (ns := ns) (ms := ms) (al := al) (v := .bool b) h
  | str s => exact low1_more (ns := ns) (ms := ms) (al := al) (v := .str s) h
  | tup cs => exact low1_more (ns := ns) (ms := ms) (al := al) (v := .tup cs) h
  | nilS => rfl
  | emp => rfl
  | nilP => rfl
  | nilF => rfl
  | nilM => rfl
  | nilI => rfl
  | ifc => rfl
  | ro a b c => rfl
  | own a b c d => exact low1_more (ns := ns) (ms := ms) (al := al) (v := .own a b c d) h
  | vsl a b c d => exact low1_more (ns := ns) (ms := ms) (al := al) (v := .vsl a b c d) h
  | ptr a b c => exact low1_more (ns := ns) (ms := ms) (al := al) (v := .ptr a b c) h
  | eptr a b c d => exact low1_more (ns := ns) (ms := ms) (al := al) (v := .eptr a b c d) h
  | rptr cs => rfl
  | fr a b => exact low1_more (ns := ns) (ms := ms) (al := al) (v := .fr a b) h
  | pv cs => exact low1_more (ns := ns) (ms := ms) (al := al) (v := .pv cs) h
  | opq k => rfl
  | yld a b => exact low1_more (ns := ns) (ms := ms) (al := al) (v := .yld a b) h
  | mp a b => exact low1_more (ns := ns) (ms := ms) (al := al) (v := .mp a b) h
theorem lowL2_more {ns ms al} : ∀ {cs : List AV}, lowL2 ns al cs = true → lowL2 (ns ++ ms) al cs = true
  | [], _ => rfl
  | v :: r, h => by
    simp only [lowL2, Bool.and_eq_true] at h ⊢
    exact ⟨low2_more h.1, lowL2_more h.2⟩
theorem low_more {ns ms al} {v : AV} (h : v.low ns al = true) : v.low (ns ++ ms) al = true := by
  unfold AV.low at h ⊢
  split at h
  · exact lowL2_more h
  · exact low2_more h

theorem evOperD_spec {Φ c0 ivs s o s'} (h : evOperD Φ c0 ivs s o = some s') : ∃ q, StepD Φ (allowed c0 ivs o.an) s o q s' := by
  unfold evOperD at h
  split at h
  · next hst =>
    rw [Option.bind_eq_some_iff] at h
    obtain ⟨q, hq, h⟩ := h
    obtain ⟨_, eh, ec⟩ := evOper_mono (H := s.h.only o.tn) (C := s.c) hst (fun _ _ _ x => x) hq
    simp only at eh ec
    split at h
    · next hw =>
      have hw' : o.wn = [] := List.isEmpty_iff.1 hw
      split at h
      · next d hd =>
        rw [Option.bind_eq_some_iff] at h
        obtain ⟨v, hv, h⟩ := h
        split at h
        · next hl =>
          obtain rfl := Option.some.inj h
          exact ⟨q, hq, by rw [ec]; exact Nat.le_refl _, by rw [eh], ec.symm, .inl ⟨hst, hw', rfl, eh, ec⟩, .inr ⟨d, v, hd, hv, hl, rfl⟩⟩
        · cases h
      · next hd =>
        obtain rfl := Option.some.inj h
        exact ⟨q, hq, by rw [ec]; exact Nat.le_refl _, by rw [eh], ec.symm, .inl ⟨hst, hw', rfl, eh, ec⟩, .inl ⟨hd, rfl⟩⟩
    · cases h
  next hst =>
  have hst' : o.op.still = false := by simpa using hst
  rw [Option.bind_eq_some_iff] at h
  obtain ⟨q, hq, h⟩ := h
  split at h
  · next hc =>
    rw [Bool.and_eq_true, Nat.ble_eq] at hc
    split at h
    · next hro0 =>
      have hro : q.h.hide o.wn = (s.h.only o.tn).hide o.wn := AH.same_eq hro0
      split at h
      · next d hd =>
        rw [Option.bind_eq_some_iff] at h
        obtain ⟨v, hv, h⟩ := h
        split at h
        · next hl =>
          obtain rfl := Option.some.inj h
          refine ⟨q, hq, hc.1, hro, rfl, .inr ⟨hst', hc.2, rfl, fun d' v' h1 h2 => ?_⟩, .inr ⟨d, v, hd, hv, low_more hl, rfl⟩⟩
          rw [hd] at h1
          obtain rfl := Option.some.inj h1
          rw [hv] at h2
          obtain rfl := Option.some.inj h2
          exact hl
        · cases h
      · next hd =>
        obtain rfl := Option.some.inj h
        exact ⟨q, hq, hc.1, hro, rfl, .inr ⟨hst', hc.2, rfl, fun d' v' h1 _ => by rw [hd] at h1; cases h1⟩, .inl ⟨hd, rfl⟩⟩
    · cases h
  · cases h

theorem lowH_names {ns al} : ∀ {h : AH}, lowH ns al h = true → ∀ {nm g b}, h.get nm g = some b → nm ∈ ns
  | [], _, _, _, _, x => by simp [AH.get] at x
  | e :: r, hn, nm, g, b, x => by
    simp only [lowH, Bool.and_eq_true, List.any_eq_true] at hn
    obtain ⟨⟨⟨⟨k, hk, he⟩, _⟩, _⟩, hr⟩ := hn
    unfold AH.get at x
    split at x
    · next h1 => rw [Nat.beq_eq] at he h1; rw [← h1, he]; exact hk
    · exact lowH_names hr x

theorem get_join : ∀ (a b : AH) (nm g : Nat), (a.join b).get nm g = if nm ∈ a.map Ent.nm then a.get nm g else b.get nm g
  | [], b, nm, g => by simp [AH.join]
  | e :: r, b, nm, g => by
    unfold AH.join
    rw [get_put, get_join r b]
    by_cases h : nm = e.nm
    · subst h
      simp only [if_true, List.map_cons, List.mem_cons, true_or, AH.get, Nat.beq_eq]
      by_cases hg : e.g = g
      · rw [if_pos hg.symm, if_pos hg]
      · rw [if_neg (fun x => hg x.symm), if_neg hg]
    · rw [if_neg h]
      have h2 : ¬ e.nm = nm := fun x => h x.symm
      have e1 : AH.get (e :: r) nm g = AH.get r nm g := by simp only [AH.get, Nat.beq_eq, h2, if_false]
      rw [e1]
      simp only [List.map_cons, List.mem_cons, h, false_or]

theorem get_notin : ∀ {a : AH} {nm : Nat}, nm ∉ a.map Ent.nm → ∀ g, a.get nm g = none
  | [], _, _, _ => rfl
  | e :: r, nm, h, g => by
    simp only [List.map_cons, List.mem_cons, not_or] at h
    unfold AH.get
    rw [if_neg (by rw [Nat.beq_eq]; exact fun x => h.1 x.symm)]
    exact get_notin h.2 g

/-- two heaps with different names, seen through get alone -/
theorem get_join_low {ns al} {q h : AH} (hl : lowH ns al q = true) (nm g : Nat) : (q.join (h.hide ns)).get nm g = if nm ∈ ns then q.get nm g else h.get nm g := by
  rw [get_join, get_hide]
  by_cases hn : nm ∈ ns
  · rw [if_pos hn, if_pos hn]
    split
    · rfl
    · next x => rw [get_notin x]
  · rw [if_neg hn, if_neg hn]
    have : nm ∉ q.map Ent.nm := by
      intro hm
      obtain ⟨e, he, rfl⟩ := List.mem_map.1 hm
      have : ∀ (l : AH), lowH ns al l = true → e ∈ l → e.nm ∈ ns := by
        intro l
        induction l with
        | nil => intro _ x; cases x
        | cons f r ih =>
          intro hl x
          simp only [lowH, Bool.and_eq_true, List.any_eq_true] at hl
          obtain ⟨⟨⟨⟨k, hk, hb⟩, _⟩, _⟩, hr⟩ := hl
          rcases List.mem_cons.1 x with rfl | x
          · rw [Nat.beq_eq] at hb; rw [hb]; exact hk
          · exact ih hr x
      exact hn (this _ hl he)
    rw [if_neg this]

theorem StepD.get {Φ al s o q s'} (D : StepD Φ al s o q s') (nm g : Nat) : s'.h.get nm g = if nm ∈ o.tn then q.h.get nm g else s.h.get nm g := by
  rcases D.kind with ⟨_, _, h1, h2, _⟩ | ⟨_, h1, h2, _⟩
  · rw [h1, h2, get_only]
    split <;> rfl
  · rw [h2, get_join_low h1]

theorem StepD.same {Φ al s o q s'} (D : StepD Φ al s o q s') {nm : Nat} (ht : nm ∈ o.tn) (hw : nm ∉ o.wn) (g : Nat) : q.h.get nm g = s.h.get nm g := by
  have := congrArg (fun h => AH.get h nm g) D.ro
  simp only [get_hide, if_neg hw, get_only, if_pos ht] at this
  exact this

/-- the names that an operation changes -/
def AOper.wr (o : AOper) (nm : Nat) : Prop := nm ∈ o.tn ∧ nm ∈ o.wn

theorem StepD.get_wr {Φ al s o q s'} (D : StepD Φ al s o q s') {nm : Nat} (h : ¬ o.wr nm) (g : Nat) : s'.h.get nm g = s.h.get nm g := by
  rw [D.get]
  by_cases ht : nm ∈ o.tn
  · rw [if_pos ht]; exact D.same ht (fun x => h ⟨ht, x⟩) g
  · rw [if_neg ht]

theorem StepD.env_get {Φ al s o q s'} (D : StepD Φ al s o q s') {t : Nat} (h : o.dst ≠ some t) : envGet s'.env t = envGet s.env t := by
  rcases D.env with ⟨_, e⟩ | ⟨d, v, hd, _, _, e⟩
  · rw [e]
  · rw [e, envGet_set, if_neg (fun x => h (by rw [hd, x]))]
end Go.Abs

namespace Go.Abs
variable [Globs]
open Go

def InIv (al : List (Nat × Nat)) (g : Nat) : Prop := ∃ p ∈ al, p.1 ≤ g ∧ g < p.2
theorem genIn_spec {al g} (h : genIn al g = true) : InIv al g := by
  simp only [genIn, List.any_eq_true, Bool.and_eq_true, Nat.ble_eq, Nat.blt_eq] at h
  obtain ⟨p, hp, h⟩ := h
  exact ⟨p, hp, h⟩
def InN (ns : List Nat) (al : List (Nat × Nat)) (nm g : Nat) : Prop := nm ∈ ns ∧ InIv al g
theorem ref_spec {ns : List Nat} {al g nm} (h : (genIn al g && ns.any (Nat.beq nm)) = true) : InN ns al nm g := by
  rw [Bool.and_eq_true, any_beq] at h
  exact ⟨h.2, genIn_spec h.1⟩

theorem low1_refs {ns al} {v : AV} (h : v.low1 ns al = true) : Refs (InN ns al) v := by
  cases v with
  | own nm g off len => exact .own _ _ _ _ (ref_spec h)
  | vsl nm g off len => exact .vsl _ _ _ _ (ref_spec h)
  | ptr nm g off => exact .ptr _ _ _ (ref_spec h)
  | eptr nm g i off => exact .eptr _ _ _ _ (ref_spec h)
  | yld nm g => exact .yld _ _ (ref_spec h)
  | mp nm g => exact .mp _ _ (ref_spec h)
  | agg cs => simp [AV.low1] at h
  | tup cs => simp [AV.low1] at h
  | fr z rows => simp [AV.low1] at h
  | pv cs => simp [AV.low1] at h
  | fn f cs =>
    cases cs with
    | nil => exact .fn _ _ (fun j v hj => by simp at hj)
    | cons => simp [AV.low1] at h
  | bm f cs =>
    cases cs with
    | nil => exact .bm _ _ (fun j v hj => by simp at hj)
    | cons => simp [AV.low1] at h
  | int k n => exact .int k n
  | bool b => exact .bool b
  | str s => exact .str s
  | nilS => exact .nilS
  | emp => exact .emp
  | nilP => exact .nilP
  | nilF => exact .nilF
  | nilM => exact .nilM
  | nilI => exact .nilI
  | ifc => exact .ifc
  | ro t sz rows => exact .ro t sz rows
  | rptr cs => exact .rptr cs
  | opq k => exact .opq k
theorem lowL_refs {ns al} : ∀ {cs : List AV}, lowL ns al cs = true → ∀ (j : Nat) v, cs[j]? = some v → Refs (InN ns al) v
  | [], _, j, v, hj => by simp at hj
  | u :: r, h, j, v, hj => by
    simp only [lowL, Bool.and_eq_true] at h
    cases j with
    | zero => simp only [List.getElem?_cons_zero, Option.some.injEq] at hj; subst hj; exact low1_refs h.1
    | succ j => rw [List.getElem?_cons_succ] at hj; exact lowL_refs h.2 j v hj
theorem low2_refs {ns al} {v : AV} (h : v.low2 ns al = true) : Refs (InN ns al) v := by
  unfold AV.low2 at h
  split at h
  · exact .agg _ (lowL_refs h)
  · exact .fn _ _ (lowL_refs h)
  · exact .bm _ _ (lowL_refs h)
  · exact low1_refs h
theorem lowL2_refs {ns al} : ∀ {cs : List AV}, lowL2 ns al cs = true → ∀ (j : Nat) v, cs[j]? = some v → Refs (InN ns al) v
  | [], _, j, v, hj => by simp at hj
  | u :: r, h, j, v, hj => by
    simp only [lowL2, Bool.and_eq_true] at h
    cases j with
    | zero => simp only [List.getElem?_cons_zero, Option.some.injEq] at hj; subst hj; exact low2_refs h.1
    | succ j => rw [List.getElem?_cons_succ] at hj; exact lowL2_refs h.2 j v hj
theorem low_refs {ns al} {v : AV} (h : v.low ns al = true) : Refs (InN ns al) v := by
  unfold AV.low at h
  split at h
  · exact .tup _ (lowL2_refs h)
  · exact low2_refs h
theorem lowH_refs {ns al} : ∀ {h : AH}, lowH ns al h = true → ∀ {nm g b}, h.get nm g = some b → InN ns al nm g ∧ RefsB (InN ns al) b
  | [], _, nm, g, b, hb => by simp [AH.get] at hb
  | e :: r, h, nm, g, b, hb => by
    simp only [lowH, Bool.and_eq_true] at h
    unfold AH.get at hb
    split at hb
    · next hn =>
      rw [Nat.beq_eq] at hn
      subst hn
      split at hb
      · next hg =>
        rw [Nat.beq_eq] at hg
        subst hg
        obtain rfl := Option.some.inj hb
        refine ⟨⟨(any_beq _ _).1 h.1.1.1, genIn_spec h.1.1.2⟩, ?_⟩
        have h2 := h.1.2
        cases hbb : e.b with
        | var cells => rw [hbb] at h2; exact lowL_refs h2
        | arr => trivial
        | gone => trivial
        | lp => trivial
        | mpb => trivial
      · cases hb
    · exact lowH_refs h.2 hb

theorem RefsB.mono {D D' : Nat → Nat → Prop} (hd : ∀ nm g, D nm g → D' nm g) {b} (H : RefsB D b) : RefsB D' b := by
  cases b with
  | var cells => exact fun j v hj => (H j v hj).mono hd
  | arr => trivial
  | gone => trivial
  | lp => trivial
  | mpb => trivial

theorem BRel.refs {G h c w g b} (H : BRel G h c w g b) : RefsB (fun _ g => g < c) b := by
  cases H with
  | gone => trivial
  | arr => trivial
  | lp => trivial
  | mpb => trivial
  | var cells vs elem lo hi hb hf ht hl hR hcb hc =>
    intro j v hj
    obtain ⟨v', _, x⟩ := hc.2 j v hj
    exact x.refs
end Go.Abs

namespace Go.Abs
variable [Globs]
open Go

theorem evRegD_tr {Φ c0 s'} : ∀ (aos : List AOper) (ivs : List (Nat × Nat)) (s : St), evRegD Φ c0 ivs s aos = some s' →
    ∃ st : Nat → St, st 0 = s ∧ st aos.length = s' ∧ ∀ i o, aos[i]? = some o → ∃ q, StepD Φ (allowed c0 (ivs ++ (List.range i).map fun j => ((st j).c, (st (j + 1)).c)) o.an) (st i) o q (st (i + 1))
  | [], ivs, s, h => by
    simp only [evRegD, Option.some.injEq] at h
    exact ⟨fun _ => s, rfl, h, fun i o x => by simp at x⟩
  | o :: r, ivs, s, h => by
    simp only [evRegD, Option.bind_eq_some_iff] at h
    obtain ⟨s1, h1, h2⟩ := h
    obtain ⟨st, e0, e1, e2⟩ := evRegD_tr r _ s1 h2
    refine ⟨fun i => match i with | 0 => s | i + 1 => st i, rfl, e1, fun i o' hi => ?_⟩
    cases i with
    | zero =>
      simp only [List.getElem?_cons_zero, Option.some.injEq] at hi
      subst hi
      simp only [List.range_zero, List.map_nil, List.append_nil, e0]
      exact evOperD_spec h1
    | succ i =>
      simp only [List.getElem?_cons_succ] at hi
      obtain ⟨q, hq⟩ := e2 i o' hi
      refine ⟨q, ?_⟩
      have : ivs ++ (List.range (i + 1)).map (fun j => ((match j with | 0 => s | i + 1 => st i : St).c, (st j).c)) = ivs ++ [(s.c, s1.c)] ++ (List.range i).map (fun j => ((st j).c, (st (j + 1)).c)) := by
        rw [List.range_succ_eq_map, List.map_cons, List.map_map, List.append_assoc, ← e0]
        rfl
      simp only [this]
      exact hq

/-- the rows of states that a region that draws goes through in the text's order -/
structure Tr (Φ : Nat → Option FnF) (aos : List AOper) (st : Nat → St) : Prop where
  step : ∀ i o, aos[i]? = some o → ∃ q, StepD Φ (allowed (st 0).c ((List.range i).map fun j => ((st j).c, (st (j + 1)).c)) o.an) (st i) o q (st (i + 1))

theorem allowed_spec {c0 : Nat} {f : Nat → Nat × Nat} {i : Nat} {an : List Nat} {g : Nat} (h : InIv (allowed c0 ((List.range i).map f) an) g) :
    g < c0 ∨ ∃ j, j ∈ an ∧ j < i ∧ (f j).1 ≤ g ∧ g < (f j).2 := by
  obtain ⟨p, hp, h1, h2⟩ := h
  simp only [allowed, List.mem_cons, List.mem_filterMap] at hp
  rcases hp with rfl | ⟨j, hj, hp⟩
  · exact .inl h2
  · simp only [List.getElem?_map, Option.map_eq_some_iff] at hp
    obtain ⟨k, hk, rfl⟩ := hp
    rw [List.getElem?_eq_some_iff] at hk
    obtain ⟨hlt, hk⟩ := hk
    simp only [List.getElem_range] at hk
    subst hk
    simp only [List.length_range] at hlt
    exact .inr ⟨j, hj, hlt, h1, h2⟩

section
variable {Φ : Nat → Option FnF} {aos : List AOper} {st : Nat → St}

theorem Tr.mono1 (T : Tr Φ aos st) {i} (h : i < aos.length) : (st i).c ≤ (st (i + 1)).c := by
  obtain ⟨q, hq⟩ := T.step i _ (List.getElem?_eq_getElem h)
  rw [hq.c]; exact hq.cc
theorem Tr.mono (T : Tr Φ aos st) : ∀ {k i}, i ≤ k → k ≤ aos.length → (st i).c ≤ (st k).c
  | 0, i, h, _ => by obtain rfl : i = 0 := by omega
                     exact Nat.le_refl _
  | k + 1, i, h, hk => by
    rcases Nat.lt_or_ge k i with x | x
    · obtain rfl : i = k + 1 := by omega
      exact Nat.le_refl _
    · exact Nat.le_trans (T.mono x (by omega)) (T.mono1 (by omega))
theorem Tr.env (T : Tr Φ aos st) {t : Nat} {i : Nat} : ∀ {k}, i ≤ k → k ≤ aos.length → (∀ j x, i ≤ j → j < k → aos[j]? = some x → x.dst ≠ some t) → envGet (st k).env t = envGet (st i).env t
  | 0, h, _, _ => by obtain rfl : i = 0 := by omega
                     rfl
  | k + 1, h, hk, hn => by
    rcases Nat.lt_or_ge k i with x | x
    · obtain rfl : i = k + 1 := by omega
      rfl
    · obtain ⟨q, hq⟩ := T.step k _ (List.getElem?_eq_getElem (by omega))
      rw [hq.env_get (hn k _ x (by omega) (List.getElem?_eq_getElem (by omega)))]
      exact T.env x (by omega) (fun j y a b c => hn j y a (by omega) c)
theorem Tr.heap (T : Tr Φ aos st) {nm g : Nat} {i : Nat} : ∀ {k}, i ≤ k → k ≤ aos.length → (∀ j x, i ≤ j → j < k → aos[j]? = some x → ¬ x.wr nm) → (st k).h.get nm g = (st i).h.get nm g
  | 0, h, _, _ => by obtain rfl : i = 0 := by omega
                     rfl
  | k + 1, h, hk, hn => by
    rcases Nat.lt_or_ge k i with x | x
    · obtain rfl : i = k + 1 := by omega
      rfl
    · obtain ⟨q, hq⟩ := T.step k _ (List.getElem?_eq_getElem (by omega))
      rw [hq.get_wr (hn k _ x (by omega) (List.getElem?_eq_getElem (by omega)))]
      exact T.heap x (by omega) (fun j y a b c => hn j y a (by omega) c)

theorem Tr.iv (T : Tr Φ aos st) {i : Nat} {o : AOper} (ho : aos[i]? = some o) {q : St} (hqc : (st (i + 1)).c = q.c) {nm g}
    {ns : List Nat} (h : InN ns (((st i).c, q.c) :: allowed (st 0).c ((List.range i).map fun j => ((st j).c, (st (j + 1)).c)) o.an) nm g) :
    nm ∈ ns ∧ g < (st (i + 1)).c ∧ (g < (st 0).c ∨ (∃ j, j ∈ o.an ∧ j < i ∧ (st j).c ≤ g ∧ g < (st (j + 1)).c) ∨ ((st i).c ≤ g ∧ g < (st (i + 1)).c)) := by
  have hi : i < aos.length := (List.getElem?_eq_some_iff.1 ho).1
  obtain ⟨h1, p, hp, h2, h3⟩ := h
  rcases List.mem_cons.1 hp with rfl | hp
  · rw [hqc]; exact ⟨h1, h3, .inr (.inr ⟨h2, h3⟩)⟩
  · have h4 := allowed_spec (g := g) ⟨p, hp, h2, h3⟩
    refine ⟨h1, ?_, h4.imp id .inl⟩
    rcases h4 with h4 | ⟨j, _, hj, _, h5⟩
    · exact Nat.lt_of_lt_of_le h4 (T.mono (Nat.zero_le _) (by omega))
    · exact Nat.lt_of_lt_of_le h5 (T.mono (by omega) (by omega))

/-- what stands in a state names what is older than the state -/
theorem Tr.bound (T : Tr Φ aos st) (h0 : ∀ nm g b, (st 0).h.get nm g = some b → g < (st 0).c ∧ RefsB (fun _ g => g < (st 0).c) b)
    (e0 : ∀ t v, envGet (st 0).env t = some v → Refs (fun _ g => g < (st 0).c) v) : ∀ i, i ≤ aos.length →
    (∀ nm g b, (st i).h.get nm g = some b → g < (st i).c ∧ RefsB (fun _ g => g < (st i).c) b) ∧ (∀ t v, envGet (st i).env t = some v → Refs (fun _ g => g < (st i).c) v)
  | 0, _ => ⟨h0, e0⟩
  | i + 1, hi => by
    obtain ⟨h1, e1⟩ := T.bound h0 e0 i (by omega)
    have ho : aos[i]? = some aos[i] := List.getElem?_eq_getElem (by omega)
    obtain ⟨q, hq⟩ := T.step i _ ho
    have hm := T.mono1 (i := i) (by omega)
    refine ⟨fun nm g b x => ?_, fun t v x => ?_⟩
    · rcases hq.kind with ⟨_, _, e1, _, _⟩ | ⟨_, hlow, _, _⟩
      · rw [e1] at x
        obtain ⟨y1, y2⟩ := h1 nm g b x
        exact ⟨by omega, y2.mono (fun _ _ z => by omega)⟩
      rw [hq.get] at x
      split at x
      · obtain ⟨y1, y2⟩ := lowH_refs hlow x
        exact ⟨(T.iv ho hq.c y1).2.1, y2.mono (fun _ _ z => (T.iv ho hq.c z).2.1)⟩
      · obtain ⟨y1, y2⟩ := h1 nm g b x
        exact ⟨by omega, y2.mono (fun _ _ z => by omega)⟩
    · rcases hq.env with ⟨_, e⟩ | ⟨d, u, hd, hu, hl, e⟩
      · rw [e] at x; exact (e1 t v x).mono (fun _ _ z => by omega)
      · rw [e, envGet_set] at x
        split at x
        · obtain rfl := Option.some.inj x
          exact (low_refs hl).mono (fun _ _ z => (T.iv ho hq.c z).2.1)
        · exact (e1 t v x).mono (fun _ _ z => by omega)
end

/- ---------------------------------------------------------------- worlds, no generations in sight -/
structure Own (G G' : Gh) (h h' : AH) (w w' : World) : Prop where
  r0 : ∀ b, G.R0 b → G'.R0 b
  r1 : ∀ b, G.R1 b → G'.R1 b
  opq : G'.opq = G.opq
  rw : ∀ b, G.R true b → w'.heap[b]? = w.heap[b]?
  r1' : ∀ b, G'.R1 b → G.R1 b
  size : w.heap.size ≤ w'.heap.size
  os : w'.os = w.os
  tape : w'.tape = w.tape
  output : w'.output = w.output
  keep : ∀ b, b < w.heap.size → (∀ nm g, liveN h nm g → G.blk g ≠ b) → w'.heap[b]? = w.heap[b]?
  owns : ∀ nm g, liveN h' nm g → (∃ nm' g', liveN h nm' g' ∧ G.blk g' = G'.blk g) ∨ w.heap.size ≤ G'.blk g
  froze : ∀ b, G'.R0 b → G.R0 b ∨ (∃ nm g, liveN h nm g ∧ G.blk g = b) ∨ w.heap.size ≤ b

theorem Own.refl (G : Gh) (h : AH) (w : World) : Own G G h h w w where
  r0 := fun _ x => x
  r1 := fun _ x => x
  opq := rfl
  rw := fun _ _ => rfl
  r1' := fun _ x => x
  size := Nat.le_refl _
  os := rfl
  tape := rfl
  output := rfl
  keep := fun _ _ _ => rfl
  owns := fun nm g x => .inl ⟨nm, g, x, rfl⟩
  froze := fun _ x => .inl x

theorem Own.trans {G1 G2 G3 h1 h2 h3 w1 w2 w3} (A : Own G1 G2 h1 h2 w1 w2) (B : Own G2 G3 h2 h3 w2 w3) : Own G1 G3 h1 h3 w1 w3 where
  r0 := fun b x => B.r0 b (A.r0 b x)
  r1 := fun b x => B.r1 b (A.r1 b x)
  opq := B.opq.trans A.opq
  rw := fun b hb => (B.rw b (Gh.R_mono A.r0 A.r1 hb)).trans (A.rw b hb)
  r1' := fun b x => A.r1' b (B.r1' b x)
  size := Nat.le_trans A.size B.size
  os := B.os.trans A.os
  tape := B.tape.trans A.tape
  output := B.output.trans A.output
  keep := fun b hb hn => by
    refine (B.keep b (Nat.lt_of_lt_of_le hb A.size) ?_).trans (A.keep b hb hn)
    intro nm g hl e
    rcases A.owns nm g hl with ⟨nm', g', hl', e'⟩ | hge
    · exact hn nm' g' hl' (e'.trans e)
    · omega
  owns := fun nm g hl => by
    rcases B.owns nm g hl with ⟨nm', g', hl', e'⟩ | hge
    · rcases A.owns nm' g' hl' with ⟨n2, g2, l2, e2⟩ | hge
      · exact .inl ⟨n2, g2, l2, e2.trans e'⟩
      · exact .inr (e' ▸ hge)
    · exact .inr (Nat.le_trans A.size hge)
  froze := fun b hb => by
    rcases B.froze b hb with h | ⟨nm, g, hl, e⟩ | hge
    · exact A.froze b h
    · rcases A.owns nm g hl with ⟨n2, g2, l2, e2⟩ | hge
      · exact .inr (.inl ⟨n2, g2, l2, e2.trans e⟩)
      · exact .inr (.inr (e ▸ hge))
    · exact .inr (.inr (Nat.le_trans A.size hge))

def GhEq (A B : Gh) (g : Nat) : Prop := A.blk g = B.blk g ∧ A.base g = B.base g ∧ A.sz g = B.sz g ∧ A.ln g = B.ln g ∧ A.tot g = B.tot g ∧ A.lp g = B.lp g
theorem GhEq.five {A B : Gh} {g : Nat} (h : GhEq A B g) : A.blk g = B.blk g ∧ A.base g = B.base g ∧ A.sz g = B.sz g ∧ A.ln g = B.ln g ∧ A.tot g = B.tot g :=
  ⟨h.1, h.2.1, h.2.2.1, h.2.2.2.1, h.2.2.2.2.1⟩
theorem GhEq.lp {A B : Gh} {g : Nat} (h : GhEq A B g) : A.lp g = B.lp g := h.2.2.2.2.2
theorem Stp.gheq {G G' h h' c c' w w'} (S : Stp G G' h h' c c' w w') (g : Nat) (hg : g < c) : GhEq G' G g :=
  let ⟨a, b, c, d, e⟩ := S.gh g hg
  ⟨a, b, c, d, e, S.lpf g hg⟩
theorem Own.stp {G G' h h' c c' w w'} (O : Own G G' h h' w w') (hg : ∀ g, g < c → GhEq G' G g)
    (hc : c ≤ c') (hl : ∀ nm g, g < c → live h' nm g → live h nm g) : Stp G G' h h' c c' w w' :=
  { gh := fun g x => (hg g x).five, lpf := fun g x => (hg g x).lp, r0 := O.r0, r1 := O.r1, opq := O.opq, cc := hc, lv := hl, rw := O.rw, r1' := O.r1', size := O.size, os := O.os, tape := O.tape, output := O.output, keep := O.keep, owns := O.owns, froze := O.froze }

/-- two ghosts as one: G' at the generations from lo to hi -/
def Gh.mix (G G' : Gh) (lo hi : Nat) : Gh :=
  { blk := fun g => if lo ≤ g ∧ g < hi then G'.blk g else G.blk g
    base := fun g => if lo ≤ g ∧ g < hi then G'.base g else G.base g
    sz := fun g => if lo ≤ g ∧ g < hi then G'.sz g else G.sz g
    ln := fun g => if lo ≤ g ∧ g < hi then G'.ln g else G.ln g
    tot := fun g => if lo ≤ g ∧ g < hi then G'.tot g else G.tot g
    lp := fun g => if lo ≤ g ∧ g < hi then G'.lp g else G.lp g
    R0 := G'.R0, R1 := G'.R1, opq := G'.opq }
theorem Gh.mix_out {G G' : Gh} {lo hi g} (h : ¬ (lo ≤ g ∧ g < hi)) : GhEq (G.mix G' lo hi) G g := by
  simp only [GhEq, Gh.mix, if_neg h, and_self]
theorem Gh.mix_in {G G' : Gh} {lo hi g} (hg : ∀ g, g < lo → GhEq G' G g) (h : g < hi) : GhEq (G.mix G' lo hi) G' g := by
  by_cases x : lo ≤ g ∧ g < hi
  · simp only [GhEq, Gh.mix, if_pos x, and_self]
  · simp only [GhEq, Gh.mix, if_neg x]
    obtain ⟨a, b, c, d, e, f⟩ := hg g (by omega)
    exact ⟨a.symm, b.symm, c.symm, d.symm, e.symm, f.symm⟩
end Go.Abs

namespace Go.Abs
variable [Globs]
open Go

/-- do two operations get into each other's way? -/
def clash (x y : AOper) : Bool :=
  (match x.dst with | some t => y.rs.any (Nat.beq t) || (match y.dst with | some u => Nat.beq t u | none => false) | none => false) ||
  (match y.dst with | some t => x.rs.any (Nat.beq t) | none => false) ||
  x.tn.any (fun n => y.tn.any (Nat.beq n) && (x.wn.any (Nat.beq n) || y.wn.any (Nat.beq n)))

theorem clash_wr {x y : AOper} {t : Nat} (h : x.dst = some t) (hr : t ∈ y.rs ∨ y.dst = some t) : clash x y = true := by
  unfold clash
  rw [h]
  rcases hr with hr | hr
  · have : y.rs.any (Nat.beq t) = true := (any_beq _ _).2 hr
    simp only [this, Bool.true_or]
  · rw [hr]
    have : Nat.beq t t = true := by simp
    simp only [this, Bool.or_true, Bool.true_or]
theorem clash_rw {x y : AOper} {t : Nat} (h : y.dst = some t) (hr : t ∈ x.rs) : clash x y = true := by
  unfold clash
  rw [h]
  have : x.rs.any (Nat.beq t) = true := (any_beq _ _).2 hr
  simp only [this, Bool.or_true, Bool.true_or]
theorem clash_nm {x y : AOper} {n : Nat} (h1 : n ∈ x.tn) (h2 : n ∈ y.tn) (h3 : n ∈ x.wn ∨ n ∈ y.wn) : clash x y = true := by
  unfold clash
  have : x.tn.any (fun n => y.tn.any (Nat.beq n) && (x.wn.any (Nat.beq n) || y.wn.any (Nat.beq n))) = true := by
    rw [List.any_eq_true]
    refine ⟨n, h1, ?_⟩
    rw [Bool.and_eq_true, Bool.or_eq_true, any_beq, any_beq, any_beq]
    exact ⟨h2, h3⟩
  simp only [this, Bool.or_true]

structure OrdOK (aos : List AOper) : Prop where
  an : ∀ (i : Nat) (o : AOper), aos[i]? = some o → ∀ j, j ∈ o.an → j < i
  pair : ∀ (j i : Nat) (x y : AOper), j < i → aos[j]? = some x → aos[i]? = some y → clash x y = true → j ∈ y.an

/-- generations from ahead of the region, or of an operation that ran -/
def DS (st : Nat → St) (S : Nat → Prop) (_nm g : Nat) : Prop := g < (st 0).c ∨ ∃ j, S j ∧ (st j).c ≤ g ∧ g < (st (j + 1)).c

/-- between the operations of a region that draws: those of S ran -/
structure DInv (aos : List AOper) (st : Nat → St) (G0 : Gh) (w0 : World) (S : Nat → Prop) (G : Gh) (H : AH) (w : World) (a : Act) : Prop where
  lt : ∀ i, S i → i < aos.length
  closed : ∀ i o, aos[i]? = some o → S i → ∀ j, j ∈ o.an → S j
  wrel : WRel G H (st aos.length).c w
  env : ∀ i, i ≤ aos.length → ¬ S i → ∀ t, (∀ o, aos[i]? = some o → t ∈ o.rs) → (∀ j x, j < i → aos[j]? = some x → x.dst = some t → S j) →
    ∀ v, envGet (st i).env t = some v → t < a.tmps.size ∧ VRel G H (st aos.length).c w v (a.tmps.getD t undef) ∧ Refs (DS st S) v
  heap : ∀ i, i ≤ aos.length → ¬ S i → ∀ nm, (∀ o, aos[i]? = some o → nm ∈ o.tn) → (∀ j x, j < i → aos[j]? = some x → x.wr nm → S j) →
    ∀ g, H.get nm g = (st i).h.get nm g
  refs : ∀ nm g b, H.get nm g = some b → DS st S nm g ∧ RefsB (DS st S) b
  own : Own G0 G (st 0).h H w0 w
  gh : ∀ g, g < (st 0).c → GhEq G G0 g
  lv : ∀ nm g, g < (st 0).c → live H nm g → live (st 0).h nm g
  gl : GlobOK G.R0 w

section
variable {P : Program} {Φ : Nat → Option FnF} {aos : List AOper} {st : Nat → St} {G0 : Gh} {w0 : World}

theorem DInv.step {F : Fence} {m : Nat} (hW : FW F) (hΦ : PhiOK P Φ G0 (st 0).h (st 0).c w0) {N} {ops : Array Oper} {Q : Exit → Act → World → Prop} (T : Tr Φ aos st) (O : OrdOK aos)
    (hb : ∀ i, i ≤ aos.length → (∀ nm g b, (st i).h.get nm g = some b → g < (st i).c ∧ RefsB (fun _ g => g < (st i).c) b) ∧ (∀ t v, envGet (st i).env t = some v → Refs (fun _ g => g < (st i).c) v))
    {S : Nat → Prop} {G : Gh} {H : AH} {w : World} {a : Act} (D : DInv aos st G0 w0 S G H w a) (hN : a.tmps.size = N)
    {i : Nat} {o : Oper} {ao : AOper} (hi : ops[i]? = some o) (hao : aos[i]? = some ao) (hf : operFit P N ops o ao = true) (hS : ¬ S i) (hr : ∀ j, j ∈ ao.an → S j)
    {K : Act → World → Prop} (hK : ∀ cv w' G' H', DInv aos st G0 w0 (fun j => S j ∨ j = i) G' H' w' (a.put o.dst cv) → K (a.put o.dst cv) w') : wpOpIn F m P ops Q i K a w := by
  have hin : i < aos.length := (List.getElem?_eq_some_iff.1 hao).1
  obtain ⟨q, hq⟩ := T.step i ao hao
  have hcn : (st (i + 1)).c ≤ (st aos.length).c := T.mono (by omega) (Nat.le_refl _)
  have hc0 : (st 0).c ≤ (st i).c := T.mono (Nat.zero_le _) (by omega)
  have hci : (st i).c ≤ (st (i + 1)).c := T.mono1 hin
  obtain ⟨bh, be⟩ := hb i (by omega)
  -- no operation that stands behind i and is in its way ran
  have noS : ∀ k x, aos[k]? = some x → i < k → clash ao x = true → ¬ S k := fun k x hx hlt hc hk =>
    hS (D.closed k x hx hk i (O.pair i k ao x hlt hao hx hc))
  -- an operation that did not run, is in the way of i, and did not stand ahead of it stands behind it
  have after : ∀ k, k ≤ aos.length → ¬ (S k ∨ k = i) → (∀ x, aos[k]? = some x → clash x ao = true) → i < k := by
    intro k hk hn hc
    rcases Nat.lt_or_ge i k with x | x
    · exact x
    · have hne : k ≠ i := fun e => hn (.inr e)
      have hx : aos[k]? = some aos[k] := List.getElem?_eq_getElem (by omega)
      exact absurd (.inl (hr k (O.pair k i _ ao (by omega) hx hao (hc _ hx)))) hn
  have hod : o.dst = ao.dst := by
    simp only [operFit, Bool.and_eq_true, beq_iff_eq] at hf
    exact hf.1.1.1
  have hHg : ∀ nm, nm ∈ ao.tn → ∀ g, H.get nm g = (st i).h.get nm g := fun nm hnm =>
    D.heap i (by omega) hS nm (fun o' ho' => by rw [hao] at ho'; obtain rfl := Option.some.inj ho'; exact hnm)
      (fun j x hj hx hw => hr j (O.pair j i x ao hj hx hao (clash_nm hw.1 hnm (.inl hw.2))))
  have hsub : ∀ nm g b, ((st i).h.only ao.tn).get nm g = some b → nm ∈ ao.tn ∧ H.get nm g = some b := by
    intro nm g b x
    rw [get_only] at x
    split at x
    · next hn => exact ⟨hn, by rw [hHg nm hn]; exact x⟩
    · cases x
  have hiv : ∀ nm g, InN (ao.tn ++ ao.mn) (((st i).c, q.c) :: allowed (st 0).c ((List.range i).map fun j => ((st j).c, (st (j + 1)).c)) ao.an) nm g →
      g < (st (i + 1)).c ∧ (g < (st 0).c ∨ (∃ j, j ∈ ao.an ∧ j < i ∧ (st j).c ≤ g ∧ g < (st (j + 1)).c) ∨ ((st i).c ≤ g ∧ g < (st (i + 1)).c)) :=
    fun nm g x => (T.iv hao hq.c x).2
  have hDS' : ∀ nm g, InN (ao.tn ++ ao.mn) (((st i).c, q.c) :: allowed (st 0).c ((List.range i).map fun j => ((st j).c, (st (j + 1)).c)) ao.an) nm g → DS st (fun j => S j ∨ j = i) nm g := by
    intro nm g x
    rcases (hiv nm g x).2 with y | ⟨j, hj, _, y⟩ | y
    · exact .inl y
    · exact .inr ⟨j, .inl (hr j hj), y⟩
    · exact .inr ⟨i, .inr rfl, y⟩
  have DSmono : ∀ nm g, DS st S nm g → DS st (fun j => S j ∨ j = i) nm g := by
    rintro nm g (x | ⟨j, hj, x⟩)
    · exact .inl x
    · exact .inr ⟨j, .inl hj, x⟩
  rcases hq.kind with ⟨hst, hwn, hsh, hqh, hqcc⟩ | ⟨_, hlowh, hsh, hlowv⟩
  · -- the operation leaves the memory as it is: it sees all of it
    obtain ⟨ev2, _, _⟩ := evOper_mono (H := H) (C := (st aos.length).c) hst (fun nm g b x => (hsub nm g b x).2) hq.ev
    have SF : SRel G ⟨envOnly ao.rs (st i).env, H, (st aos.length).c⟩ a w := by
      refine ⟨D.wrel, ⟨fun t v hv => ?_, D.gl⟩⟩
      simp only [envGet_only] at hv
      split at hv
      · next hn =>
        obtain ⟨y1, y2, _⟩ := D.env i (by omega) hS t (fun o' ho' => by rw [hao] at ho'; obtain rfl := Option.some.inj ho'; exact hn)
          (fun j x hj hx hw => hr j (O.pair j i x ao hj hx hao (clash_wr hw (.inl hn)))) v hv
        exact ⟨y1, y2⟩
      · cases hv
    have hcN : (st 0).c ≤ (st aos.length).c := T.mono (Nat.zero_le _) (Nat.le_refl _)
    have LΦ : Later G0 G (st 0).h H (st 0).c (st aos.length).c w0 w :=
      { gh := fun g hg => (D.gh g hg).five, lpf := fun g hg => (D.gh g hg).lp, r0 := D.own.r0, r1 := D.own.r1, opq := D.own.opq, cc := hcN
        lv := D.lv, rw := D.own.rw }
    refine oper_putF hW (hΦ.later LΦ) hf hN SF ev2 hi (fun cv w' G' Sp SR => ?_)
    simp only at Sp SR
    have SRe := SR.env
    simp only at SRe
    have OwnS : Own G G' H H w w' :=
      { r0 := Sp.r0, r1 := Sp.r1, opq := Sp.opq, rw := Sp.rw, r1' := Sp.r1', size := Sp.size, os := Sp.os, tape := Sp.tape, output := Sp.output, keep := Sp.keep, owns := Sp.owns, froze := Sp.froze }
    have nowr : ∀ nm, ¬ ao.wr nm := fun nm x => by have := x.2; rw [hwn] at this; cases this
    refine hK cv w' G' H ⟨?_, ?_, SR.wrel, ?_, ?_, ?_, D.own.trans OwnS, ?_, D.lv, SRe.gl⟩
    · rintro j (x | rfl)
      · exact D.lt j x
      · exact hin
    · rintro k x hx (y | rfl) j hj
      · exact .inl (D.closed k x hx y j hj)
      · rw [hao] at hx; obtain rfl := Option.some.inj hx; exact .inl (hr j hj)
    · intro k hk hnk t hrd hwr v hv
      have hsz : (a.put o.dst cv).tmps.size = a.tmps.size := put_size _ _ _
      by_cases hd : ao.dst = some t
      · have hlt : i < k := after k hk hnk (fun x hx => clash_rw hd (hrd x hx))
        have hch : envGet (st k).env t = envGet (st (i + 1)).env t := T.env (by omega) hk (fun j x h1 h2 hx hxd => by
          rcases hwr j x h2 hx hxd with y | y
          · exact noS j x hx (by omega) (clash_wr hd (.inr hxd)) y
          · omega)
        rw [hch] at hv
        rcases hq.env with ⟨e, _⟩ | ⟨d, u, hd', hu, hl, e⟩
        · rw [hd] at e; cases e
        · rw [hd] at hd'
          obtain rfl := Option.some.inj hd'
          rw [e, envGet_set, if_pos rfl] at hv
          obtain rfl := Option.some.inj hv
          obtain ⟨y1, y2⟩ := SRe.tm t u hu
          exact ⟨y1, y2, (low_refs hl).mono hDS'⟩
      · obtain ⟨y1, y2, y3⟩ := D.env k hk (fun x => hnk (.inl x)) t hrd (fun j x h1 hx hxd => by
          rcases hwr j x h1 hx hxd with y | y
          · exact y
          · subst y; rw [hao] at hx; obtain rfl := Option.some.inj hx; exact absurd hxd hd) v hv
        refine ⟨by rw [hsz]; exact y1, ?_, y3.mono DSmono⟩
        have : (a.put o.dst cv).tmps.getD t undef = a.tmps.getD t undef := by
          cases hdd : o.dst with
          | none => rfl
          | some d =>
            have hne : d ≠ t := fun e => hd (by rw [← hod, hdd, e])
            simp only [Act.put]
            simp [Array.getD, y1, hne]
        rw [this]
        exact y2.later Sp.toLater
    · intro k hk hnk nm htn hwr g
      exact D.heap k hk (fun x => hnk (.inl x)) nm htn (fun j x h1 hx hxw => by
        rcases hwr j x h1 hx hxw with y | y
        · exact y
        · subst y; rw [hao] at hx; obtain rfl := Option.some.inj hx; exact absurd hxw (nowr nm)) g
    · intro nm g b x
      obtain ⟨y1, y2⟩ := D.refs nm g b x
      exact ⟨DSmono nm g y1, y2.mono DSmono⟩
    · intro g hg
      obtain ⟨a1, a2, a3, a4, a5, a6⟩ := Sp.gheq g (by omega)
      obtain ⟨b1, b2, b3, b4, b5, b6⟩ := D.gh g hg
      exact ⟨a1.trans b1, a2.trans b2, a3.trans b3, a4.trans b4, a5.trans b5, a6.trans b6⟩
  have L0 : LaterD (fun _ g => g < (st i).c) G G H ((st i).h.only ao.tn) (st i).c w w :=
    { gh := fun _ _ _ => ⟨rfl, rfl, rfl, rfl, rfl⟩, r0 := fun _ x => x, r1 := fun _ x => x, opq := rfl, cc := fun _ _ x => x
      lv := fun nm g _ x => let ⟨b, x⟩ := x; ⟨b, (hsub nm g b x).2⟩, rw := fun _ _ => rfl }
  have SA : SRel G ⟨envOnly ao.rs (st i).env, (st i).h.only ao.tn, (st i).c⟩ a w := by
    refine ⟨⟨fun nm g b x => ?_, fun nm g b x => ?_, fun nm g nm' g' l1 l2 => ?_, D.wrel.old⟩, ⟨fun t v hv => ?_, D.gl⟩⟩
    · simp only [get_only] at x
      split at x
      · exact (bh nm g b x).1
      · cases x
    · have x' := hsub nm g b x
      simp only [get_only, if_pos x'.1] at x
      obtain ⟨y1, y2⟩ := bh nm g b x
      exact (D.wrel.blk nm g b x'.2).re L0 (nm := nm) y1 y2 rfl (Nat.le_refl _) (fun _ _ z => .inl z) (fun _ z => z)
    · refine D.wrel.apart _ _ _ _ ?_ ?_
      · obtain ⟨b, x, n⟩ := l1; exact ⟨b, (hsub _ _ _ x).2, n⟩
      · obtain ⟨b, x, n⟩ := l2; exact ⟨b, (hsub _ _ _ x).2, n⟩
    · simp only [envGet_only] at hv
      split at hv
      · next hn =>
        obtain ⟨y1, y2, _⟩ := D.env i (by omega) hS t (fun o' ho' => by rw [hao] at ho'; obtain rfl := Option.some.inj ho'; exact hn)
          (fun j x hj hx hw => hr j (O.pair j i x ao hj hx hao (clash_wr hw (.inl hn)))) v hv
        exact ⟨y1, y2.re L0 (be t v hv)⟩
      · cases hv
  have LΦ : Later G0 G (st 0).h ((st i).h.only ao.tn) (st 0).c (st i).c w0 w :=
    { gh := fun g hg => (D.gh g hg).five, lpf := fun g hg => (D.gh g hg).lp, r0 := D.own.r0, r1 := D.own.r1, opq := D.own.opq, cc := hc0
      lv := fun nm g hg x => let ⟨b, x⟩ := x; D.lv nm g hg ⟨b, (hsub nm g b x).2⟩, rw := D.own.rw }
  refine oper_putF hW (hΦ.later LΦ) hf hN SA hq.ev hi (fun cv w' G' Sp SR => ?_)
  have hqc : q.c = (st (i + 1)).c := hq.c.symm
  rw [hqc] at Sp
  have SRw : WRel G' q.h (st (i + 1)).c w' := by have := SR.wrel; rwa [hqc] at this
  have SRe : EnvRel G' q.h (st (i + 1)).c w' q.env (a.put o.dst cv) := by have := SR.env; rwa [hqc] at this
  -- the new ghost and the new heap
  have hgh : ∀ g, g < (st i).c → GhEq G' G g := fun g hg => Sp.gheq g hg
  have hin2 : ∀ g, g < (st (i + 1)).c → GhEq (G.mix G' (st i).c (st (i + 1)).c) G' g := fun g hg => Gh.mix_in hgh hg
  have disj : ∀ nm g, DS st S nm g → ¬ ((st i).c ≤ g ∧ g < (st (i + 1)).c) := by
    rintro nm g (x | ⟨j, hj, x1, x2⟩)
    · omega
    · have hne : j ≠ i := fun e => hS (e ▸ hj)
      have hjl := D.lt j hj
      rcases Nat.lt_or_gt_of_ne hne with y | y
      · have := T.mono (i := j + 1) (k := i) (by omega) (by omega); omega
      · have := T.mono (i := i + 1) (k := j) (by omega) (by omega); omega
  have hout : ∀ nm g, DS st S nm g → GhEq (G.mix G' (st i).c (st (i + 1)).c) G g := fun nm g x => Gh.mix_out (disj nm g x)
  have H2get : ∀ nm g, (q.h.join (H.hide ao.tn)).get nm g = if nm ∈ ao.tn then q.h.get nm g else H.get nm g := fun nm g => get_join_low hlowh nm g
  have hiv : ∀ nm g, InN ao.tn (((st i).c, q.c) :: allowed (st 0).c ((List.range i).map fun j => ((st j).c, (st (j + 1)).c)) ao.an) nm g →
      nm ∈ ao.tn ∧ g < (st (i + 1)).c ∧ (g < (st 0).c ∨ (∃ j, j ∈ ao.an ∧ j < i ∧ (st j).c ≤ g ∧ g < (st (j + 1)).c) ∨ ((st i).c ≤ g ∧ g < (st (i + 1)).c)) :=
    fun nm g x => T.iv hao hq.c x
  have hDS : ∀ nm g, InN ao.tn (((st i).c, q.c) :: allowed (st 0).c ((List.range i).map fun j => ((st j).c, (st (j + 1)).c)) ao.an) nm g → DS st (fun j => S j ∨ j = i) nm g := by
    intro nm g x
    rcases (hiv nm g x).2.2 with y | ⟨j, hj, _, y⟩ | y
    · exact .inl y
    · exact .inr ⟨j, .inl (hr j hj), y⟩
    · exact .inr ⟨i, .inr rfl, y⟩
  generalize hG2 : G.mix G' (st i).c (st (i + 1)).c = G2 at *
  generalize hH2 : q.h.join (H.hide ao.tn) = H2 at *
  have r0 : G2.R0 = G'.R0 := by rw [← hG2]; rfl
  have r1 : G2.R1 = G'.R1 := by rw [← hG2]; rfl
  have ropq : G2.opq = G'.opq := by rw [← hG2]; rfl
  -- what the operation made, in the new ghost and heap
  have L1 : LaterD (fun nm g => nm ∈ ao.tn ∧ g < (st (i + 1)).c) G' G2 q.h H2 (st aos.length).c w' w' :=
    { gh := fun _ g x => (hin2 g x.2).five, lpf := fun _ g x => (hin2 g x.2).lp, r0 := fun b x => by rw [r0]; exact x, r1 := fun b x => by rw [r1]; exact x, opq := ropq, cc := fun _ g x => Nat.lt_of_lt_of_le x.2 hcn
      lv := fun nm g x y => by
        obtain ⟨b, y⟩ := y
        rw [H2get, if_pos x.1] at y
        exact ⟨b, y⟩
      rw := fun _ _ => rfl }
  have toN : ∀ nm g, InN ao.tn (((st i).c, q.c) :: allowed (st 0).c ((List.range i).map fun j => ((st j).c, (st (j + 1)).c)) ao.an) nm g → nm ∈ ao.tn ∧ g < (st (i + 1)).c :=
    fun nm g x => ⟨(hiv nm g x).1, (hiv nm g x).2.1⟩
  -- what was there
  have lv2 : ∀ nm g, DS st S nm g → live H2 nm g → live H nm g := by
    rintro nm g x ⟨b, y⟩
    rw [H2get] at y
    split at y
    · next hn =>
      obtain ⟨z, _⟩ := lowH_refs hlowh y
      have hlt : g < (st i).c := by
        rcases (hiv nm g z).2.2 with z | ⟨j, _, hj, _, z⟩ | z
        · omega
        · have := T.mono (i := j + 1) (k := i) (by omega) (by omega); omega
        · exact absurd z (disj nm g x)
      obtain ⟨b', z'⟩ := Sp.lv nm g hlt ⟨b, y⟩
      exact ⟨b', (hsub nm g b' z').2⟩
    · exact ⟨b, y⟩
  have L2 : LaterD (DS st S) G G2 H H2 (st aos.length).c w w' :=
    { gh := fun nm g x => (hout nm g x).five, lpf := fun nm g x => (hout nm g x).lp, r0 := fun b x => by rw [r0]; exact Sp.r0 b x, r1 := fun b x => by rw [r1]; exact Sp.r1 b x, opq := ropq.trans Sp.opq
      cc := fun nm g x => by
        rcases x with x | ⟨j, hj, x⟩
        · omega
        · have := T.mono (i := j + 1) (k := aos.length) (by have := D.lt j hj; omega) (Nat.le_refl _); omega
      lv := lv2, rw := Sp.rw }
  have liveA : ∀ nm g, liveN ((st i).h.only ao.tn) nm g → nm ∈ ao.tn ∧ liveN H nm g := by
    rintro nm g ⟨b, x, n⟩
    obtain ⟨y1, y2⟩ := hsub nm g b x
    exact ⟨y1, b, y2, n⟩
  have lt_of : ∀ nm g, liveN H nm g → G.blk g < w.heap.size := by
    rintro nm g ⟨b, x, n⟩
    have key : ∀ ob : Obj, w.heap[G.blk g]? = some ob → G.blk g < w.heap.size := fun ob h => by
      rcases Nat.lt_or_ge (G.blk g) w.heap.size with x | x
      · exact x
      · rw [Array.getElem?_eq_none x] at h; cases h
    exact (D.wrel.blk nm g b x).lt
  have apartH : ∀ nm g, nm ∉ ao.tn → liveN H nm g → ∀ nm' g', liveN ((st i).h.only ao.tn) nm' g' → G.blk g' ≠ G.blk g := by
    intro nm g hn hl nm' g' hl'
    obtain ⟨y1, y2⟩ := liveA _ _ hl'
    rcases D.wrel.apart nm' g' nm g y2 hl with ⟨e, _⟩ | e
    · exact absurd (e ▸ y1) hn
    · exact e
  have W2 : WRel G2 H2 (st aos.length).c w' := by
    refine ⟨fun nm g b x => ?_, fun nm g b x => ?_, fun n1 g1 n2 g2 l1 l2 => ?_, fun b hb => SRw.old b ?_⟩
    · rw [H2get] at x
      split at x
      · exact Nat.lt_of_lt_of_le (SRw.gen nm g b x) hcn
      · exact D.wrel.gen nm g b x
    · rw [H2get] at x
      split at x
      · next hn =>
        obtain ⟨y1, y2⟩ := lowH_refs hlowh x
        exact (SRw.blk nm g b x).re L1 (toN nm g y1) (y2.mono toN) rfl (Nat.le_refl _) (fun b _ z => .inl (by rw [← r0]; exact z)) (fun b z => by rw [← r1]; exact z)
      · next hn =>
        obtain ⟨y1, y2⟩ := D.refs nm g b x
        by_cases hg : b = .gone
        · subst hg
          cases D.wrel.blk nm g _ x with
          | gone hlt => exact .gone (by rw [(hout nm g y1).1]; have := Sp.size; omega)
        · have hl : liveN H nm g := ⟨b, x, hg⟩
          refine (D.wrel.blk nm g b x).re L2 y1 y2 (Sp.keep _ (lt_of nm g hl) (fun nm' g' hl' => apartH nm g hn hl nm' g' hl')) Sp.size (fun b hlt z => ?_) (fun b z => Sp.r1' b (by rw [← r1]; exact z))
          rw [r0] at z
          rcases Sp.froze b z with z | ⟨nm', g', hl', e⟩ | z
          · exact .inl z
          · exact .inr (fun e' => apartH nm g hn hl nm' g' hl' (e.trans e'))
          · omega
    · have inn : ∀ nm g, nm ∈ ao.tn → liveN H2 nm g → liveN q.h nm g := by
        rintro nm g hn ⟨b, x, n⟩
        rw [H2get, if_pos hn] at x
        exact ⟨b, x, n⟩
      have out : ∀ nm g, nm ∉ ao.tn → liveN H2 nm g → liveN H nm g ∧ GhEq G2 G g := by
        rintro nm g hn ⟨b, x, n⟩
        rw [H2get, if_neg hn] at x
        exact ⟨⟨b, x, n⟩, hout nm g (D.refs nm g b x).1⟩
      have gl : ∀ nm g, liveN q.h nm g → GhEq G2 G' g := by
        rintro nm g ⟨b, x, _⟩
        exact hin2 g (SRw.gen nm g b x)
      have mixed : ∀ nm g nm' g', nm ∈ ao.tn → nm' ∉ ao.tn → liveN H2 nm g → liveN H2 nm' g' → G2.blk g ≠ G2.blk g' := by
        intro nm g nm' g' h1 h2 x1 x2
        obtain ⟨y2, e2⟩ := out nm' g' h2 x2
        have y1 := inn nm g h1 x1
        rw [(gl nm g y1).1, e2.1]
        rcases Sp.owns nm g y1 with ⟨nm2, g2, hl2, e⟩ | hge
        · rw [← e]; exact apartH nm' g' h2 y2 nm2 g2 hl2
        · have := lt_of nm' g' y2; omega
      by_cases h1 : n1 ∈ ao.tn <;> by_cases h2 : n2 ∈ ao.tn
      · have x1 := inn _ _ h1 l1
        have x2 := inn _ _ h2 l2
        rw [(gl _ _ x1).1, (gl _ _ x2).1]
        exact SRw.apart _ _ _ _ x1 x2
      · exact .inr (mixed _ _ _ _ h1 h2 l1 l2)
      · exact .inr (fun e => mixed _ _ _ _ h2 h1 l2 l1 e.symm)
      · obtain ⟨x1, e1⟩ := out _ _ h1 l1
        obtain ⟨x2, e2⟩ := out _ _ h2 l2
        rw [e1.1, e2.1]
        exact D.wrel.apart _ _ _ _ x1 x2
    · simp only [Gh.R, r0, r1] at hb; exact hb
  have step : Own G G2 H H2 w w' :=
    { r0 := fun b x => by rw [r0]; exact Sp.r0 b x
      r1 := fun b x => by rw [r1]; exact Sp.r1 b x
      opq := ropq.trans Sp.opq
      rw := Sp.rw
      r1' := fun b x => Sp.r1' b (by rw [← r1]; exact x)
      size := Sp.size, os := Sp.os, tape := Sp.tape, output := Sp.output
      keep := fun b hb hn => Sp.keep b hb (fun nm g hl => hn nm g (liveA nm g hl).2)
      owns := fun nm g hl => by
        obtain ⟨b, x, n⟩ := hl
        rw [H2get] at x
        split at x
        · next hn =>
          have e := hin2 g (SRw.gen nm g b x)
          rcases Sp.owns nm g ⟨b, x, n⟩ with ⟨nm2, g2, hl2, e2⟩ | hge
          · exact .inl ⟨nm2, g2, (liveA _ _ hl2).2, e2.trans e.1.symm⟩
          · exact .inr (by rw [e.1]; exact hge)
        · exact .inl ⟨nm, g, ⟨b, x, n⟩, (hout nm g (D.refs nm g b x).1).1.symm⟩
      froze := fun b hb => by
        rw [r0] at hb
        rcases Sp.froze b hb with z | ⟨nm', g', hl', e⟩ | z
        · exact .inl z
        · exact .inr (.inl ⟨nm', g', (liveA _ _ hl').2, e⟩)
        · exact .inr (.inr z) }
  refine hK cv w' G2 H2 ⟨?_, ?_, W2, ?_, ?_, ?_, D.own.trans step, ?_, ?_, by rw [r0]; exact D.gl.later Sp.toLater⟩
  · rintro j (x | rfl)
    · exact D.lt j x
    · exact hin
  · rintro k x hx (y | rfl) j hj
    · exact .inl (D.closed k x hx y j hj)
    · rw [hao] at hx; obtain rfl := Option.some.inj hx; exact .inl (hr j hj)
  · intro k hk hnk t hrd hwr v hv
    have hsz : (a.put o.dst cv).tmps.size = a.tmps.size := put_size _ _ _
    by_cases hd : ao.dst = some t
    · have hlt : i < k := after k hk hnk (fun x hx => clash_rw hd (hrd x hx))
      have hch : envGet (st k).env t = envGet (st (i + 1)).env t := T.env (by omega) hk (fun j x h1 h2 hx hxd => by
        rcases hwr j x h2 hx hxd with y | y
        · exact noS j x hx (by omega) (clash_wr hd (.inr hxd)) y
        · omega)
      rw [hch] at hv
      rcases hq.env with ⟨e, _⟩ | ⟨d, u, hd', hu, hl, e⟩
      · rw [hd] at e; cases e
      · rw [hd] at hd'
        obtain rfl := Option.some.inj hd'
        rw [e, envGet_set, if_pos rfl] at hv
        obtain rfl := Option.some.inj hv
        have hl' := hlowv _ u hd hu
        obtain ⟨y1, y2⟩ := SRe.tm t u hu
        exact ⟨y1, y2.re L1 ((low_refs hl').mono toN), (low_refs hl').mono hDS⟩
    · obtain ⟨y1, y2, y3⟩ := D.env k hk (fun x => hnk (.inl x)) t hrd (fun j x h1 hx hxd => by
        rcases hwr j x h1 hx hxd with y | y
        · exact y
        · subst y; rw [hao] at hx; obtain rfl := Option.some.inj hx; exact absurd hxd hd) v hv
      refine ⟨by rw [hsz]; exact y1, ?_, y3.mono DSmono⟩
      have : (a.put o.dst cv).tmps.getD t undef = a.tmps.getD t undef := by
        cases hdd : o.dst with
        | none => rfl
        | some d =>
          have hne : d ≠ t := fun e => hd (by rw [← hod, hdd, e])
          simp only [Act.put]
          simp [Array.getD, y1, hne]
      rw [this]
      exact y2.re L2 y3
  · intro k hk hnk nm htn hwr g
    rw [H2get]
    by_cases hw : ao.wr nm
    · rw [if_pos hw.1]
      have hlt : i < k := after k hk hnk (fun x hx => clash_nm (htn x hx) hw.1 (.inr hw.2))
      have hch : (st k).h.get nm g = (st (i + 1)).h.get nm g := T.heap (by omega) hk (fun j x h1 h2 hx hxw => by
        rcases hwr j x h2 hx hxw with y | y
        · exact noS j x hx (by omega) (clash_nm hw.1 hxw.1 (.inl hw.2)) y
        · omega)
      rw [hch, hq.get, if_pos hw.1]
    · have e := D.heap k hk (fun x => hnk (.inl x)) nm htn (fun j x h1 hx hxw => by
        rcases hwr j x h1 hx hxw with y | y
        · exact y
        · subst y; rw [hao] at hx; obtain rfl := Option.some.inj hx; exact absurd hxw hw) g
      split
      · next hn => rw [hq.same hn (fun x => hw ⟨hn, x⟩), ← hHg nm hn, e]
      · exact e
  · intro nm g b x
    rw [H2get] at x
    split at x
    · obtain ⟨y1, y2⟩ := lowH_refs hlowh x
      exact ⟨hDS nm g y1, y2.mono hDS⟩
    · obtain ⟨y1, y2⟩ := D.refs nm g b x
      exact ⟨DSmono nm g y1, y2.mono DSmono⟩
  · intro g hg
    obtain ⟨a1, a2, a3, a4, a5, a6⟩ := hout 0 g (.inl hg)
    obtain ⟨b1, b2, b3, b4, b5, b6⟩ := D.gh g hg
    exact ⟨a1.trans b1, a2.trans b2, a3.trans b3, a4.trans b4, a5.trans b5, a6.trans b6⟩
  · intro nm g hg hl
    exact D.lv nm g hg (lv2 nm g (.inl hg) hl)
end
end Go.Abs

namespace Go.Abs
variable [Globs]
open Go

def listFit (P : Program) (N : Nat) (all : Array Oper) : List Oper → List AOper → Bool
  | [], [] => true
  | o :: os, ao :: aos => operFit P N all o ao && listFit P N all os aos
  | _, _ => false

/-- the ancestors that are told are ancestors -/
def anFit (ops : Array Oper) (aos : List AOper) : Bool :=
  (List.range aos.length).all fun i => match ops[i]?, aos[i]? with
    | some o, some ao => (o.after.toList.all fun e => !Region.binds .any e || Nat.blt e.on i) &&
        ao.an.all fun j => Nat.blt j i && o.after.toList.any fun e => Region.binds .any e && (Nat.beq e.on j || (match aos[e.on]? with | some x => x.an.any (Nat.beq j) | none => false))
    | _, _ => false
/-- operations that get into each other's way are ordered -/
def pairFit (aos : List AOper) : Bool :=
  (List.range aos.length).all fun i => (List.range i).all fun j => match aos[j]?, aos[i]? with
    | some x, some y => !clash x y || y.an.any (Nat.beq j)
    | _, _ => false
/-- a region whose order is drawn -/
def drawFit (P : Program) (N : Nat) (ops : Array Oper) (aos : List AOper) : Bool :=
  P.follows .mixedOrders && (listFit P N ops ops.toList aos && (anFit ops aos && pairFit aos))

theorem listFit_get {P N all} : ∀ {os : List Oper} {aos : List AOper}, listFit P N all os aos = true → os.length = aos.length ∧ ∀ (i : Nat) (o : Oper), os[i]? = some o → ∃ ao, aos[i]? = some ao ∧ operFit P N all o ao = true
  | [], [], _ => ⟨rfl, fun i o x => by simp at x⟩
  | o :: os, ao :: aos, h => by
    simp only [listFit, Bool.and_eq_true] at h
    obtain ⟨e, ih⟩ := listFit_get h.2
    refine ⟨by simp [e], fun i o' x => ?_⟩
    cases i with
    | zero => simp only [List.getElem?_cons_zero, Option.some.injEq] at x; subst x; exact ⟨ao, rfl, h.1⟩
    | succ i => rw [List.getElem?_cons_succ] at x; obtain ⟨y, h1, h2⟩ := ih i o' x; exact ⟨y, by rw [List.getElem?_cons_succ]; exact h1, h2⟩
  | [], _ :: _, h => by simp [listFit] at h
  | _ :: _, [], h => by simp [listFit] at h

theorem pairFit_spec {aos} (h : pairFit aos = true) {j i : Nat} {x y : AOper} (hlt : j < i) (hx : aos[j]? = some x) (hy : aos[i]? = some y) (hc : clash x y = true) : j ∈ y.an := by
  have hi : i < aos.length := (List.getElem?_eq_some_iff.1 hy).1
  simp only [pairFit, List.all_eq_true, List.mem_range] at h
  have := h i hi j hlt
  simp only [hx, hy, hc, Bool.not_true, Bool.false_or, any_beq] at this
  exact this
theorem anFit_spec {ops aos} (h : anFit ops aos = true) {i : Nat} {o : Oper} {ao : AOper} (ho : ops[i]? = some o) (hy : aos[i]? = some ao) :
    (∀ e, e ∈ o.after → Region.binds .any e = true → e.on < i) ∧ ∀ j, j ∈ ao.an → j < i ∧ ∃ e, e ∈ o.after ∧ Region.binds .any e = true ∧ (e.on = j ∨ ∃ x, aos[e.on]? = some x ∧ j ∈ x.an) := by
  have hi : i < aos.length := (List.getElem?_eq_some_iff.1 hy).1
  simp only [anFit, List.all_eq_true, List.mem_range] at h
  have := h i hi
  simp only [ho, hy, Bool.and_eq_true, List.all_eq_true, List.any_eq_true, Bool.or_eq_true, Bool.not_eq_true', Array.mem_toList_iff, Nat.blt_eq, Nat.beq_eq] at this
  refine ⟨fun e he hb => ?_, fun j hj => ?_⟩
  · rcases this.1 e he with x | x
    · rw [hb] at x; cases x
    · exact x
  · obtain ⟨h1, e, he, hb, h2⟩ := this.2 j hj
    refine ⟨h1, e, he, hb, h2.imp id fun x => ?_⟩
    split at x
    · next y hy => exact ⟨y, hy, by simpa [List.any_eq_true] using x⟩
    · cases x

def leftOf : List Bool → Nat
  | [] => 0
  | b :: r => (if b then 0 else 1) + leftOf r
theorem leftOf_set : ∀ {l : List Bool} {i : Nat}, l[i]? = some false → leftOf (l.set i true) + 1 = leftOf l
  | [], i, h => by simp at h
  | b :: r, 0, h => by
    simp only [List.getElem?_cons_zero, Option.some.injEq] at h
    subst h
    simp [leftOf]; omega
  | b :: r, i + 1, h => by
    rw [List.getElem?_cons_succ] at h
    have := leftOf_set h
    simp only [List.set_cons_succ, leftOf]; omega
theorem leftOf_zero : ∀ {l : List Bool}, leftOf l = 0 → ∀ i : Nat, i < l.length → l[i]? = some true
  | [], _, i, h => by simp at h
  | b :: r, h0, i, h => by
    simp only [leftOf] at h0
    cases b with
    | false => simp at h0
    | true =>
      cases i with
      | zero => rfl
      | succ i => rw [List.getElem?_cons_succ]; exact leftOf_zero (by simpa using h0) i (by simpa using h)
theorem leftOf_rep : ∀ n, leftOf (List.replicate n false) = n
  | 0 => rfl
  | n + 1 => by rw [List.replicate_succ]; simp only [leftOf]; rw [leftOf_rep n]; simp; omega

/-- more generations, another world with the same heap -/
theorem WRel.up {G h c c' w w'} (W : WRel G h c w) (hc : c ≤ c') (e : w'.heap = w.heap) : WRel G h c' w' := by
  have L : Later G G h h c c' w w' := { (Stp.refl G h c w).toLater with cc := hc, rw := fun b _ => by rw [e] }
  exact { gen := fun nm g b x => Nat.lt_of_lt_of_le (W.gen nm g b x) hc
          blk := fun nm g b x => (W.blk nm g b x).later L (W.gen nm g b x) (by rw [e]) id (by rw [e]; exact id)
          apart := W.apart
          old := by rw [e]; exact W.old }

section
variable {P : Program} {Φ : Nat → Option FnF}

theorem draw_any {F : Fence} {m : Nat} (hW : FW F) {N} {ops : Array Oper} {aos : List AOper} {Q : Exit → Act → World → Prop} {G : Gh} {s s' : St} {a : Act} {w : World} (hΦ : PhiOK P Φ G s.h s.c w)
    (hf : drawFit P N ops aos = true) (hN : a.tmps.size = N) {ds : List Deferred} (hd : a.defers = ds) (S : SRel G s a w) (he : evRegD Φ s.c [] s aos = some s')
    (hQ : ∀ a' w' G', a'.tmps.size = N → a'.defers = ds → Stp G G' s.h s'.h s.c s'.c w w' → SRel G' s' a' w' → Q .normal a' w') : P.follows .mixedOrders = true ∧ wpAnyIn F m P .any ops Q ops.size (Array.replicate ops.size false) a { w with drawn := w.drawn + 1 } := by
  simp only [drawFit, Bool.and_eq_true] at hf
  obtain ⟨hm, hl, hA, hP⟩ := hf
  refine ⟨hm, ?_⟩
  obtain ⟨hlen, hget⟩ := listFit_get hl
  obtain ⟨st, e0, e1, T0⟩ := evRegD_tr aos [] s he
  have T : Tr Φ aos st := ⟨fun i o hi => by
    obtain ⟨q, hq⟩ := T0 i o hi
    rw [List.nil_append, ← e0] at hq
    exact ⟨q, hq⟩⟩
  have O : OrdOK aos := ⟨fun i ao hi j hj => by
    have hlt : i < ops.size := by have := (List.getElem?_eq_some_iff.1 hi).1; simp at hlen; omega
    exact ((anFit_spec hA (Array.getElem?_eq_getElem hlt) hi).2 j hj).1, fun j i x y h1 h2 h3 h4 => pairFit_spec hP h1 h2 h3 h4⟩
  have hsz : ops.size = aos.length := by simpa using hlen
  have hops : ∀ (i : Nat) (o : Oper), ops[i]? = some o → ∃ ao, aos[i]? = some ao ∧ operFit P N ops o ao = true := fun i o hi => hget i o (by simpa using hi)
  have hb : ∀ i, i ≤ aos.length → (∀ nm g b, (st i).h.get nm g = some b → g < (st i).c ∧ RefsB (fun _ g => g < (st i).c) b) ∧ (∀ t v, envGet (st i).env t = some v → Refs (fun _ g => g < (st i).c) v) :=
    T.bound (fun nm g b x => by rw [e0] at x ⊢; exact ⟨S.wrel.gen nm g b x, (S.wrel.blk nm g b x).refs⟩) (fun t v x => by rw [e0] at x ⊢; exact (S.env.tm t v x).2.refs)
  generalize hw1 : ({ w with drawn := w.drawn + 1 } : World) = w1
  have hh : w1.heap = w.heap := by rw [← hw1]
  have St0 : Stp G G s.h s.h s.c s.c w w1 := by rw [← hw1]; exact Stp.drew G s.h s.c w
  have hcn : s.c ≤ (st aos.length).c := by have := T.mono (Nat.zero_le _) (Nat.le_refl aos.length); rwa [e0] at this
  -- what holds when all ran
  have fin : ∀ {S : Nat → Prop} {G' H w' a'}, DInv aos st G w1 S G' H w' a' → a'.tmps.size = N → a'.defers = ds → (∀ i, i < aos.length → S i) → Q .normal a' w' := by
    intro S G' H w' a' D hN' hd' hall
    have hS : ¬ S aos.length := fun x => by have := D.lt _ x; omega
    have none : ∀ o, aos[aos.length]? = some o → False := fun o x => by simp at x
    have hg : ∀ nm g, H.get nm g = (st aos.length).h.get nm g := fun nm g => D.heap _ (Nat.le_refl _) hS nm (fun o x => (none o x).elim) (fun j x h1 _ _ => hall j h1) g
    have hs : ∀ nm g b, (st aos.length).h.get nm g = some b → H.get nm g = some b := fun nm g b x => by rw [hg]; exact x
    have hlv : ∀ nm g, liveN (st aos.length).h nm g → liveN H nm g := fun nm g x => let ⟨b, y, z⟩ := x; ⟨b, hs _ _ _ y, z⟩
    refine hQ a' w' G' hN' hd' ?_ ⟨?_, ?_⟩
    · refine St0.trans ?_
      rw [← e1, ← e0]
      refine Own.stp { D.own with owns := fun nm g x => D.own.owns nm g (hlv nm g x) } D.gh (by rw [e0]; exact hcn) (fun nm g hlt x => ?_)
      obtain ⟨b, x⟩ := x
      exact D.lv nm g hlt ⟨b, hs _ _ _ x⟩
    · rw [← e1]; exact D.wrel.fewer hs
    · rw [← e1]
      refine ⟨?_, D.gl⟩
      intro t v hv
      obtain ⟨y1, y2, _⟩ := D.env _ (Nat.le_refl _) hS t (fun o x => (none o x).elim) (fun j x h1 _ _ => hall j h1) v hv
      exact ⟨y1, y2.later (Later.fewer hs)⟩
  have key : ∀ (fuel : Nat) (listed : Array Bool) (G' : Gh) (H : AH) (w' : World) (a' : Act), listed.size = aos.length → leftOf listed.toList = fuel →
      DInv aos st G w1 (fun j => listed.getD j false = true) G' H w' a' → a'.tmps.size = N → a'.defers = ds → wpAnyIn F m P .any ops Q fuel listed a' w' := by
    intro fuel
    have trues : ∀ (listed : Array Bool), listed.size = aos.length → Region.ready .any ops listed = [] → ∀ i, i < aos.length → listed.getD i false = true := by
      intro listed hls hr i
      induction i using Nat.strongRecOn with
      | ind i ih =>
        intro hi
        cases hli : listed.getD i false with
        | true => rfl
        | false =>
          have ho : ops[i]? = some (ops[i]'(by omega)) := Array.getElem?_eq_getElem (by omega)
          obtain ⟨ao, hao, _⟩ := hops i _ ho
          have hmem : i ∈ Region.ready .any ops listed := by
            rw [mem_ready]
            refine ⟨?_, _, ho, fun e he hb => ?_⟩
            · simp [Array.getD, hls, hi] at hli ⊢; exact hli
            · have hlt := (anFit_spec hA ho hao).1 e he hb
              exact ih e.on hlt (by omega)
          rw [hr] at hmem; cases hmem
    induction fuel with
    | zero =>
      intro listed G' H w' a' hls hleft D hN' hd'
      have hall : ∀ i, i < aos.length → listed.getD i false = true := fun i hi => by
        have := leftOf_zero hleft i (by simpa [hls] using hi)
        simp at this
        simp [Array.getD, hls, hi]
        have h2 := Array.getElem?_eq_some_iff.1 this
        exact h2.2
      refine ⟨?_, fin D hN' hd' hall⟩
      cases hr : Region.ready .any ops listed with
      | nil => rfl
      | cons i r =>
        have hmem : i ∈ Region.ready .any ops listed := by rw [hr]; exact List.mem_cons_self
        rw [mem_ready] at hmem
        obtain ⟨h1, o, ho, _⟩ := hmem
        have hi : i < aos.length := by have := (Array.getElem?_eq_some_iff.1 ho).1; omega
        have h2 := hall i hi
        simp [Array.getD, hls, hi] at h1 h2
        rw [h1] at h2; cases h2
    | succ fuel ih =>
      intro listed G' H w' a' hls hleft D hN' hd'
      refine ⟨fun hr => fin D hN' hd' (trues listed hls hr), fun i hi => ?_⟩
      obtain ⟨h1, o, ho, hedge⟩ := mem_ready.1 hi
      have hlt : i < aos.length := by have := (Array.getElem?_eq_some_iff.1 ho).1; omega
      obtain ⟨ao, hao, hfit⟩ := hops i o ho
      have hS : ¬ listed.getD i false = true := by
        simp [Array.getD, hls, hlt] at h1 ⊢; exact h1
      refine D.step hW (by rw [e0]; exact hΦ.later St0.toLater) T O hb hN' ho hao hfit hS (fun j hj => ?_) (fun cv w2 G2 H2 D2 => ?_)
      · obtain ⟨_, e, he, hbd, h2⟩ := (anFit_spec hA ho hao).2 j hj
        rcases h2 with rfl | ⟨x, hx, hjx⟩
        · exact hedge e he hbd
        · exact D.closed e.on x hx (hedge e he hbd) j hjx
      · refine ih _ G2 H2 w2 _ (by simp [hls]) ?_ ?_ (by rw [put_size]; exact hN') (by rw [put_defers]; exact hd')
        · have : listed.toList[i]? = some false := by
            simp [Array.getD, hls, hlt] at h1
            simp [hls, hlt, h1]
          have h3 := leftOf_set this
          rw [Array.toList_setIfInBounds]
          omega
        · have e : (fun j => (listed.setIfInBounds i true).getD j false = true) = fun j => listed.getD j false = true ∨ j = i := by
            funext j
            apply propext
            by_cases hji : j = i
            · subst hji
              simp [Array.getD, hls, hlt]
            · rw [getD_set_ne false (Ne.symm hji)]
              simp [hji]
          rw [e]; exact D2
  have rep : ∀ j, (Array.replicate ops.size false).getD j false = false := fun j => by
    simp [Array.getD]
  have start : DInv aos st G w1 (fun j => (Array.replicate ops.size false).getD j false = true) G s.h w1 a := by
    have hS : ∀ j, ¬ (Array.replicate ops.size false).getD j false = true := fun j => by rw [rep]; simp
    refine ⟨fun i x => absurd x (hS i), fun i o _ x => absurd x (hS i), S.wrel.up hcn hh, fun i hi _ t _ hw v hv => ?_, fun i hi _ nm _ hw g => ?_, fun nm g b x => ?_, ?_, fun g _ => ⟨rfl, rfl, rfl, rfl, rfl, rfl⟩, fun nm g _ x => by rw [e0]; exact x, S.env.gl.later St0.toLater⟩
    · have : envGet (st i).env t = envGet (st 0).env t := T.env (Nat.zero_le _) hi (fun j x _ h1 h2 h3 => absurd (hw j x h1 h2 h3) (hS j))
      rw [this, e0] at hv
      obtain ⟨y1, y2⟩ := S.env.tm t v hv
      refine ⟨y1, y2.later { (Stp.refl G s.h s.c w).toLater with cc := hcn, rw := fun b _ => by rw [hh] }, y2.refs.mono (fun _ g x => .inl ?_)⟩
      rw [e0]; exact x
    · have : (st i).h.get nm g = (st 0).h.get nm g := T.heap (Nat.zero_le _) hi (fun j x _ h1 h2 h3 => absurd (hw j x h1 h2 h3) (hS j))
      rw [this, e0]
    · refine ⟨.inl ?_, (S.wrel.blk nm g b x).refs.mono (fun _ g x => .inl ?_)⟩
      · rw [e0]; exact S.wrel.gen nm g b x
      · rw [e0]; exact x
    · rw [e0]; exact Own.refl _ _ _
  refine key ops.size _ G s.h w1 a (by simp [hsz]) (by rw [Array.toList_replicate]; exact leftOf_rep _) start hN hd
theorem draw_ok {F : Fence} {m : Nat} (hW : FW F) {N id} {ops : Array Oper} {aos : List AOper} {Q : Exit → Act → World → Prop} {G : Gh} {s s' : St} {a : Act} {w : World} (hΦ : PhiOK P Φ G s.h s.c w)
    (hf : drawFit P N ops aos = true) (hN : a.tmps.size = N) {ds : List Deferred} (hd : a.defers = ds) (S : SRel G s a w) (he : evRegD Φ s.c [] s aos = some s')
    (hQ : ∀ a' w' G', a'.tmps.size = N → a'.defers = ds → Stp G G' s.h s'.h s.c s'.c w w' → SRel G' s' a' w' → Q .normal a' w') : (Code.region id ops true).wpIn F m P Q a w :=
  let ⟨hm, h⟩ := draw_any hW hΦ hf hN hd S he hQ
  wpIn_region_any hm h
end
end Go.Abs

namespace Go.Abs
variable [Globs]
open Go
section
variable {P : Program} {G : Gh} {h : AH} {c : Nat} {w : World}

theorem get_gen : ∀ {h : AH} {nm g g' : Nat} {b b' : Blk}, h.get nm g = some b → h.get nm g' = some b' → g = g'
  | [], nm, g, g', b, b', x, y => by cases x
  | e :: r, nm, g, g', b, b', x, y => by
    simp only [AH.get] at x y
    split at x
    · next hn =>
      rw [if_pos hn] at y
      split at x
      · next h1 =>
        split at y
        · next h2 => rw [Nat.beq_eq] at h1 h2; exact h1.symm.trans h2
        · cases y
      · cases x
    · next hn => rw [if_neg hn] at y; exact get_gen x y

/-- the record of a loop over a function turns -/
theorem turn_lp {nm g : Nat} {st : RecSt} (st' : RecSt) (W : WRel G h c w) (hb : h.get nm g = some (.lp st)) :
    Stp G G h (h.put nm g (.lp st')) c c w (w.putObj (G.blk g) (.loop (st'.loop (G.lp g)))) ∧ WRel G (h.put nm g (.lp st')) c (w.putObj (G.blk g) (.loop (st'.loop (G.lp g)))) := by
  have hlN : liveN h nm g := ⟨_, hb, by simp⟩
  have hR : ¬ G.R true (G.blk g) := by
    cases W.blk _ _ _ hb with
    | lp _ _ hR => exact hR
  have hlt : G.blk g < w.heap.size := (W.blk _ _ _ hb).lt
  have L : Later G G h (h.put nm g (.lp st')) c c w (w.putObj (G.blk g) (.loop (st'.loop (G.lp g)))) :=
    { (Stp.refl G h c w).toLater with
      lv := fun n2 g2 _ x => by
        rcases live_put.1 x with ⟨rfl, rfl⟩ | ⟨_, x⟩
        · exact hlN.live
        · exact x
      rw := fun b hb => World.putObj_heap_other (fun e => hR (e ▸ hb)) }
  constructor
  · exact { L with
      r1' := fun _ x => x
      size := by rw [World.putObj_size]; exact Nat.le_refl _
      os := rfl
      tape := rfl
      output := rfl
      keep := fun b _ hn => World.putObj_heap_other (fun e => hn nm g hlN e.symm)
      owns := fun n2 g2 x => by
        rcases liveN_put x with ⟨rfl, rfl⟩ | ⟨_, x⟩
        · exact .inl ⟨_, _, hlN, rfl⟩
        · exact .inl ⟨_, _, x, rfl⟩
      froze := fun _ x => .inl x }
  · refine W.put L (by rw [World.putObj_size]; exact Nat.le_refl _) (fun n2 g2 hn hl2 => ?_) (W.gen _ _ _ hb) (.lp st' (World.putObj_heap_same hlt) hR) (fun b hb => by rw [World.putObj_size]; exact W.old b hb)
    have hne : G.blk g ≠ G.blk g2 := by
      rcases W.apart _ _ _ _ hlN hl2 with ⟨e, _⟩ | e
      · exact absurd e.symm hn
      · exact e
    exact ⟨World.putObj_heap_other (Ne.symm hne), fun _ => hne, id⟩

/-- the loop has ended: nobody speaks of its record any more -/
theorem end_lp {nm g : Nat} {st : RecSt} {L' : Loop} (W : WRel G h c w) (hb : h.get nm g = some (.lp st)) :
    Stp G G h (h.del nm) c c w (w.putObj (G.blk g) (.loop L')) ∧ WRel G (h.del nm) c (w.putObj (G.blk g) (.loop L')) := by
  have hlN : liveN h nm g := ⟨_, hb, by simp⟩
  have hR : ¬ G.R true (G.blk g) := by
    cases W.blk _ _ _ hb with
    | lp _ _ hR => exact hR
  have hs : ∀ n2 g2 b, (h.del nm).get n2 g2 = some b → n2 ≠ nm ∧ h.get n2 g2 = some b := by
    intro n2 g2 b x
    rw [get_del] at x
    split at x
    · cases x
    · next hn => exact ⟨hn, x⟩
  have L : Later G G h (h.del nm) c c w (w.putObj (G.blk g) (.loop L')) :=
    { (Stp.refl G h c w).toLater with
      lv := fun n2 g2 _ x => let ⟨b, x⟩ := x; ⟨b, (hs _ _ _ x).2⟩
      rw := fun b hb => World.putObj_heap_other (fun e => hR (e ▸ hb)) }
  constructor
  · exact { L with
      r1' := fun _ x => x
      size := by rw [World.putObj_size]; exact Nat.le_refl _
      os := rfl
      tape := rfl
      output := rfl
      keep := fun b _ hn => World.putObj_heap_other (fun e => hn nm g hlN e.symm)
      owns := fun n2 g2 x => let ⟨b, x, n⟩ := x; .inl ⟨_, _, ⟨b, (hs _ _ _ x).2, n⟩, rfl⟩
      froze := fun _ x => .inl x }
  · refine ⟨fun n2 g2 b x => W.gen _ _ _ (hs _ _ _ x).2, fun n2 g2 b x => ?_, fun n1 g1 n2 g2 l1 l2 => ?_, fun b hb => by rw [World.putObj_size]; exact W.old b hb⟩
    · obtain ⟨hn, x⟩ := hs _ _ _ x
      by_cases hgn : b = .gone
      · subst hgn
        exact .gone (by rw [World.putObj_size]; exact (W.blk _ _ _ x).lt)
      · have hne : G.blk g2 ≠ G.blk g := by
          rcases W.apart n2 g2 nm g ⟨b, x, hgn⟩ hlN with ⟨e, _⟩ | e
          · exact absurd e hn
          · exact e
        exact (W.blk _ _ _ x).later L (W.gen _ _ _ x) (World.putObj_heap_other hne) id (fun hlt => by rw [World.putObj_size]; exact hlt)
    · obtain ⟨b1, x1, k1⟩ := l1
      obtain ⟨b2, x2, k2⟩ := l2
      exact W.apart _ _ _ _ ⟨b1, (hs _ _ _ x1).2, k1⟩ ⟨b2, (hs _ _ _ x2).2, k2⟩

def Gh.newL (G : Gh) (c b : Nat) (L : Loop) : Gh := { G.new c b 0 0 0 0 with lp := fun g => if g = c then L else G.lp g }
theorem Gh.newL_R {G : Gh} {c b L t x} : (G.newL c b L).R t x = G.R t x := by cases t <;> rfl

/-- the record of a loop is laid -/
theorem new_lp {nm : Nat} {L : Loop} {w' : World} (W : WRel G h c w) (hw : w'.heap = w.heap.push (.loop (RecSt.ready.loop L))) (h1 : w'.os = w.os) (h2 : w'.tape = w.tape) (h3 : w'.output = w.output) :
    Stp G (G.newL c w.heap.size L) h (h.put nm c (.lp .ready)) c (c + 1) w w' ∧ WRel (G.newL c w.heap.size L) (h.put nm c (.lp .ready)) (c + 1) w' := by
  have hk : ∀ k, k < w.heap.size → w'.heap[k]? = w.heap[k]? := by
    intro k hk
    rw [hw, Array.getElem?_push, if_neg (by omega)]
  have hsz : w.heap.size ≤ w'.heap.size := by rw [hw]; simp
  have LL : Later G (G.newL c w.heap.size L) h (h.put nm c (.lp .ready)) c (c + 1) w w' :=
    { gh := fun g hg => by
        have : g ≠ c := by omega
        simp [Gh.newL, Gh.new, this]
      lpf := fun g hg => by
        have : g ≠ c := by omega
        simp [Gh.newL, this]
      r0 := fun _ x => x
      r1 := fun _ x => x
      opq := rfl
      cc := by omega
      lv := fun nm' g' hg x => by
        rcases live_put.1 x with ⟨_, rfl⟩ | ⟨_, x⟩
        · omega
        · exact x
      rw := fun b hb => hk b (W.old b hb) }
  constructor
  · exact { LL with
      r1' := fun _ x => x
      size := hsz
      os := h1
      tape := h2
      output := h3
      keep := fun b hb _ => hk b hb
      owns := fun nm' g' x => by
        rcases liveN_put x with ⟨_, rfl⟩ | ⟨_, x⟩
        · right; simp [Gh.newL, Gh.new]
        · left
          have hg' : g' < c := by obtain ⟨b, y, _⟩ := x; exact W.gen _ _ _ y
          exact ⟨nm', g', x, by simp [Gh.newL, Gh.new, show g' ≠ c by omega]⟩
      froze := fun _ x => .inl x }
  · refine W.put LL hsz (fun nm2 g2 hn hl2 => ?_) (by omega) (.lp .ready ?_ ?_) (fun b hb => ?_)
    · obtain ⟨b2, x, _⟩ := hl2
      have hlt := (W.blk _ _ _ x).lt
      refine ⟨hk _ hlt, fun _ => ?_, fun x => x⟩
      simp [Gh.newL, Gh.new]; omega
    · simp only [Gh.newL, Gh.new, if_true]
      rw [hw]; simp
    · rw [Gh.newL_R]
      simp only [Gh.newL, Gh.new, if_true]
      intro x; have := W.old _ x; omega
    · exact Nat.lt_of_lt_of_le (W.old b hb) hsz

/-- the marks of loops over functions among the deferred calls -/
def mark (D : Nat) : Deferred := { target := .collected D, args := #[] }
def MkOK (n0 : Nat) (G : Gh) (h : AH) (w : World) (ds : List Deferred) : Prop :=
  n0 ≤ w.heap.size ∧ ∃ Ds : List Nat, ds = Ds.map mark ∧ Ds.Nodup ∧ ∀ D ∈ Ds, w.heap[D]? = some (.deferred (some [])) ∧ ¬ owned G h D ∧ ¬ G.R true D ∧ n0 ≤ D
theorem MkOK.nil {n0 : Nat} {G : Gh} {h : AH} {w : World} (h0 : n0 ≤ w.heap.size) : MkOK n0 G h w [] := ⟨h0, [], rfl, .nil, fun D h => by cases h⟩
theorem MkOK.stp {n0 : Nat} {G' : Gh} {h' : AH} {c' : Nat} {w' : World} {ds : List Deferred} (M : MkOK n0 G h w ds) (S : Stp G G' h h' c c' w w') : MkOK n0 G' h' w' ds := by
  obtain ⟨h0, Ds, e, hn, H⟩ := M
  refine ⟨Nat.le_trans h0 S.size, Ds, e, hn, fun D hD => ?_⟩
  obtain ⟨h1, h2, h3, h4⟩ := H D hD
  have hlt : D < w.heap.size := (Array.getElem?_eq_some_iff.1 h1).1
  refine ⟨(S.keep D hlt (fun nm g hl e => h2 ⟨nm, g, hl, e⟩)).trans h1, ?_, ?_, h4⟩
  · rintro ⟨nm, g, hl, e⟩
    rcases S.owns nm g hl with ⟨nm', g', hl', e'⟩ | x
    · exact h2 ⟨nm', g', hl', e'.trans e⟩
    · omega
  · rintro (x | x)
    · rcases S.froze D x with y | ⟨nm, g, hl, e⟩ | y
      · exact h3 (.inl y)
      · exact h2 ⟨nm, g, hl, e⟩
      · omega
    · exact h3 (.inr (S.r1' D x))
/-- one more -/
theorem MkOK.cons {n0 : Nat} {ds : List Deferred} {D : Nat} (M : MkOK n0 G h w ds) (h1 : w.heap[D]? = some (.deferred (some []))) (h2 : ¬ owned G h D) (h3 : ¬ G.R true D) (h4 : n0 ≤ D) (hd : mark D ∉ ds) : MkOK n0 G h w (mark D :: ds) := by
  obtain ⟨h0, Ds, rfl, hn, H⟩ := M
  refine ⟨h0, D :: Ds, rfl, ?_, fun D' hD => ?_⟩
  · rw [List.nodup_cons]
    exact ⟨fun x => hd (List.mem_map_of_mem x), hn⟩
  · rcases List.mem_cons.1 hD with rfl | hD
    · exact ⟨h1, h2, h3, h4⟩
    · exact H D' hD

/-- the record and the block for deferred calls of a loop, as the machine lays them -/
theorem enter_lp {n0 nm : Nat} {ds : List Deferred} {L : Loop} (W : WRel G h c w) (M : MkOK n0 G h w ds) :
    let w2 := (w.alloc (.deferred (some []))).alloc (.loop (RecSt.ready.loop L))
    Stp G (G.newL c (w.heap.size + 1) L) h (h.put nm c (.lp .ready)) c (c + 1) w w2 ∧ WRel (G.newL c (w.heap.size + 1) L) (h.put nm c (.lp .ready)) (c + 1) w2 ∧ MkOK n0 (G.newL c (w.heap.size + 1) L) (h.put nm c (.lp .ready)) w2 (mark w.heap.size :: ds) := by
  obtain ⟨S1, W1⟩ := grow_any (w' := w.alloc (.deferred (some []))) (o := .deferred (some [])) W rfl rfl rfl rfl
  have hs1 : (w.alloc (.deferred (some []))).heap.size = w.heap.size + 1 := World.size_alloc w _
  obtain ⟨S2, W2⟩ := new_lp (nm := nm) (L := L) (w' := (w.alloc (.deferred (some []))).alloc (.loop (RecSt.ready.loop L))) W1 rfl rfl rfl rfl
  rw [hs1] at S2 W2
  have M1 := M.stp S1
  have M1' : MkOK n0 G h (w.alloc (.deferred (some []))) (mark w.heap.size :: ds) := by
    refine M1.cons (World.alloc_heap_new w _) (fun x => ?_) (fun x => ?_) M.1 (fun x => ?_)
    · have := W.lt x; omega
    · have := W.old _ x; omega
    · obtain ⟨_, Ds, rfl, _, H⟩ := M
      obtain ⟨D, hD, e⟩ := List.mem_map.1 x
      have e' : D = w.heap.size := by
        have : (mark D).target = (mark w.heap.size).target := by rw [e]
        simpa [mark] using this
      have := (Array.getElem?_eq_some_iff.1 (H D hD).1).1
      omega
  exact ⟨S1.trans S2, W2, M1'.stp S2⟩
end
end Go.Abs

namespace Go.Abs
variable [Globs]
open Go

/-- no loop over a function in it -/
def AC.noR : AC → Bool
  | .seq a b | .cond _ a b => a.noR && b.noR
  | .block _ b | .loop _ _ b | .keep _ _ b => b.noR
  | .rfun .. => false
  | _ => true

def codeFit (P : Program) (N : Nat) : Code → AC → Bool
  | .skip, .skip => true
  | .region _ ops draw, .reg draw' aos => draw == draw' && (if draw then drawFit P N ops aos else listFit P N ops ops.toList aos)
  | .seq a b, .seq a' b' => codeFit P N a a' && codeFit P N b b'
  | .cond c a b, .cond c' a' b' => xFit c c' && codeFit P N a a' && codeFit P N b b'
  | .block id b, .block id' b' => id == id' && codeFit P N b b'
  | .loop b, .loop _ _ b' => codeFit P N b b'
  | .exit id, .exit id' => id == id'
  | .ret, .ret => true
  | .rangeFunc f params assign body, .rfun _ x ps _ A B => xFit f x && params.toList == ps && ps.all (fun p => decide (p < N)) && A.noR && B.noR && codeFit P N assign A && codeFit P N body B
  | c, .keep _ _ b => codeFit P N c b
  | _, _ => false

def Ex.real : Ex → Exit
  | .normal => .normal
  | .exit id => .exit id
  | .ret => .ret

section
variable {P : Program} {Φ : Nat → Option FnF} {w : World} {a : Act} {s : St}

/-- the goal of a piece of code: whatever holds of all that it may come to -/
def Good (n0 : Nat) (G : Gh) (s s' : St) (N : Nat) (ex : Ex) (w : World) (Q : Exit → Act → World → Prop) : Prop :=
  ∀ a' w' G', a'.tmps.size = N → MkOK n0 G' s'.h w' a'.defers → Stp G G' s.h s'.h s.c s'.c w w' → SRel G' s' a' w' → Q ex.real a' w'

theorem regs_ok {F : Fence} {m : Nat} (hW : FW F) {N} {ops : Array Oper} {Q : Exit → Act → World → Prop} : ∀ (os : List Oper) (aos : List AOper) (n : Nat) {n0 : Nat} {G : Gh} {s s' : St} {a : Act} {w : World}, listFit P N ops os aos = true → (∀ j, os[j]? = ops[n + j]?) → a.tmps.size = N → MkOK n0 G s.h w a.defers → SRel G s a w → PhiOK P Φ G s.h s.c w → evReg Φ s aos = some s' →
    Good n0 G s s' N .normal w Q → wpOpsIn F m P ops Q ((List.range os.length).map (n + ·)) a w
  | [], [], n, n0, G, s, s', a, w, _, _, hN, hd, S, hΦ, he, hQ => by
    simp only [evReg, Option.some.injEq] at he
    subst he
    exact hQ a w G hN hd (Stp.refl _ _ _ _) S
  | o :: os, ao :: aos, n, n0, G, s, s', a, w, hf, hi, hN, hd, S, hΦ, he, hQ => by
    simp only [listFit, Bool.and_eq_true] at hf
    simp only [evReg, Option.bind_eq_some_iff] at he
    obtain ⟨s1, h1, h2⟩ := he
    have e : (List.range (o :: os).length).map (n + ·) = n :: (List.range os.length).map (n + 1 + ·) := by
      simp only [List.length_cons, List.range_succ_eq_map, List.map_cons, List.map_map, Nat.add_zero]
      congr 1
      apply List.map_congr_left
      intro x _
      show n + (x + 1) = n + 1 + x
      omega
    rw [e, wpOpsIn_cons]
    have hi0 := hi 0
    simp at hi0
    refine oper_okF hW hΦ hf.1 hN S h1 hi0.symm (fun a' w' G' hN' hd' St S' => ?_)
    refine regs_ok hW os aos (n + 1) hf.2 (fun j => ?_) hN' (by rw [hd']; exact hd.stp St) S' (hΦ.later St.toLater) h2 (fun a2 w2 G2 x1 x2 x3 x4 => hQ a2 w2 G2 x1 x2 (St.trans x3) x4)
    have := hi (j + 1)
    simp only [List.getElem?_cons_succ] at this
    rw [this]; congr 1; omega
  | [], _ :: _, _, _, _, _, _, _, _, hf, _, _, _, _, _, _, _ => by simp [listFit] at hf
  | _ :: _, [], _, _, _, _, _, _, _, hf, _, _, _, _, _, _, _ => by simp [listFit] at hf

theorem SRel.only {G : Gh} {s : St} {kt kh} (S : SRel G s a w) : SRel G { s with env := envOnly kt s.env, h := s.h.only kh } a w := by
  have hs : ∀ nm g b, (s.h.only kh).get nm g = some b → s.h.get nm g = some b := by
    intro nm g b x
    rw [get_only] at x
    split at x
    · exact x
    · cases x
  refine ⟨S.wrel.fewer hs, ⟨fun n v hv => ?_, S.env.gl⟩⟩
  simp only at hv
  rw [envGet_only] at hv
  split at hv
  · obtain ⟨h1, h2⟩ := S.env.tm n v hv
    exact ⟨h1, h2.later (Later.fewer hs)⟩
  · cases hv

theorem Stp.only {G : Gh} {h : AH} {c kh} : Stp G G h (h.only kh) c c w w := by
  have hs : ∀ nm g b, (h.only kh).get nm g = some b → h.get nm g = some b := by
    intro nm g b x
    rw [get_only] at x
    split at x
    · exact x
    · cases x
  exact { Stp.refl G h c w with
    lv := fun nm g _ x => by obtain ⟨b, x⟩ := x; exact ⟨b, hs _ _ _ x⟩
    owns := fun nm g x => by obtain ⟨b, x, n⟩ := x; exact .inl ⟨nm, g, ⟨b, hs _ _ _ x, n⟩, rfl⟩ }

theorem FW.inRound {F : Fence} (h : FW F) (l : Nat) : FW (F.inRound l) := by
  rcases h with rfl | ⟨l', rfl⟩
  · exact .inr ⟨l, rfl⟩
  · exact .inr ⟨l, rfl⟩

/-- the parameters of a round, set -/
theorem par_rel {G : Gh} {h : AH} {c N : Nat} {ds : List Deferred} : ∀ {ps : List Nat} {vs : List AV} {cvs : List Value} {env : Env} {tmps : Array Value}, LRel G h c w vs cvs → tmps.size = N → (∀ p ∈ ps, p < N) → EnvRel G h c w env ⟨tmps, ds⟩ →
    ((ps.zip cvs).foldl (fun tmps (t, a) => tmps.setIfInBounds t a) tmps).size = N ∧ EnvRel G h c w (envPar env ps vs) ⟨(ps.zip cvs).foldl (fun tmps (t, a) => tmps.setIfInBounds t a) tmps, ds⟩
  | [], vs, cvs, env, tmps, L, hN, hp, E => by
    simp only [List.zip_nil_left, List.foldl_nil]
    refine ⟨hN, ?_⟩
    cases vs <;> exact E
  | p :: ps, [], cvs, env, tmps, L, hN, hp, E => by
    rw [L.nil_inv]
    exact ⟨hN, E⟩
  | p :: ps, v :: vs, cvs, env, tmps, L, hN, hp, E => by
    obtain ⟨v', cvs', rfl, R, L'⟩ := L.cons_inv
    simp only [List.zip_cons_cons, List.foldl_cons, envPar]
    refine par_rel L' (by simpa using hN) (fun q hq => hp q (List.mem_cons_of_mem _ hq)) ?_
    have := E.put (d := p) (a := ⟨tmps, ds⟩) (by show p < tmps.size; rw [hN]; exact hp p List.mem_cons_self) R
    exact this

theorem ev_ok {N k} : ∀ (ac : AC) {F : Fence} {m : Nat} (hW : FW F) {Φ : Nat → Option FnF} {c : Code} {n0 : Nat} {G : Gh} {s s' : St} {ex : Ex} {a : Act} {w : World} {Q : Exit → Act → World → Prop}, (F = Fence.wide ∨ ac.noR = true) → codeFit P N c ac = true → a.tmps.size = N → MkOK n0 G s.h w a.defers → SRel G s a w → PhiOK P Φ G s.h s.c w → ev Φ k ac s = some (ex, s') →
    Good n0 G s s' N ex w Q → c.wpIn F m P Q a w
  | .skip, F, m, hW, Φ, c, n0, G, s, s', ex, a, w, Q, hr, hf, hN, hd, S, hΦ, he, hQ => by
    cases c <;> simp only [codeFit, Bool.false_eq_true] at hf
    simp only [ev, Option.some.injEq, Prod.mk.injEq] at he
    obtain ⟨rfl, rfl⟩ := he
    exact wpIn_skip (hQ a w G hN hd (Stp.refl _ _ _ _) S)
  | .reg draw aos, F, m, hW, Φ, c, n0, G, s, s', ex, a, w, Q, hr, hf, hN, hd, S, hΦ, he, hQ => by
    cases c <;> simp only [codeFit, Bool.false_eq_true, Bool.and_eq_true, beq_iff_eq] at hf
    next id ops draw' =>
    obtain ⟨rfl, hf⟩ := hf
    cases draw' with
    | true =>
      simp only [ev, Option.map_eq_some_iff] at he
      obtain ⟨s1, h1, he⟩ := he
      simp only [Prod.mk.injEq] at he
      obtain ⟨rfl, rfl⟩ := he
      simp only [if_true] at hf
      exact draw_ok hW hΦ hf hN rfl S h1 (fun a' w' G' x1 x2 x3 x4 => hQ a' w' G' x1 (by rw [x2]; exact hd.stp x3) x3 x4)
    | false =>
      simp only [ev, Option.map_eq_some_iff] at he
      obtain ⟨s1, h1, he⟩ := he
      simp only [Prod.mk.injEq] at he
      obtain ⟨rfl, rfl⟩ := he
      simp only [Bool.false_eq_true, if_false] at hf
      refine wpIn_region ?_
      have := regs_ok hW (m := m) (Q := Q) ops.toList aos 0 hf (fun j => by simp) hN hd S hΦ h1 hQ
      simpa using this
  | .seq x y, F, m, hW, Φ, c, n0, G, s, s', ex, a, w, Q, hr, hf, hN, hd, S, hΦ, he, hQ => by
    cases c <;> simp only [codeFit, Bool.false_eq_true, Bool.and_eq_true] at hf
    simp only [AC.noR, Bool.and_eq_true] at hr
    simp only [ev] at he
    cases hx : ev Φ k x s with
    | none => rw [hx] at he; cases he
    | some r =>
      obtain ⟨ex1, s1⟩ := r
      rw [hx] at he
      refine wpIn_seq (ev_ok x hW (hr.imp id And.left) hf.1 hN hd S hΦ hx ?_)
      cases ex1 with
      | normal =>
        simp only at he
        exact fun a' w' G' x1 x2 x3 x4 => ev_ok y hW (hr.imp id And.right) hf.2 x1 x2 x4 (hΦ.later x3.toLater) he (fun a2 w2 G2 y1 y2 y3 y4 => hQ a2 w2 G2 y1 y2 (x3.trans y3) y4)
      | exit id => obtain ⟨rfl, rfl⟩ : Ex.exit id = ex ∧ s1 = s' := by simpa using he
                   exact fun a' w' G' x1 x2 x3 x4 => hQ a' w' G' x1 x2 x3 x4
      | ret => obtain ⟨rfl, rfl⟩ : Ex.ret = ex ∧ s1 = s' := by simpa using he
               exact fun a' w' G' x1 x2 x3 x4 => hQ a' w' G' x1 x2 x3 x4
  | .cond q x y, F, m, hW, Φ, c, n0, G, s, s', ex, a, w, Q, hr, hf, hN, hd, S, hΦ, he, hQ => by
    cases c <;> simp only [codeFit, Bool.false_eq_true, Bool.and_eq_true] at hf
    simp only [AC.noR, Bool.and_eq_true] at hr
    next q' x' y' =>
    simp only [ev] at he
    split at he
    · next hq =>
      have rq := xFit_rel hf.1.1 S.env hq
      generalize hcv : a.eval q' = cv at rq
      cases rq
      exact wpIn_cond_true hcv (ev_ok x hW (hr.imp id And.left) hf.1.2 hN hd S hΦ he hQ)
    · next hq =>
      have rq := xFit_rel hf.1.1 S.env hq
      generalize hcv : a.eval q' = cv at rq
      cases rq
      exact wpIn_cond_false hcv (ev_ok y hW (hr.imp id And.right) hf.2 hN hd S hΦ he hQ)
    · cases he
  | .block id x, F, m, hW, Φ, c, n0, G, s, s', ex, a, w, Q, hr, hf, hN, hd, S, hΦ, he, hQ => by
    cases c <;> simp only [codeFit, Bool.false_eq_true, Bool.and_eq_true, beq_iff_eq] at hf
    next id' x' =>
    obtain ⟨rfl, hf⟩ := hf
    simp only [ev] at he
    cases hx : ev Φ k x s with
    | none => rw [hx] at he; cases he
    | some r =>
      obtain ⟨ex1, s1⟩ := r
      rw [hx] at he
      refine wpIn_block (ev_ok x hW hr hf hN hd S hΦ hx ?_)
      cases ex1 with
      | normal => obtain ⟨rfl, rfl⟩ : Ex.normal = ex ∧ s1 = s' := by simpa using he
                  exact fun a' w' G' x1 x2 x3 x4 => hQ a' w' G' x1 x2 x3 x4
      | exit id2 =>
        simp only at he
        intro a' w' G' x1 x2 x3 x4
        simp only [Ex.real, Exit.inBlock]
        split at he
        · next hid =>
          obtain ⟨rfl, rfl⟩ : Ex.normal = ex ∧ s1 = s' := by simpa using he
          rw [if_pos (by simpa using hid)]
          exact hQ a' w' G' x1 x2 x3 x4
        · next hid =>
          obtain ⟨rfl, rfl⟩ : Ex.exit id2 = ex ∧ s1 = s' := by simpa using he
          rw [if_neg (by simpa using hid)]
          exact hQ a' w' G' x1 x2 x3 x4
      | ret => obtain ⟨rfl, rfl⟩ : Ex.ret = ex ∧ s1 = s' := by simpa using he
               exact fun a' w' G' x1 x2 x3 x4 => hQ a' w' G' x1 x2 x3 x4
  | .loop kt kh x, F, m, hW, Φ, c, n0, G, s, s', ex, a, w, Q, hr, hf, hN, hd, S, hΦ, he, hQ => by
    cases c <;> simp only [codeFit, Bool.false_eq_true] at hf
    next x' =>
    simp only [ev] at he
    have key : ∀ (n : Nat) {G : Gh} {s : St} {a : Act} {w : World}, a.tmps.size = N → MkOK n0 G s.h w a.defers → SRel G s a w → PhiOK P Φ G s.h s.c w → iter (ev Φ k x) kt kh n s = some (ex, s') → Good n0 G s s' N ex w Q → Code.roundsIn F m P x' Q n a w := by
      intro n
      induction n with
      | zero => intro G s a w _ _ _ _ hi _; simp [iter] at hi
      | succ n ih =>
        intro G s a w hN hd S hΦ hi hQ
        simp only [iter] at hi
        rw [roundsIn_succ]
        cases hx : ev Φ k x { s with env := envOnly kt s.env, h := s.h.only kh } with
        | none => rw [hx] at hi; cases hi
        | some r =>
          obtain ⟨ex1, s1⟩ := r
          rw [hx] at hi
          have hpre : ∀ {G' w'}, Stp G G' (s.h.only kh) s1.h s.c s1.c w w' → Stp G G' s.h s1.h s.c s1.c w w' := fun z => Stp.only.trans z
          refine ev_ok x hW hr hf hN (hd.stp (c := s.c) Stp.only) S.only (hΦ.later Stp.only.toLater) hx ?_
          cases ex1 with
          | normal =>
            simp only at hi
            exact fun a' w' G' x1 x2 x3 x4 => ih x1 x2 x4 (hΦ.later (hpre x3).toLater) hi (fun a2 w2 G2 y1 y2 y3 y4 => hQ a2 w2 G2 y1 y2 ((hpre x3).trans y3) y4)
          | exit id => obtain ⟨rfl, rfl⟩ : Ex.exit id = ex ∧ s1 = s' := by simpa using hi
                       exact fun a' w' G' x1 x2 x3 x4 => hQ a' w' G' x1 x2 (hpre x3) x4
          | ret => obtain ⟨rfl, rfl⟩ : Ex.ret = ex ∧ s1 = s' := by simpa using hi
                   exact fun a' w' G' x1 x2 x3 x4 => hQ a' w' G' x1 x2 (hpre x3) x4
    exact wpIn_loop_rounds k (key k hN hd S hΦ he hQ)
  | .keep kt kh x, F, m, hW, Φ, c, n0, G, s, s', ex, a, w, Q, hr, hf, hN, hd, S, hΦ, he, hQ => by
    have hf' : codeFit P N c x = true := by cases c <;> simpa only [codeFit] using hf
    simp only [ev] at he
    exact ev_ok x hW hr hf' hN (hd.stp (c := s.c) Stp.only) S.only (hΦ.later Stp.only.toLater) he (fun a' w' G' x1 x2 x3 x4 => hQ a' w' G' x1 x2 (Stp.only.trans x3) x4)
  | .exit id, F, m, hW, Φ, c, n0, G, s, s', ex, a, w, Q, hr, hf, hN, hd, S, hΦ, he, hQ => by
    cases c <;> simp only [codeFit, Bool.false_eq_true, beq_iff_eq] at hf
    subst hf
    simp only [ev, Option.some.injEq, Prod.mk.injEq] at he
    obtain ⟨rfl, rfl⟩ := he
    exact wpIn_exit (hQ a w G hN hd (Stp.refl _ _ _ _) S)
  | .ret, F, m, hW, Φ, c, n0, G, s, s', ex, a, w, Q, hr, hf, hN, hd, S, hΦ, he, hQ => by
    cases c <;> simp only [codeFit, Bool.false_eq_true] at hf
    simp only [ev, Option.some.injEq, Prod.mk.injEq] at he
    obtain ⟨rfl, rfl⟩ := he
    exact wpIn_ret (hQ a w G hN hd (Stp.refl _ _ _ _) S)
  | .rfun nm x ps kt A B, F, m, hW, Φ, c, n0, G, s, s', ex, a, w, Q, hr, hf, hN, hd, S, hΦ, he, hQ => by
    cases c <;> simp only [codeFit, Bool.false_eq_true, Bool.and_eq_true, beq_iff_eq] at hf
    next g params assign body =>
    obtain ⟨⟨⟨⟨⟨⟨hx, hps⟩, hpN⟩, hA⟩, hB⟩, hfA⟩, hfB⟩ := hf
    have hpN' : ∀ p ∈ ps, p < N := by simpa using hpN
    have hwide : F = Fence.wide := hr.resolve_right (by simp [AC.noR])
    subst hwide
    simp only [ev] at he
    split at he
    · next f cap hcl =>
      simp only [Option.bind_eq_some_iff] at he
      obtain ⟨Fn, hFn, r, hr1, hend⟩ := he
      have rx := xFit_rel hx S.env hcl
      obtain ⟨us, hus, Lc⟩ := rx.fn_inv
      refine wpIn_rangeFunc ?_
      intro fn hfn
      obtain ⟨L, hL⟩ : ∃ L : Loop, L = { state := .ready, pending := none, fn, tmps := a.tmps, params, assign, body, defers := w.heap.size } := ⟨_, rfl⟩
      have hrec : RecSt.ready.loop L = L := by rw [hL]; rfl
      obtain ⟨S2, W2, M2⟩ := enter_lp (nm := nm) (L := L) S.wrel hd
      rw [hrec] at S2 W2 M2
      generalize hw2 : (w.alloc (.deferred (some []))).alloc (.loop L) = w2 at *
      generalize hG2 : G.newL s.c (w.heap.size + 1) L = G2 at *
      have hl : G2.blk s.c = w.heap.size + 1 := by rw [← hG2]; simp [Gh.newL, Gh.new]
      have hlp : G2.lp s.c = L := by rw [← hG2]; simp [Gh.newL]
      have hcb := (hΦ.fn f Fn hFn).can_itr hr1
      have hΦ2 := hΦ.later S2.toLater
      have LC : LRel G2 (s.h.put nm s.c (.lp .ready)) (s.c + 1) w2 (.yld nm s.c :: cap) (.func (.yield (w.heap.size + 1)) #[] #[] :: us) :=
        .cons (.yld _ _ _ (by omega) (fun _ => hl.symm)) (Lc.later S2.toLater)
      have gl2 : GlobOK G2.R0 w2 := S.env.gl.later S2.toLater
      -- one round
      have hY : YldOK P nm (around (ev Φ k A) (ev Φ k B) (envOnly kt s.env) nm s.c ps) G2 (s.h.put nm s.c (.lp .ready)) (s.c + 1) w2 := by
        intro G3 h3 c3 w3 g3 vs cvs r3 L3 W3 gl3 Lv hget hYr
        unfold around at hYr
        split at hYr
        · next hget' =>
          obtain rfl := get_gen hget hget'
          have hlp3 : G3.lp s.c = L := (L3.lpf s.c (by omega)).trans hlp
          have hblk3 : G3.blk s.c = w.heap.size + 1 := (L3.gh s.c (by omega)).1.trans hl
          have hΦ3 := hΦ2.later L3
          split at hYr
          · next hlen =>
            have hsz : cvs.length = (G3.lp s.c).params.size := by
              rw [hlp3, hL, Lv.1, ← hlen, ← hps]; simp
            refine ⟨hsz, fun F' m' hW' => roundIn_of_wpIn (hW'.fn _) ?_⟩
            have hW2' := hW'.inRound (G3.blk s.c)
            have E3 : EnvRel G3 h3 c3 w3 (envOnly kt s.env) ⟨a.tmps, []⟩ := by
              refine ⟨fun n v hv => ?_, gl3⟩
              rw [envGet_only] at hv
              split at hv
              · obtain ⟨y1, y2⟩ := S.env.tm n v hv
                exact ⟨y1, y2.later (S2.toLater.trans L3)⟩
              · cases hv
            obtain ⟨hN3, EP⟩ := par_rel Lv hN hpN' E3
            have hfold : ((G3.lp s.c).params.zip ⟨cvs⟩).foldl (fun tmps (t, a) => tmps.setIfInBounds t a) (G3.lp s.c).tmps = (ps.zip cvs).foldl (fun tmps (t, a) => tmps.setIfInBounds t a) a.tmps := by
              rw [hlp3, hL, ← hps, ← Array.foldl_toList, Array.toList_zip]
            rw [hfold, show (G3.lp s.c).assign = assign by rw [hlp3, hL], show (G3.lp s.c).body = body by rw [hlp3, hL]]
            split at hYr
            · next s1 hs1 =>
              split at hYr
              · next hbusy =>
                simp only [Option.bind_eq_some_iff] at hYr
                obtain ⟨⟨ex2, s2⟩, hs2, hre⟩ := hYr
                refine ev_ok A (m := m') hW2' (.inr hA) (Φ := Φ) (n0 := 0) hfA hN3 (.nil (Nat.zero_le _)) ⟨W3, EP⟩ hΦ3 hs1 (fun a4 w4 G4 x1 x2 x3 x4 => ?_)
                have hb4 : w4.heap[G4.blk s.c]? = some (.loop (RecSt.ready.loop (G4.lp s.c))) := by
                  cases x4.wrel.blk _ _ _ hbusy with
                  | lp _ hb => exact hb
                have hg3 : s.c < c3 := W3.gen _ _ _ hget
                have hblk4 : G4.blk s.c = G3.blk s.c := (x3.gh s.c hg3).1
                obtain ⟨S5, W5⟩ := turn_lp .busy x4.wrel hbusy
                have hΦ5 := (hΦ3.later x3.toLater).later S5.toLater
                refine ⟨_, by rw [← hblk4]; exact run_beginRound hb4 rfl, ?_⟩
                refine ev_ok B (m := m') hW2' (.inr hB) (Φ := Φ) (s := { s1 with h := s1.h.put nm s.c (.lp .busy) }) hfB x1 (x2.stp S5) ⟨W5, x4.env.later S5.toLater⟩ hΦ5 hs2 (fun a6 w6 G6 y1 y2 y3 y4 => ?_)
                simp only [roundEnd] at hre
                split at hre
                · next hbz =>
                  have hb6 : w6.heap[G6.blk s.c]? = some (.loop (RecSt.busy.loop (G6.lp s.c))) := by
                    cases y4.wrel.blk _ _ _ hbz with
                    | lp _ hb => exact hb
                  have hg5 : s.c < s1.c := Nat.lt_of_lt_of_le hg3 x3.cc
                  have hblk6 : G6.blk s.c = G3.blk s.c := (y3.gh s.c hg5).1.trans hblk4
                  have er := fun j => run_endRound (P := P) j hb6
                  rw [hblk6] at er
                  cases ex2 with
                  | normal =>
                    simp only [Option.some.injEq] at hre
                    subst hre
                    obtain ⟨S7, W7⟩ := turn_lp .ready y4.wrel hbz
                    rw [hblk6] at S7 W7
                    exact ⟨_, _, er none, _, _, rfl, ((x3.trans S5).trans y3).trans S7, W7, .bool true⟩
                  | exit id =>
                    simp only [Option.some.injEq] at hre
                    subst hre
                    obtain ⟨S7, W7⟩ := turn_lp (.done (.exit id)) y4.wrel hbz
                    rw [hblk6] at S7 W7
                    exact ⟨_, _, er (some (.exit id)), _, _, rfl, ((x3.trans S5).trans y3).trans S7, W7, .bool false⟩
                  | ret =>
                    simp only [Option.some.injEq] at hre
                    subst hre
                    obtain ⟨S7, W7⟩ := turn_lp (.done .ret) y4.wrel hbz
                    rw [hblk6] at S7 W7
                    exact ⟨_, _, er (some .ret), _, _, rfl, ((x3.trans S5).trans y3).trans S7, W7, .bool false⟩
                · cases hre
              · cases hYr
            · cases hYr
          · cases hYr
        · cases hYr
      have C := (hΦ.fn f Fn hFn).itr nm _ G2 _ _ w2 _ _ r W2 gl2 hY LC hr1
      refine ⟨w.heap.size + 1, [mark w.heap.size], w2, { target := .fn (.func f) ⟨us⟩, args := #[.func (.yield (w.heap.size + 1)) #[] #[]] }, w2, f, ⟨.func (.yield (w.heap.size + 1)) #[] #[] :: us⟩, w2, ?_, ?_, ?_, ?_, depth_F hW, ?_⟩
      · rw [← hw2, hL]; exact run_enterLoop_outer _ _ _ _ _
      · simp only [resolve, hus]
        simp [go_sem]
      · intro f' _; exact hW.fn f'
      · simp only [invoke]
        rw [callFunc_run hcb]; simp
      · refine (callsIn_F hW C).mono ?_
        rintro e w5 ⟨cv, G5, rfl, S5, W5, _⟩
        obtain ⟨r1, h5, c5⟩ := r
        simp only at S5 W5
        have hbl : G5.blk s.c = w.heap.size + 1 := (S5.gh s.c (by omega)).1.trans hl
        have fin : ∀ {st} {L' : Loop}, h5.get nm s.c = some (.lp st) → SRel G5 ⟨s.env, h5.del nm, c5⟩ { a with defers := mark w.heap.size :: a.defers } (w5.putObj (w.heap.size + 1) (.loop L')) ∧
            Stp G G5 s.h (h5.del nm) s.c c5 w (w5.putObj (w.heap.size + 1) (.loop L')) ∧ MkOK n0 G5 (h5.del nm) (w5.putObj (w.heap.size + 1) (.loop L')) (mark w.heap.size :: a.defers) := by
          intro st L' hg
          obtain ⟨S6, W6⟩ := end_lp (L' := L') W5 hg
          rw [hbl] at S6 W6
          have S7 := (S2.trans S5).trans S6
          refine ⟨⟨W6, ?_⟩, S7, (M2.stp S5).stp S6⟩
          have := S.env.later S7.toLater
          exact ⟨this.tm, this.gl⟩
        have hb5 : ∀ {st}, h5.get nm s.c = some (.lp st) → w5.heap[w.heap.size + 1]? = some (.loop (st.loop (G5.lp s.c))) := by
          intro st hg
          cases W5.blk _ _ _ hg with
          | lp _ hb => rw [← hbl]; exact hb
        simp only [rangeEnd] at hend
        split at hend
        · next hg =>
          simp only [Option.some.injEq, Prod.mk.injEq] at hend
          obtain ⟨rfl, rfl⟩ := hend
          obtain ⟨z1, z2, z3⟩ := fin (L' := { RecSt.ready.loop (G5.lp s.c) with state := .exhausted }) hg
          exact ⟨none, _, run_endLoop (hb5 hg) (by simp [RecSt.loop]), hQ { a with defers := mark w.heap.size :: a.defers } _ _ hN z3 z2 z1⟩
        · next ex0 hg =>
          simp only [Option.some.injEq, Prod.mk.injEq] at hend
          obtain ⟨rfl, rfl⟩ := hend
          obtain ⟨z1, z2, z3⟩ := fin (L' := { (RecSt.done ex0).loop (G5.lp s.c) with state := .exhausted }) hg
          refine ⟨some ex0.code, _, run_endLoop (hb5 hg) (by simp [RecSt.loop]), ?_⟩
          have hq := hQ { a with defers := mark w.heap.size :: a.defers } _ _ hN z3 z2 z1
          cases ex0 with
          | normal => exact wpIn_skip hq
          | exit id => exact wpIn_exit hq
          | ret => exact wpIn_ret hq
        · cases hend
    · cases he
end
end Go.Abs

namespace Go.Abs
variable [Globs]
open Go

inductive ParPv : List AV → List AV → Prop
  | nil : ParPv [] []
  | pv {cs nm g bs vs} (t : ParPv bs vs) : ParPv (.pv cs :: bs) (.ptr nm g 0 :: vs)
  | other {b v bs vs} (hn : ∀ cs, b ≠ .pv cs) (t : ParPv bs vs) : ParPv (b :: bs) (v :: vs)

theorem inVals_par : ∀ {bs h c nm vs h' c'}, inVals h c nm bs = some (vs, h', c') → ParPv bs vs
  | [], h, c, nm, vs, h', c', he => by
    simp only [inVals, Option.some.injEq, Prod.mk.injEq] at he
    obtain ⟨rfl, _, _⟩ := he
    exact .nil
  | b :: bs, h, c, nm, vs, h', c', he => by
    simp only [inVals, Option.bind_eq_some_iff, Option.map_eq_some_iff] at he
    obtain ⟨p, hp, q, hq, he⟩ := he
    simp only [Prod.mk.injEq] at he
    obtain ⟨rfl, rfl, rfl⟩ := he
    have ih := inVals_par (vs := q.1) (h' := q.2.1) (c' := q.2.2) hq
    unfold inVal at hp
    split at hp
    · exact .other (fun cs e => by cases e) ih
    · simp only [Option.map_eq_some_iff] at hp
      obtain ⟨x, _, rfl⟩ := hp
      exact .pv ih
    · next hn => exact .other (fun cs e => by subst e; exact hn _ rfl) ih

def resFit (P : Program) : List ResultVar → List (Nat × Option (Option Nat)) → Bool
  | [], [] => true
  | .tmp t :: r, (t', none) :: q => t == t' && resFit P r q
  | .cell t ty :: r, (t', some n) :: q => t == t' && nFit P ty n && !(n == some 0) && resFit P r q
  | _, _ => false

section
variable {P : Program} {Φ : Nat → Option FnF} {G : Gh} {w : World} {a : Act} {s : St}

theorem res_one {t : Tmp} {ty : TypeId} {n v} (S : SRel G s a w) (hn : nFit P ty n = true) (hn0 : n ≠ some 0) {p cs} (hp : envGet s.env t = some p) (hcs : cellsAt s.h p = some cs) (hv : part cs n = some v) :
    ∃ cv, (do loadVar ty (← asAddr (a.tmps.getD t undef)) : Sem Value).run P w = .ok cv w ∧ VRel G s.h s.c w v cv := by
  have rp := (S.env.tm t p hp).2
  have hne : cs ≠ [] := by
    intro e; subst e
    cases n with
    | none => simp [part] at hv
    | some n => simp [part] at hv; obtain ⟨e, _⟩ := hv; subst e; exact hn0 rfl
  obtain ⟨ad, hcx, H⟩ := cellsAt_run S.wrel rp hcs hne
  rw [hcx]
  cases n with
  | none =>
    simp only [part] at hv
    obtain ⟨v', x1, x2⟩ := H.2 0 v (by rw [← hv, List.head?_eq_getElem?])
    have x1' : w.cell? ad = some v' := by
      rw [← x1]; congr 1; have := H.1; cases ad; simp_all
    exact ⟨v', by simp [asAddr, loadVar, run_isAgg (nFit_none hn), x1'], x2⟩
  | some n =>
    obtain ⟨ha, hs⟩ := nFit_some hn
    simp only [part] at hv
    split at hv
    · next hle =>
      obtain rfl := Option.some.inj hv
      obtain ⟨vs, h1, L⟩ := run_loadCells_rel (P := P) (H.take n)
      rw [List.length_take, Nat.min_eq_left hle] at h1
      exact ⟨.agg ⟨vs⟩, by simp [asAddr, loadVar, run_isAgg ha, run_sizeOf hs, h1], .agg_mk L⟩
    · cases hv

theorem res_list (S : SRel G s a w) : ∀ {rs : List ResultVar} {q vs}, resFit P rs q = true → resVals s q = some vs →
    ∃ cvs, (rs.mapM (fun | .tmp t => pure (a.tmps.getD t undef) | .cell x t => do loadVar t (← asAddr (a.tmps.getD x undef)) : ResultVar → Sem Value)).run P w = .ok cvs w ∧ LRel G s.h s.c w vs cvs
  | [], [], vs, _, hv => by
    simp only [resVals, Option.some.injEq] at hv
    subst hv
    exact ⟨[], rfl, .nil⟩
  | .tmp t :: rs, (t', none) :: q, vs, hf, hv => by
    simp only [resFit, Bool.and_eq_true, beq_iff_eq] at hf
    obtain ⟨rfl, hf⟩ := hf
    simp only [resVals, Option.bind_eq_some_iff, Option.map_eq_some_iff] at hv
    obtain ⟨v, h1, vs', h2, rfl⟩ := hv
    obtain ⟨cvs, e, L⟩ := res_list S hf h2
    exact ⟨_ :: cvs, by simp only [List.mapM_cons, Sem.run_bind, Sem.run_pure, Result.andThen_ok, e], .cons (S.env.tm t v h1).2 L⟩
  | .cell t ty :: rs, (t', some n) :: q, vs, hf, hv => by
    simp only [resFit, Bool.and_eq_true, beq_iff_eq, Bool.not_eq_true', beq_eq_false_iff_ne] at hf
    obtain ⟨⟨⟨rfl, h0⟩, h0'⟩, hf⟩ := hf
    simp only [resVals, Option.bind_eq_some_iff, Option.map_eq_some_iff] at hv
    obtain ⟨p, h1, cs, h2, v, h3, vs', h4, rfl⟩ := hv
    obtain ⟨cvs, e, L⟩ := res_list S hf h4
    obtain ⟨cv, e1, R⟩ := res_one (P := P) S h0 h0' h1 h2 h3
    refine ⟨cv :: cvs, ?_, .cons R L⟩
    simp only [List.mapM_cons]
    rw [Sem.run_bind, e1]
    simp only [Result.andThen_ok, Sem.run_bind, e, Sem.run_pure]
  | .tmp _ :: _, (_, some _) :: _, _, hf, _ => by simp [resFit] at hf
  | .cell _ _ :: _, (_, none) :: _, _, hf, _ => by simp [resFit] at hf
  | [], _ :: _, _, hf, _ => by simp [resFit] at hf
  | .tmp _ :: _, [], _, hf, _ => by simp [resFit] at hf
  | .cell _ _ :: _, [], _, hf, _ => by simp [resFit] at hf

theorem results_run (S : SRel G s a w) {fn : Func} {q vs} (hf : resFit P fn.results.toList q = true) (hv : resVals s q = some vs) :
    ∃ cv, (results fn a.tmps).run P w = .ok cv w ∧ VRel G s.h s.c w (resVal vs) cv := by
  obtain ⟨cvs, e, L⟩ := res_list S hf hv
  have e' : (fn.results.mapM (fun | .tmp t => pure (a.tmps.getD t undef) | .cell x t => do loadVar t (← asAddr (a.tmps.getD x undef)) : ResultVar → Sem Value)).run P w = .ok cvs.toArray w := by
    rw [Array.mapM_eq_mapM_toList]
    rw [Sem.run_map, e]; rfl
  refine ⟨_, by simp only [results, Sem.run_bind]; erw [e']; rfl, ?_⟩
  unfold resVal
  split
  · next v =>
    obtain ⟨v', vs', rfl, R, L'⟩ := L.cons_inv
    rw [L'.nil_inv]
    simpa using R
  · next hne =>
    have hl := L.1
    have : ¬ cvs.toArray.size = 1 := by
      intro h1
      have : vs.length = 1 := by simp at h1; omega
      match vs, this with
      | [v], _ => exact hne v rfl
    rw [dif_neg this]
    exact .tup_mk L

theorem outPvs_ok {c : Nat} (h0 : AH) : ∀ {bs vs cvs h ps h1}, ParPv bs vs → LRel G h0 c w vs cvs → WRel G h c w → (∀ nm g b, h.get nm g = some b → h0.get nm g = some b) → outPvs h (argPvs bs vs) = some (ps, h1) →
    ∃ fp, FPvs (Gh.only G.R0 fun _ => False) w bs cvs ps fp ∧ OutOK G h h1 c w fp
  | [], [], cvs, h, ps, h1, _, L, W, hs, he => by
    simp only [argPvs, outPvs, Option.some.injEq, Prod.mk.injEq] at he
    obtain ⟨rfl, rfl⟩ := he
    rw [L.nil_inv]
    exact ⟨[], .nil, .refl⟩
  | b :: bs, v :: vs, cvs, h, ps, h1, Pr, L, W, hs, he => by
    obtain ⟨u, us, rfl, R, L'⟩ := L.cons_inv
    cases Pr with
    | @pv cs nm g _ _ t =>
      simp only [argPvs, outPvs] at he
      split at he
      · next cells hb =>
        split at he
        · next hlen =>
          simp only [Option.bind_eq_some_iff, Option.map_eq_some_iff] at he
          obtain ⟨p, hp, q, hq, he⟩ := he
          simp only [Prod.mk.injEq] at he
          obtain ⟨rfl, rfl⟩ := he
          obtain ⟨f1, F1, O1⟩ := mvVar_ok (fun _ => False) (bs := p.1) (h' := p.2) W hb hp
          obtain ⟨f2, F2, O2⟩ := outPvs_ok h0 t L' (W.fewer O1.sub) (fun nm g b x => hs _ _ _ (O1.sub _ _ _ x)) (ps := q.1) (h1 := q.2) hq
          cases R with
          | ptr _ _ _ ad hg hl =>
            have := hl ⟨_, hs _ _ _ hb⟩
            subst this
            exact ⟨_, .pv (by rw [mvCells_len hp, hlen]) F1 F2, O1.trans O2⟩
        · cases he
      · cases he
    | other hn t =>
      have e : argPvs (b :: bs) (v :: vs) = argPvs bs vs := by
        cases b <;> first | exact absurd rfl (hn _) | rfl
      rw [e] at he
      obtain ⟨f2, F2, O2⟩ := outPvs_ok h0 t L' W hs he
      exact ⟨f2, .skip hn F2, O2⟩
  | [], _ :: _, _, _, _, _, Pr, _, _, _, _ => by cases Pr
  | _ :: _, [], _, _, _, _, Pr, _, _, _, _ => by cases Pr

theorem FVals.len {vs cvs fp} (F : FVals G w vs cvs fp) : cvs.length = vs.length := by
  induction F with
  | nil => rfl
  | cons h t ih => simp [ih]

theorem envOf_get : ∀ (vs : List AV) (n m : Nat), envGet (envOf n vs) m = if n ≤ m then vs[m - n]? else none
  | [], n, m => by simp [envOf, envGet]
  | v :: vs, n, m => by
    simp only [envOf, envGet, Nat.beq_eq]
    by_cases h : n = m
    · subst h; simp
    · rw [if_neg h, envOf_get vs (n + 1) m]
      by_cases h2 : n ≤ m
      · rw [if_pos (by omega), if_pos h2, show m - n = (m - (n + 1)) + 1 by omega, List.getElem?_cons_succ]
      · rw [if_neg (by omega), if_neg h2]

/-- the functions' contracts hold wherever they are called: no yields among them -/
def PhiAll (P : Program) (Φ : Nat → Option FnF) : Prop := ∀ G h c w, PhiOK P Φ G h c w

/-- the marks of loops over functions are taken one by one; then the results are read -/
theorem leaves_marks {n n0 : Nat} {fn : Func} {tmps : Array Value} {R : Ending → World → Prop} {G : Gh} {h : AH} {c : Nat} : ∀ {ds : List Deferred} {w : World}, MkOK n0 G h w ds → WRel G h c w →
    (∀ w', WRel G h c w' → Later G G h h c c w w' → w.heap.size = w'.heap.size → w'.os = w.os → w'.tape = w.tape → w'.output = w.output → (∀ b, mark b ∉ ds → w'.heap[b]? = w.heap[b]?) → ∃ v, (results fn tmps).run P w' = .ok v w' ∧ R (.returned v) w') →
    LeavesInM Fence.wide n P fn tmps R ds .returning w
  | [], w, M, W, H => by
    obtain ⟨v, h1, h2⟩ := H w W (Stp.refl G h c w).toLater rfl rfl rfl rfl (fun _ _ => rfl)
    exact ⟨v, h1, h2⟩
  | d :: ds, w, M, W, H => by
    obtain ⟨h0, Ds, e, hn, HD⟩ := M
    cases Ds with
    | nil => cases e
    | cons D Ds =>
      simp only [List.map_cons, List.cons.injEq] at e
      obtain ⟨rfl, rfl⟩ := e
      obtain ⟨h1, h2, h3, h4⟩ := HD D List.mem_cons_self
      rw [List.nodup_cons] at hn
      have hlt : D < w.heap.size := (Array.getElem?_eq_some_iff.1 h1).1
      have hk : ∀ b, b ≠ D → (w.putObj D (.deferred none)).heap[b]? = w.heap[b]? := fun b hb => World.putObj_heap_other hb
      have L : Later G G h h c c w (w.putObj D (.deferred none)) := { (Stp.refl G h c w).toLater with rw := fun b hb => hk b (fun e => h3 (e ▸ hb)) }
      have W' : WRel G h c (w.putObj D (.deferred none)) := by
        refine ⟨W.gen, fun nm g b x => ?_, W.apart, fun b hb => by rw [World.putObj_size]; exact W.old b hb⟩
        by_cases hg : b = .gone
        · subst hg; exact .gone (by rw [World.putObj_size]; exact (W.blk _ _ _ x).lt)
        · exact (W.blk _ _ _ x).later L (W.gen _ _ _ x) (hk _ (fun e => h2 ⟨nm, g, ⟨b, x, hg⟩, e⟩)) id (fun y => by rw [World.putObj_size]; exact y)
      refine ⟨by simp, .inl ⟨D, _, rfl, run_takeDeferred h1, ?_⟩⟩
      refine leaves_marks (G := G) (h := h) (c := c) (n0 := n0) ⟨by rw [World.putObj_size]; exact h0, Ds, rfl, hn.2, fun D' hD' => ?_⟩ W' (fun w' W2 L2 s1 s2 s3 s4 hk2 => ?_)
      · obtain ⟨k1, k2, k3⟩ := HD D' (List.mem_cons_of_mem _ hD')
        exact ⟨(hk D' (fun e => hn.1 (e ▸ hD'))).trans k1, k2, k3⟩
      · refine H w' W2 (L.trans L2) (by rw [← s1, World.putObj_size]) s2 s3 s4 (fun b hb => ?_)
        simp only [List.mem_cons, not_or] at hb
        exact (hk2 b hb.2).trans (hk b (fun e => hb.1 (by rw [e])))

/-- What our evaluation of a function's code says, the machine's call does. -/
theorem evFun_refines (hΦ : PhiAll P Φ) {f : Nat} {fn : Func} {c : Code} {k : Nat} {af : AFun} (hf : P.funcs[f]? = some fn) (hb : fn.body = some c) (hn : fn.ntmps = af.ntmps) (hfit : codeFit P af.ntmps c af.code = true) (hres : resFit P fn.results.toList af.res = true) :
    Refines P f (evFun Φ k af) := by
  intro bs r ps he R0 R1 w cargs fp hgl FV hnd hfp hold
  unfold evFun at he
  split at he
  · cases he
  next hlen =>
  simp only [Option.bind_eq_some_iff, Option.map_eq_some_iff] at he
  obtain ⟨q, hq, s', hs', vs, hvs, p, hp, x, hx, he⟩ := he
  simp only [Prod.mk.injEq] at he
  obtain ⟨rfl, rfl⟩ := he
  have W0 : WRel (Gh.only R0 R1) [] 0 w :=
    { gen := fun _ _ _ x => by simp [AH.get] at x
      blk := fun _ _ _ x => by simp [AH.get] at x
      apart := fun _ _ _ _ x => by obtain ⟨_, y, _⟩ := x; simp [AH.get] at y
      old := fun b hb => hold b hb }
  have hno : ∀ G b, ¬ owned G [] b := fun G b ⟨_, _, ⟨_, y, _⟩, _⟩ => by simp [AH.get] at y
  obtain ⟨G1, I1, L1⟩ := inVals_ok (vs' := q.1) (h' := q.2.1) (c' := q.2.2) W0 FV hnd (fun b hb => ⟨hno _ b, fun z => z.elim (hfp b hb).1 (hfp b hb).2⟩) hq
  have hcl : cargs.length = bs.length := FV.len
  have hown1 : ∀ b, owned G1 q.2.1 b → b ∈ fp := fun b hb => (I1.own b hb).resolve_left (hno _ b)
  refine (callsIn_wide (n := 0)).1 (callsIn_of_wp_marks hf hb trivial ?_)
  let a0 : Act := { tmps := (⟨cargs⟩ : Array Value) ++ Array.replicate (fn.ntmps - (⟨cargs⟩ : Array Value).size) undef, defers := [] }
  have hsz : a0.tmps.size = af.ntmps := by
    simp only [a0, Array.size_append, Array.size_replicate, hn]
    show cargs.length + (af.ntmps - cargs.length) = _
    omega
  have S0 : SRel G1 ⟨envOf 0 q.1, q.2.1, q.2.2⟩ a0 w := by
    refine ⟨I1.wrel, ⟨fun n v hv => ?_, by rw [I1.r0]; exact hgl⟩⟩
    rw [envOf_get] at hv
    simp only [Nat.zero_le, if_true, Nat.sub_zero] at hv
    obtain ⟨v', h1, h2⟩ := L1.2 n v hv
    have hlt : n < cargs.length := (List.getElem?_eq_some_iff.1 h1).1
    refine ⟨by rw [hsz]; omega, ?_⟩
    have : a0.tmps.getD n undef = v' := by
      have h3 : n < (⟨cargs⟩ : Array Value).size := hlt
      simp only [a0, Array.getD, Array.size_append]
      rw [dif_pos (by omega)]
      show ((⟨cargs⟩ : Array Value) ++ _)[n] = _
      rw [Array.getElem_append_left h3]
      simp only [List.getElem_toArray]
      exact (List.getElem?_eq_some_iff.1 h1).2
    rw [this]; exact h2
  have body : ∃ ex, ev Φ k af.code ⟨envOf 0 q.1, q.2.1, q.2.2⟩ = some (ex, s') ∧ (ex = .normal ∨ ex = .ret) := by
    unfold evBody at hs'
    split at hs'
    · next h => obtain rfl := Option.some.inj hs'; exact ⟨_, h, .inl rfl⟩
    · next h => obtain rfl := Option.some.inj hs'; exact ⟨_, h, .inr rfl⟩
    · cases hs'
  obtain ⟨ex, hev, hex⟩ := body
  refine ev_ok (N := af.ntmps) af.code (.inl rfl) (.inl rfl) hfit hsz (n0 := w.heap.size) (.nil (Nat.le_refl _)) S0 (hΦ _ _ _ _) hev (fun a' w1 G' x1 x2 x3 x4 => ?_)
  have hnew : ∀ b, b < w.heap.size → mark b ∉ a'.defers := by
    intro b hb hm
    obtain ⟨_, Ds, e, _, HD⟩ := x2
    rw [e] at hm
    obtain ⟨D, hD, e2⟩ := List.mem_map.1 hm
    have e3 : D = b := by
      have : (mark D).target = (mark b).target := by rw [e2]
      simpa [mark] using this
    subst e3
    have := (HD D hD).2.2.2; omega
  rcases hex with rfl | rfl
  all_goals
    refine leaves_marks x2 x4.wrel (fun w' W4 L4 s1 s2 s3 s4 hk4 => ?_)
    have S4 : SRel G' s' a' w' := ⟨W4, x4.env.later L4⟩
    obtain ⟨cv, e, R⟩ := results_run S4 hres hvs
    refine ⟨cv, e, ?_⟩
    obtain ⟨fpp, FP, OP⟩ := outPvs_ok s'.h (inVals_par (vs := q.1) (h' := q.2.1) (c' := q.2.2) hq) (L1.later (x3.toLater.trans L4)) S4.wrel (fun _ _ _ z => z) (ps := p.1) (h1 := p.2) hp
    obtain ⟨fpr, FR, OR⟩ := outRes_ok (fun _ => False) (b := x.1) (h' := x.2) (S4.wrel.fewer OP.sub) (R.later (Later.fewer OP.sub)) hx
    have OO := OP.trans OR
    refine ⟨cv, G'.R0, fpr, fpp, rfl, by rw [← s1]; exact x3.size, s2.trans x3.os, s3.trans x3.tape, s4.trans x3.output, ?_, ?_, ?_, FR, FP, ?_, ?_⟩
    · intro b hb hnf
      exact (hk4 b (hnew b hb)).trans (x3.keep b hb (fun nm g hl e => hnf (hown1 b ⟨nm, g, hl, e⟩)))
    · intro b hb
      exact x3.r0 b (by rw [I1.r0]; exact hb)
    · intro b hb
      refine ⟨?_, S4.wrel.old b (.inl hb)⟩
      rcases x3.froze b hb with z | ⟨nm, g, hl, e⟩ | z
      · rw [I1.r0] at z; exact .inl z
      · exact .inr (.inl (hown1 b ⟨nm, g, hl, e⟩))
      · exact .inr (.inr z)
    · have := OO.nodup
      rw [List.nodup_append] at this ⊢
      exact ⟨this.2.1, this.1, fun x hx y hy e => this.2.2 y hy x hx e.symm⟩
    · intro b hb
      have hb' : b ∈ fpp ++ fpr := by
        rcases List.mem_append.1 hb with z | z
        · exact List.mem_append_right _ z
        · exact List.mem_append_left _ z
      obtain ⟨⟨nm, g, hl, e⟩, _, hR⟩ := OO.fpo b hb'
      refine ⟨?_, fun z => hR (.inl z)⟩
      rcases x3.owns nm g hl with ⟨n2, g2, l2, e2⟩ | z
      · exact .inl (hown1 b ⟨n2, g2, l2, e2.trans e⟩)
      · exact .inr (e ▸ z)

/-- the same in the caller's memory -/
theorem evInl_run {Φ : Nat → Option FnF} {f : Nat} {fn : Func} {c : Code} {k : Nat} {af : AFun} (hf : P.funcs[f]? = some fn) (hb : fn.body = some c) (hn : fn.ntmps = af.ntmps) (hfit : codeFit P af.ntmps c af.code = true) (hres : resFit P fn.results.toList af.res = true)
    {G : Gh} {h : AH} {c0 : Nat} {w : World} {vs0 : List AV} {cargs : List Value} {r : AV × AH × Nat} (hΦ : PhiOK P Φ G h c0 w) (W0 : WRel G h c0 w) (hgl : GlobOK G.R0 w) (L0 : LRel G h c0 w vs0 cargs) (he : evInl Φ k af h c0 vs0 = some r) :
    Calls P f ⟨cargs⟩ w fun e w' => ∃ cv G', e = .returned cv ∧ Stp G G' h r.2.1 c0 r.2.2 w w' ∧ WRel G' r.2.1 r.2.2 w' ∧ VRel G' r.2.1 r.2.2 w' r.1 cv := by
  unfold evInl at he
  split at he
  · cases he
  next hlen =>
  simp only [Option.bind_eq_some_iff, Option.map_eq_some_iff] at he
  obtain ⟨s', hs', vs, hvs, rfl⟩ := he
  have hcl : cargs.length = vs0.length := L0.1
  refine (callsIn_wide (n := 0)).1 (callsIn_of_wp_marks hf hb trivial ?_)
  let a0 : Act := { tmps := (⟨cargs⟩ : Array Value) ++ Array.replicate (fn.ntmps - (⟨cargs⟩ : Array Value).size) undef, defers := [] }
  have hsz : a0.tmps.size = af.ntmps := by
    simp only [a0, Array.size_append, Array.size_replicate, hn]
    show cargs.length + (af.ntmps - cargs.length) = _
    omega
  have S0 : SRel G ⟨envOf 0 vs0, h, c0⟩ a0 w := by
    refine ⟨W0, ⟨fun n v hv => ?_, hgl⟩⟩
    rw [envOf_get] at hv
    simp only [Nat.zero_le, if_true, Nat.sub_zero] at hv
    obtain ⟨v', h1, h2⟩ := L0.2 n v hv
    have hlt : n < cargs.length := (List.getElem?_eq_some_iff.1 h1).1
    refine ⟨by rw [hsz]; omega, ?_⟩
    have : a0.tmps.getD n undef = v' := by
      have h3 : n < (⟨cargs⟩ : Array Value).size := hlt
      simp only [a0, Array.getD, Array.size_append]
      rw [dif_pos (by omega)]
      show ((⟨cargs⟩ : Array Value) ++ _)[n] = _
      rw [Array.getElem_append_left h3]
      simp only [List.getElem_toArray]
      exact (List.getElem?_eq_some_iff.1 h1).2
    rw [this]; exact h2
  have body : ∃ ex, ev Φ k af.code ⟨envOf 0 vs0, h, c0⟩ = some (ex, s') ∧ (ex = .normal ∨ ex = .ret) := by
    unfold evBody at hs'
    split at hs'
    · next h => obtain rfl := Option.some.inj hs'; exact ⟨_, h, .inl rfl⟩
    · next h => obtain rfl := Option.some.inj hs'; exact ⟨_, h, .inr rfl⟩
    · cases hs'
  obtain ⟨ex, hev, hex⟩ := body
  refine ev_ok (N := af.ntmps) af.code (.inl rfl) (.inl rfl) hfit hsz (n0 := w.heap.size) (.nil (Nat.le_refl _)) S0 hΦ hev (fun a' w1 G' x1 x2 x3 x4 => ?_)
  have hnew : ∀ b, b < w.heap.size → mark b ∉ a'.defers := by
    intro b hb hm
    obtain ⟨_, Ds, e, _, HD⟩ := x2
    rw [e] at hm
    obtain ⟨D, hD, e2⟩ := List.mem_map.1 hm
    have e3 : D = b := by
      have : (mark D).target = (mark b).target := by rw [e2]
      simpa [mark] using this
    subst e3
    have := (HD D hD).2.2.2; omega
  rcases hex with rfl | rfl
  all_goals
    refine leaves_marks x2 x4.wrel (fun w' W4 L4 s1 s2 s3 s4 hk4 => ?_)
    have S4 : SRel G' s' a' w' := ⟨W4, x4.env.later L4⟩
    obtain ⟨cv, e, R⟩ := results_run S4 hres hvs
    have S5 : Stp G G' h s'.h c0 s'.c w w' :=
      { x3.toLater.trans L4 with
        r1' := x3.r1'
        size := by rw [← s1]; exact x3.size
        os := s2.trans x3.os
        tape := s3.trans x3.tape
        output := s4.trans x3.output
        keep := fun b hb hn => (hk4 b (hnew b hb)).trans (x3.keep b hb hn)
        owns := x3.owns
        froze := x3.froze }
    exact ⟨cv, e, cv, G', rfl, S5, W4, R⟩
theorem evInl_ok (hΦ : PhiAll P Φ) {f : Nat} {fn : Func} {c : Code} {k : Nat} {af : AFun} (hf : P.funcs[f]? = some fn) (hb : fn.body = some c) (hn : fn.ntmps = af.ntmps) (hfit : codeFit P af.ntmps c af.code = true) (hres : resFit P fn.results.toList af.res = true) :
    RefInl P f (evInl Φ k af) :=
  fun _ _ _ _ _ _ _ W0 hgl L0 he => evInl_run hf hb hn hfit hres (hΦ _ _ _ _) W0 hgl L0 he
theorem evItr_ok (hΦ : PhiAll P Φ) {f : Nat} {fn : Func} {c : Code} {k : Nat} {af : AFun} (hf : P.funcs[f]? = some fn) (hb : fn.body = some c) (hn : fn.ntmps = af.ntmps) (hfit : codeFit P af.ntmps c af.code = true) (hres : resFit P fn.results.toList af.res = true) :
    RefItr P f (evItr Φ k af) :=
  fun _ _ _ _ _ _ _ _ _ W0 hgl hY L0 he => evInl_run hf hb hn hfit hres ((hΦ _ _ _ _).withY hY) W0 hgl L0 he

/-- A function's code against ours, closed. -/
def funFit (P : Program) (fn : Func) (af : AFun) : Bool :=
  match fn.body with
  | some c => fn.ntmps == af.ntmps && codeFit P af.ntmps c af.code && resFit P fn.results.toList af.res
  | none => false

theorem refines_fit {f : Nat} {fn : Func} {af : AFun} (hf : P.funcs[f]? = some fn) (h : funFit P fn af = true) (k : Nat) (hΦ : PhiAll P Φ) : Refines P f (evFun Φ k af) := by
  unfold funFit at h
  split at h
  · next c hb =>
    simp only [Bool.and_eq_true, beq_iff_eq] at h
    exact evFun_refines hΦ hf hb h.1.1 h.1.2 h.2
  · cases h

theorem inl_fit {f : Nat} {fn : Func} {af : AFun} (hf : P.funcs[f]? = some fn) (h : funFit P fn af = true) (k : Nat) (hΦ : PhiAll P Φ) : RefInl P f (evInl Φ k af) := by
  unfold funFit at h
  split at h
  · next c hb =>
    simp only [Bool.and_eq_true, beq_iff_eq] at h
    exact evInl_ok hΦ hf hb h.1.1 h.1.2 h.2
  · cases h
theorem inl_none {f : Nat} : RefInl P f InlF.none := fun _ _ _ _ _ _ _ _ _ _ h => by cases h
theorem itr_none {f : Nat} : RefItr P f fun _ _ => InlF.none := fun _ _ _ _ _ _ _ _ _ _ _ _ _ h => by cases h
theorem itr_fit {f : Nat} {fn : Func} {af : AFun} (hf : P.funcs[f]? = some fn) (h : funFit P fn af = true) (k : Nat) (hΦ : PhiAll P Φ) : RefItr P f (evItr Φ k af) := by
  unfold funFit at h
  split at h
  · next c hb =>
    simp only [Bool.and_eq_true, beq_iff_eq] at h
    exact evItr_ok hΦ hf hb h.1.1 h.1.2 h.2
  · cases h

theorem Refines.mono {f : Nat} {F F' : CallF} (H : Refines P f F) (h : ∀ bs r, F' bs = some r → F bs = some r) : Refines P f F' :=
  fun bs r ps he => H bs r ps (h bs _ he)

/-- the contract of a function: for each input some number of rounds will do -/
theorem refines_of {f : Nat} {fn : Func} {af : AFun} {F : CallF} (hf : P.funcs[f]? = some fn) (h : funFit P fn af = true) (hΦ : PhiAll P Φ) (H : ∀ bs r, F bs = some r → ∃ k, evFun Φ k af bs = some r) : Refines P f F :=
  fun bs r ps he => by
    obtain ⟨k, hk⟩ := H bs _ he
    exact refines_fit hf h k hΦ bs r ps hk

end
end Go.Abs
