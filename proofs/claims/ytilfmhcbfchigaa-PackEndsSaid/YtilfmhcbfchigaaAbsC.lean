/- Part 3 of Abs: what our evaluation of a function's code says, the machine's run does; no condition of its own. -/
import Derived.Test.YtilfmhcbfchigaaAbsB
set_option linter.unusedVariables false
set_option linter.unusedSimpArgs false
set_option linter.unusedSectionVars false
namespace Go.Abs
variable [Globs]
open Go

/-- a table of annotated code: each function is called as it is, and fits -/
def tabOK (P : Program) (T : List (Nat × AFun)) : Bool :=
  T.all fun p => callable P p.1 && (match P.funcs[p.1]? with | some fn => funFit P fn p.2 | none => false)
def lookT : List (Nat × AFun) → Nat → Option AFun
  | [], _ => none
  | (g, a) :: r, f => if Nat.beq g f then some a else lookT r f

/-- what the functions of a table do, n calls deep; T2: code for runs in the caller's memory -/
def Phi (T T2 : List (Nat × AFun)) (K : Nat) : Nat → Nat → Option FnF
  | 0, _ => none
  | n + 1, f => (lookT T f).map fun a => ⟨evFun (Phi T T2 K n) K a, match lookT T2 f with | some a2 => evInl (Phi T T2 K n) K a2 | none => InlF.none, match lookT T2 f with | some a2 => evItr (Phi T T2 K n) K a2 | none => fun _ _ => InlF.none, InlF.none⟩

theorem lookT_mem : ∀ {T f a}, lookT T f = some a → (f, a) ∈ T
  | [], f, a, h => by simp [lookT] at h
  | (g, b) :: r, f, a, h => by
    unfold lookT at h
    split at h
    · next e => rw [Nat.beq_eq] at e; subst e; obtain rfl := Option.some.inj h; exact List.mem_cons_self
    · exact List.mem_cons_of_mem _ (lookT_mem h)

theorem tab_spec {P T f a} (hT : tabOK P T = true) (h : lookT T f = some a) : callable P f = true ∧ ∃ fn, P.funcs[f]? = some fn ∧ funFit P fn a = true := by
  unfold tabOK at hT
  rw [List.all_eq_true] at hT
  have := hT _ (lookT_mem h)
  simp only [Bool.and_eq_true] at this
  refine ⟨this.1, ?_⟩
  cases hf : P.funcs[f]? with
  | none => rw [hf] at this; simp at this
  | some fn => rw [hf] at this; exact ⟨fn, rfl, this.2⟩

theorem tab_refines {P T f a Φ K} (hT : tabOK P T = true) (h : lookT T f = some a) (hΦ : PhiAll P Φ) : Refines P f (evFun Φ K a) := by
  obtain ⟨_, fn, h1, h2⟩ := tab_spec hT h
  exact refines_of h1 h2 hΦ (fun bs r he => ⟨K, he⟩)
theorem tab_inl {P T f a Φ K} (hT : tabOK P T = true) (h : lookT T f = some a) (hΦ : PhiAll P Φ) : RefInl P f (evInl Φ K a) := by
  obtain ⟨_, fn, h1, h2⟩ := tab_spec hT h
  exact inl_fit h1 h2 K hΦ

theorem tab_itr {P T f a Φ K} (hT : tabOK P T = true) (h : lookT T f = some a) (hΦ : PhiAll P Φ) : RefItr P f (evItr Φ K a) := by
  obtain ⟨_, fn, h1, h2⟩ := tab_spec hT h
  exact itr_fit h1 h2 K hΦ

theorem Phi_fn {P T T2 K} (hT : tabOK P T = true) (hT2 : tabOK P T2 = true) (n : Nat) (ih : PhiAll P (Phi T T2 K n)) (f F) (hF : Phi T T2 K (n + 1) f = some F) : FnOK P f F ∧ F.yl = InlF.none := by
  unfold Phi at hF
  rw [Option.map_eq_some_iff] at hF
  obtain ⟨a, ha, rfl⟩ := hF
  refine ⟨⟨.inl (tab_spec hT ha).1, tab_refines hT ha ih, ?_, ?_⟩, rfl⟩
  · show RefInl P f (match lookT T2 f with | some a2 => evInl (Phi T T2 K n) K a2 | none => InlF.none)
    split
    · next a2 h2 => exact tab_inl hT2 h2 ih
    · exact inl_none
  · show RefItr P f (match lookT T2 f with | some a2 => evItr (Phi T T2 K n) K a2 | none => fun _ _ => InlF.none)
    split
    · next a2 h2 => exact tab_itr hT2 h2 ih
    · exact itr_none
theorem Phi_ok {P T T2 K} (hT : tabOK P T = true) (hT2 : tabOK P T2 = true) : ∀ n, PhiAll P (Phi T T2 K n)
  | 0 => fun _ _ _ _ => ⟨fun _ _ h => by simp [Phi] at h, fun _ _ h => by simp [Phi] at h⟩
  | n + 1 => fun G h c w => ⟨fun f F hF => (Phi_fn hT hT2 n (Phi_ok hT hT2 n) f F hF).1, fun nm F hF => by
      rw [(Phi_fn hT hT2 n (Phi_ok hT hT2 n) _ F hF).2]
      exact fun _ _ _ _ _ _ _ _ _ _ _ _ _ hx => by cases hx⟩

/-- function f, n calls deep -/
def Ev (T T2 : List (Nat × AFun)) (K n f : Nat) : CallF := fun bs =>
  match Phi T T2 K n f with
  | some F => F.call bs
  | none => none
/-- iterator f, in the memory of the loop's function -/
def Jv (T T2 : List (Nat × AFun)) (K n f : Nat) : Nat → InlF → InlF := fun nm Y h c bs =>
  match Phi T T2 K n f with
  | some F => F.itr nm Y h c bs
  | none => none
def Iv (T T2 : List (Nat × AFun)) (K n f : Nat) : InlF := fun h c bs =>
  match Phi T T2 K n f with
  | some F => F.inl h c bs
  | none => none

theorem Ev_refines {P T T2 K n f F} (hT : tabOK P T = true) (hT2 : tabOK P T2 = true) (h : Phi T T2 K n f = some F) : Refines P f (Ev T T2 K n f) := by
  have := ((Phi_ok (K := K) hT hT2 n (Gh.only (fun _ => False) (fun _ => False)) [] 0 default).fn f F h).call
  have e : Ev T T2 K n f = F.call := by funext bs; unfold Ev; rw [h]
  rw [e]; exact this
end Go.Abs

namespace Go.Abs
variable [Globs]
open Go
/- lists of cells that name nothing, as wholes -/
@[simp] theorem envOnly_none : ∀ e : Env, envOnly [] e = []
  | [] => rfl
  | (m, v) :: r => by simp [envOnly, envOnly_none r]
@[simp] theorem only_none : ∀ h : AH, AH.only [] h = []
  | [] => rfl
  | e :: r => by simp [AH.only, only_none r]
theorem plain_cell {v : AV} (h : v.plain = true) : v.bare = true ∧ v.cellb = true := by
  cases v with
  | ro t sz rows => cases t <;> simp_all [AV.plain, AV.bare, AV.cellb]
  | _ => simp_all [AV.plain, AV.bare, AV.cellb]
theorem plain_lend {v : AV} (hp : AV.plain v = true) (h : AH) : lendCell h v = some v := by
  have := (plain_cell hp).1
  cases v <;> simp_all [AV.plain, lendCell]
theorem plain_mv {v : AV} (hp : AV.plain v = true) (h : AH) : mvCell h v = some (v, h) := by
  cases v <;> simp_all [AV.plain, mvCell]
theorem plain_in {v : AV} (hp : AV.plain v = true) (h : AH) (c nm : Nat) : inCell h c nm v = some (v, h, c) := by
  have := (plain_cell hp).1
  cases v <;> simp_all [AV.plain, inCell]
theorem plain_low {v : AV} (hp : AV.plain v = true) (ns al) : v.low1 ns al = true := by
  cases v <;> simp_all [AV.plain, AV.low1]
theorem plains_cellb : ∀ {l : List AV}, l.all AV.plain = true → l.all AV.cellb = true
  | [], _ => rfl
  | v :: r, h => by
    rw [List.all_cons, Bool.and_eq_true] at h
    rw [List.all_cons, (plain_cell h.1).2, plains_cellb h.2]; rfl
theorem plains_cells {l : List AV} (h : l.all AV.plain = true) : cellsOK l = true := plains_cellb h
theorem plains_lend : ∀ {l : List AV}, l.all AV.plain = true → ∀ h, lendCells h l = some l
  | [], _, _ => rfl
  | v :: r, hp, h => by
    rw [List.all_cons, Bool.and_eq_true] at hp
    rw [lendCells, plain_lend hp.1, Option.bind_some, plains_lend hp.2]; rfl
theorem plains_mv : ∀ {l : List AV}, l.all AV.plain = true → ∀ h, mvCells h l = some (l, h)
  | [], _, _ => rfl
  | v :: r, hp, h => by
    rw [List.all_cons, Bool.and_eq_true] at hp
    rw [mvCells, plain_mv hp.1, Option.bind_some, plains_mv hp.2]; rfl
theorem plains_in : ∀ {l : List AV}, l.all AV.plain = true → ∀ h c nm, inCells h c nm l = some (l, h, c)
  | [], _, _, _, _ => rfl
  | v :: r, hp, h, c, nm => by
    rw [List.all_cons, Bool.and_eq_true] at hp
    rw [inCells, plain_in hp.1, Option.bind_some, plains_in hp.2]; rfl
theorem plains_low : ∀ {l : List AV}, l.all AV.plain = true → ∀ ns al, lowL ns al l = true
  | [], _, _, _ => rfl
  | v :: r, hp, ns, al => by
    rw [List.all_cons, Bool.and_eq_true] at hp
    rw [lowL, plain_low hp.1, plains_low hp.2]; rfl
/-- equality of a row of cells with itself -/
def kindOK : Nat → AV → Bool
  | 0, .int .. => true
  | 1, .bool _ => true
  | 2, .str _ => true
  | _, _ => false
def kindsOK : List Nat → List AV → Bool
  | [], [] => true
  | k :: ks, v :: vs => kindOK k v && kindsOK ks vs
  | _, _ => false
theorem aeq_self : ∀ {ks : List Nat} {l : List AV}, kindsOK ks l = true → aeqCells ks l l = some true
  | [], [], _ => rfl
  | k :: ks, v :: vs, h => by
    rw [kindsOK, Bool.and_eq_true] at h
    have : aeq1 k v v = some true := by
      have h1 := h.1
      unfold kindOK at h1
      split at h1 <;> simp_all [aeq1]
    rw [aeqCells, this]
    exact aeq_self h.2
  | [], _ :: _, h => by simp [kindsOK] at h
  | _ :: _, [], h => by simp [kindsOK] at h
end Go.Abs

namespace Go.Abs
variable [Globs]
open Go
/- one piece of code behind the other, each with an equation of its own -/
theorem ev_seqN {Φ : Nat → Option FnF} {k : Nat} {a b : AC} {s s1 : St} {r : Option (Ex × St)} (h : ev Φ k a s = some (.normal, s1)) (h2 : ev Φ k b s1 = r) : ev Φ k (.seq a b) s = r := by
  rw [ev, h]; exact h2
theorem ev_seqR {Φ : Nat → Option FnF} {k : Nat} {a b : AC} {s s1 : St} {e : Ex} (he : e ≠ .normal) (h : ev Φ k a s = some (e, s1)) : ev Φ k (.seq a b) s = some (e, s1) := by
  rw [ev, h]
  cases e <;> first | rfl | exact absurd rfl he
theorem ev_keepN {Φ : Nat → Option FnF} {k : Nat} {a : AC} {kt kh : List Nat} {s : St} {r : Option (Ex × St)} (h : ev Φ k a ⟨envOnly kt s.env, s.h.only kh, s.c⟩ = r) : ev Φ k (.keep kt kh a) s = r := h
theorem ev_loopN {Φ : Nat → Option FnF} {k id : Nat} {a b : AC} {kt kh : List Nat} {s s0 s1 : St}
    (h0 : (ev Φ k a s).map (fun q => (q.1, q.2.keep kt kh)) = some (.normal, s0)) (h1 : iter (ev Φ k b) kt kh k s0 = some (.exit id, s1)) : ev Φ k (.seq a (.block id (.loop kt kh b))) s = some (.normal, s1) := by
  rw [Option.map_eq_some_iff] at h0
  obtain ⟨⟨e, q⟩, h2, h3⟩ := h0
  simp only [Prod.mk.injEq] at h3
  obtain ⟨rfl, rfl⟩ := h3
  refine ev_seqN h2 ?_
  rw [ev, ev]
  have : iter (ev Φ k b) kt kh k q = some (.exit id, s1) := by
    rw [← h1]; exact iter_keep _ _ _ _ _
  rw [this]
  simp
theorem ev_loopR {Φ : Nat → Option FnF} {k id : Nat} {a b : AC} {kt kh : List Nat} {s s0 s1 : St}
    (h0 : (ev Φ k a s).map (fun q => (q.1, q.2.keep kt kh)) = some (.normal, s0)) (h1 : iter (ev Φ k b) kt kh k s0 = some (.ret, s1)) : ev Φ k (.seq a (.block id (.loop kt kh b))) s = some (.ret, s1) := by
  rw [Option.map_eq_some_iff] at h0
  obtain ⟨⟨e, q⟩, h2, h3⟩ := h0
  simp only [Prod.mk.injEq] at h3
  obtain ⟨rfl, rfl⟩ := h3
  refine ev_seqN h2 ?_
  rw [ev, ev]
  have : iter (ev Φ k b) kt kh k q = some (.ret, s1) := by
    rw [← h1]; exact iter_keep _ _ _ _ _
  rw [this]
theorem fun_of {Φ : Nat → Option FnF} {k : Nat} {f : AFun} {bs : List AV} {q : List AV × AH × Nat} {s' : St} {e : Ex} {r : AV × List (List AV)} (hn : ¬ f.ntmps < bs.length) (hin : inVals [] 0 100000 bs = some q)
    (hbody : ev Φ k f.code ⟨envOf 0 q.1, q.2.1, q.2.2⟩ = some (e, s')) (he : e = .normal ∨ e = .ret)
    (hres : ((resVals s' f.res).bind fun vs => (outPvs s'.h (argPvs bs q.1)).bind fun ps => (outRes ps.2 (resVal vs)).map fun r => (r.1, ps.1)) = some r) : evFun Φ k f bs = some r := by
  unfold evFun
  rw [if_neg hn, hin, Option.bind_some]
  have : evBody Φ k f ⟨envOf 0 q.1, q.2.1, q.2.2⟩ = some s' := by
    unfold evBody
    rw [hbody]
    rcases he with rfl | rfl <;> rfl
  rw [this, Option.bind_some]
  exact hres
end Go.Abs
