/- Part 2 of FA: what our evaluation of a function's code says, the machine's run does; no condition of its own. -/
import Derived.Test.YteeganhogbbpnaaDoorFAA
set_option linter.unusedVariables false
set_option linter.unusedSimpArgs false
set_option linter.unusedSectionVars false
namespace Go.Abs.Tryd
open Go Go.Abs
set_option maxHeartbeats 16000000
set_option maxRecDepth 100000
set_option linter.unusedSimpArgs false
set_option linter.unusedVariables false
theorem chkT_spec : ∀ n, chkT n = true → ∀ k, k < n → (k % 2 = 1 → tzV k = 0) ∧ (k % 2 = 0 → k ≠ 0 → tzV k = 1 + tzV (k / 2))
  | 0, _, k, hk => by omega
  | n + 1, h, k, hk => by
    simp only [chkT, Bool.and_eq_true] at h
    by_cases e : k = n
    · subst e
      have h1 := h.1
      by_cases e2 : k % 2 = 1
      · rw [if_pos (by rw [e2]; rfl)] at h1
        exact ⟨fun _ => Nat.eq_of_beq_eq_true h1, fun h => by omega⟩
      · rw [if_neg (by intro h; exact e2 (Nat.eq_of_beq_eq_true h))] at h1
        refine ⟨fun h => by omega, fun _ h0 => ?_⟩
        rw [Bool.or_eq_true] at h1
        rcases h1 with h1 | h1
        · exact absurd (Nat.eq_of_beq_eq_true h1) h0
        · exact Nat.eq_of_beq_eq_true h1
    · exact chkT_spec n h.2 k (by omega)
theorem tzV_tz : ∀ (n k : Nat), k < n → k ≤ 100001 → k ≠ 0 → tzV k = tz k
  | 0, k, h, _, _ => by omega
  | n + 1, k, h, hk, h0 => by
    obtain ⟨h1, h2⟩ := chkT_spec _ chkT_ok k (by omega)
    by_cases e : k % 2 = 1
    · rw [h1 e, tz_odd e]
    · rw [h2 (by omega) h0, tz_even (by omega) h0, tzV_tz n (k / 2) (by omega) (by omega) (by omega)]
def deB : List AV := tzT.map fun n => AV.int .u8 ((n : Nat) : Int)
theorem glob2_deB : glob2 = deB := rfl
theorem tzT_len : tzT.length = 64 := rfl
theorem deB_get (i : Nat) (h : i < 64) : deB[i]? = some (.int .u8 ((tzT.getD i 99 : Nat) : Int)) := by
  have h' : i < tzT.length := by rw [tzT_len]; exact h
  rw [deB, List.getElem?_map, List.getD_eq_getElem?_getD, List.getElem?_eq_getElem h']; rfl
theorem tzT_le (i : Nat) : tzT.getD i 99 ≤ 99 := by
  rw [List.getD_eq_getElem?_getD]
  cases h : tzT[i]? with
  | none => exact Nat.le_refl _
  | some x =>
    have hx := List.mem_of_getElem? h
    have : ∀ y ∈ tzT, y ≤ 99 := by decide
    exact this x hx
theorem look2 : Globs.look 2 = some deB := by rw [← glob2_deB]; rfl
theorem fdp (a e : Nat) : (a : Int).fdiv (2 ^ e) = ((a / 2 ^ e : Nat) : Int) := by
  rw [Int.fdiv_eq_ediv_of_nonneg _ (Int.le_of_lt (Int.pow_pos (by decide)))]
  simp
theorem evReg_append (Φ : Nat → Option FnF) : ∀ (a b : List AOper) (s s1 : St), evReg Φ s a = some s1 → evReg Φ s (a ++ b) = evReg Φ s1 b
  | [], b, s, s1, h => by cases h; rfl
  | o :: r, b, s, s1, h => by
    simp only [evReg, List.cons_append] at h ⊢
    cases e : evOper Φ s o with
    | none => rw [e] at h; cases h
    | some s2 => rw [e] at h; exact evReg_append Φ r b s2 s1 h
theorem tz41_of (Φ : Nat → Option FnF) (K x nx y z i r : Nat) (i1 : ((x : Int) == 0) = false) (h0 : x ≠ 0) (p1' : IntKind.u64.wrap (-(x : Int)) = (nx : Int))
    (a1 : abits .and .u64 (x : Int) (nx : Int) = some (.int .u64 (y : Int))) (p2 : IntKind.u64.wrap ((y : Int) * 285870213051353865) = (z : Int)) (f1 : ashift .shr .u64 (z : Int) 58 = some (.int .u64 (i : Int))) (b3 : i < 64)
    (hd : (deB.drop i).head? = some (.int .u8 (r : Int))) (hg : deB[i]? = some (.int .u8 (r : Int))) (p3 : IntKind.i64.wrap (r : Int) = r) : evFun Φ K a41 [.int .u64 x] = some (.int .i64 r, []) := by
  refine fun_of (q := ([.int .u64 x], [], 0)) (by simp [a41]) (by simp) (s' := ⟨[(0, .int .u64 x), (2, .int .i64 r), (3, .int .u64 x), (4, .bool false), (5, .int .u64 x), (6, .int .u64 x), (7, .int .u64 nx), (8, .int .u64 y), (9, .int .u64 z), (10, .int .u64 i), (11, .rptr (deB.drop i)), (12, .int .u8 r), (13, .int .i64 r)], [], 0⟩) (e := .ret) ?_ (.inr rfl) (by simp [a41])
  show ev Φ K c41 ⟨[(0, .int .u64 x)], [], 0⟩ = _
  unfold c41
  refine ev_seqN (s1 := ⟨[(0, .int .u64 x), (2, .int .i64 0)], [], 0⟩) (by simp) ?_
  refine ev_seqN (s1 := ⟨[(0, .int .u64 x), (2, .int .i64 0), (3, .int .u64 x), (4, .bool false)], [], 0⟩) (by simp [i1, h0]) ?_
  refine ev_seqN (s1 := ⟨[(0, .int .u64 x), (2, .int .i64 r), (3, .int .u64 x), (4, .bool false), (5, .int .u64 x), (6, .int .u64 x), (7, .int .u64 nx), (8, .int .u64 y), (9, .int .u64 z), (10, .int .u64 i), (11, .rptr (deB.drop i)), (12, .int .u8 r), (13, .int .i64 r)], [], 0⟩) ?_ (by simp)
  rw [ev]
  have A := evReg_append Φ [{ dst := some 5, op := .mov (.t 0) }, { dst := some 6, op := .mov (.t 0) }, { dst := some 7, op := .un .neg (.t 6) }, { dst := some 8, op := .bin .and (.t 5) (.t 7) },
    { dst := some 9, op := .bin .mul (.t 8) (.c (.int .u64 285870213051353865)) }, { dst := some 10, op := .bin .shr (.t 9) (.c (.int .u64 58)) }]
    [{ dst := some 11, op := .iada 64 1 (.g 2) (.t 10) }, { dst := some 12, op := .load none (.t 11) }, { dst := some 13, op := .conv .i64 (.t 12) }, { dst := some 2, op := .mov (.t 13) }]
    ⟨[(0, .int .u64 x), (2, .int .i64 0), (3, .int .u64 x), (4, .bool false)], [], 0⟩
    ⟨[(0, .int .u64 x), (2, .int .i64 0), (3, .int .u64 x), (4, .bool false), (5, .int .u64 x), (6, .int .u64 x), (7, .int .u64 nx), (8, .int .u64 y), (9, .int .u64 z), (10, .int .u64 i)], [], 0⟩
    (by simp -implicitDefEqProofs [abin, aint, aun, p1', a1, p2, f1, -ashift])
  rw [List.cons_append, List.cons_append, List.cons_append, List.cons_append, List.cons_append, List.cons_append, List.nil_append] at A
  rw [A]
  simp -implicitDefEqProofs [b3, hg, hd, p3, look2]
theorem tz41 (n x : Nat) (hx : x ≤ 100001) (h0 : x ≠ 0) : E (n + 1) 41 [.int .u64 x] = some (.int .i64 (tz x), []) := by
  rw [← tzV_tz _ x (Nat.lt_succ_self x) hx h0, e41]
  have a1 := and64 x (18446744073709551616 - x) (by omega) (by omega)
  have b1 := @Nat.and_le_left x (18446744073709551616 - x)
  have p1' : IntKind.u64.wrap (-(x : Int)) = ((18446744073709551616 - x : Nat) : Int) := by rw [wrap_u64]; omega
  show _ = some (AV.int .i64 ((tzT.getD (tzI x) 99 : Nat) : Int), [])
  have p2 : IntKind.u64.wrap (((x &&& (18446744073709551616 - x) : Nat) : Int) * 285870213051353865) = (((x &&& (18446744073709551616 - x)) * 285870213051353865 % 18446744073709551616 : Nat) : Int) := by rw [wrap_u64]; omega
  have b2 : (x &&& (18446744073709551616 - x)) * 285870213051353865 % 18446744073709551616 < 18446744073709551616 := Nat.mod_lt _ (by omega)
  have f1 : ashift .shr .u64 (((x &&& (18446744073709551616 - x)) * 285870213051353865 % 18446744073709551616 : Nat) : Int) 58 = some (.int .u64 (tzI x : Int)) := by
    generalize hz : (x &&& (18446744073709551616 - x)) * 285870213051353865 % 18446744073709551616 = z at *
    have := fdp z 58
    unfold ashift
    rw [if_neg (by decide)]
    show some (AV.int .u64 ((z : Int).fdiv (2 ^ 58))) = _
    rw [this]; unfold tzI; rw [hz]
  have b3 : tzI x < 64 := by unfold tzI; omega
  have b4 := tzT_le (tzI x)
  refine tz41_of _ _ x _ _ _ (tzI x) _ (by simp [h0]) h0 p1' a1 p2 f1 b3 ?_ (deB_get _ b3) (wrap_i64 _ (by omega) (by omega))
  rw [List.head?_drop]; exact deB_get _ b3
theorem tz31 (n x : Nat) (hx : x ≤ 100001) (h0 : x ≠ 0) : E (n + 2) 31 [.int .u64 x] = some (.int .i64 (tz x), []) := by
  rw [e31]
  simp -implicitDefEqProofs [a31, c31, q41, tz41 n x hx h0]
/-- how many bits are set, as the document counts them -/
theorem loop24 (Φ : Nat → Option FnF) (K c : Nat) : ∀ (k x s : Nat), x < 2 ^ k → x ≤ 200000 → s + pop x ≤ 1000 → ∀ d, ∃ E', iter (ev Φ K b24_0) [0, 3] [] (k + 1 + d) ⟨[(0, .int .i64 x), (3, .int .i64 s)], [], c⟩ = some (.exit 0, ⟨E', [], c⟩) ∧ envGet E' 3 = some (.int .i64 ((s + pop x : Nat) : Int)) ∧ envOnly [3] E' = [(3, .int .i64 ((s + pop x : Nat) : Int))]
  | k, 0, s, hx, hb, hs, d => by
    rw [show k + 1 + d = (k + d) + 1 by omega, iter_succ, pop_zero, Nat.add_zero]
    simp -implicitDefEqProofs [b24_0, abin, aint]
  | 0, x + 1, s, hx, hb, hs, d => by omega
  | k + 1, x + 1, s, hx, hb, hs, d => by
    have hp := pop_pos (n := x + 1) (by omega)
    obtain ⟨E', h1, h2⟩ := loop24 Φ K c k ((x + 1) / 2) (s + (x + 1) % 2) (by rw [Nat.pow_succ] at hx; omega) (by omega) (by omega) d
    refine ⟨E', ?_, by rw [show s + pop (x + 1) = s + (x + 1) % 2 + pop ((x + 1) / 2) by omega]; exact h2⟩
    rw [show k + 1 + 1 + d = (k + 1 + d) + 1 by omega, ← h1]
    apply iter_norm
    have hy : 0 < x + 1 := Nat.succ_pos x
    generalize x + 1 = y at *
    have g1 : (0 : Int) < y := by omega
    have g1' : 0 < y := by omega
    have m1 : ((y : Int)).tmod 2 = ((y % 2 : Nat) : Int) := by rw [Int.tmod_eq_emod_of_nonneg (by omega)]; omega
    have d1 : ((y : Int)).tdiv 2 = ((y / 2 : Nat) : Int) := by rw [Int.tdiv_eq_ediv_of_nonneg (by omega)]; omega
    have w1 : IntKind.i64.wrap ((s : Int) + ((y % 2 : Nat) : Int)) = ((s + y % 2 : Nat) : Int) := by rw [wrap_i64 _ (by omega) (by omega)]; omega
    have w2 : IntKind.i64.wrap ((y / 2 : Nat) : Int) = ((y / 2 : Nat) : Int) := wrap_i64 _ (by omega) (by omega)
    generalize ((y % 2 : Nat) : Int) = r at *
    generalize ((y / 2 : Nat) : Int) = q at *
    generalize ((s + y % 2 : Nat) : Int) = t at *
    simp -implicitDefEqProofs [b24_0, St.keep, abin, aint, g1, g1', m1, d1, w1, w2]
theorem many24 (n x : Nat) (hx : x ≤ 200000) : E (n + 1) 24 [.int .i64 x] = some (.int .i64 (pop x), []) := by
  rw [e24]
  have hp : pop x ≤ 900 := by
    have : ∀ (k y : Nat), y < 2 ^ k → pop y ≤ k := by
      intro k
      induction k with
      | zero => intro y hy; obtain rfl : y = 0 := by omega
                rw [pop_zero]; omega
      | succ k ih => intro y hy
                     by_cases h : y = 0
                     · subst h; rw [pop_zero]; omega
                     · rw [pop_pos h]; have := ih (y / 2) (by rw [Nat.pow_succ] at hy; omega); omega
    have := this 18 x (by omega)
    omega
  obtain ⟨E', h1, h2, h3⟩ := loop24 (Q n) 3000 0 18 x 0 (by omega) hx (by omega) 2981
  rw [Nat.zero_add] at h2 h3
  have h0 : ((0 : Nat) : Int) = 0 := rfl
  rw [h0] at h1
  simp -implicitDefEqProofs [a24, c24]
  simp only [Nat.reduceAdd] at h1
  rw [iter_keep]
  simp
  rw [h1]
  simp [h3]
end Go.Abs.Tryd

namespace Go.Abs.Tryd
open Go Go.Abs Go.Abs.Sha
set_option maxHeartbeats 16000000
set_option maxRecDepth 100000
set_option linter.unusedSimpArgs false
set_option linter.unusedVariables false
abbrev Dg := List UInt8
def All32 (D : List Dg) : Prop := ∀ d ∈ D, d.length = 32
def dr (D : List Dg) : List (List AV) := D.map u8s
theorem dr_len (D : List Dg) : (dr D).length = D.length := by simp [dr]
theorem aeq_bytes : ∀ a b : List UInt8, a.length = b.length → aeqCells (List.replicate a.length 0) (u8s a) (u8s b) = some (decide (a = b))
  | [], [], _ => rfl
  | x :: a, y :: b, h => by
    have e1 : u8s (x :: a) = .int .u8 x.toNat :: u8s a := rfl
    have e2 : u8s (y :: b) = .int .u8 y.toNat :: u8s b := rfl
    rw [List.length_cons, List.replicate_succ, e1, e2, aeqCells, aeq1]
    by_cases hxy : x = y
    · subst hxy
      simp [aeq_bytes a b (by simpa using h)]
    · have hn : ¬ (x.toNat = y.toNat) := fun hh => hxy (UInt8.toNat.inj hh)
      have hn' : ((x.toNat : Int) == (y.toNat : Int)) = false := by rw [beq_eq_false_iff_ne]; omega
      simp [hxy, hn, hn']
theorem aeq32 (a b : Dg) (ha : a.length = 32) (hb : b.length = 32) : aeqCells k32 (u8s a) (u8s b) = some (decide (a = b)) := by
  have := aeq_bytes a b (by omega)
  rw [ha] at this
  exact this
/-- a row of digests that lies still -/
def LD (D : List Dg) (v : AV) : Prop := (v = .nilS ∧ D = []) ∨ (v = .emp ∧ D = []) ∨ ∃ t, v = .ro t 32 (dr D)
theorem LD.len {D v} (h : LD D v) : alen v = some D.length := by
  rcases h with ⟨rfl, rfl⟩ | ⟨rfl, rfl⟩ | ⟨t, rfl⟩
  · rfl
  · rfl
  · simp [alen, dr_len]
theorem LD.val {D v} (h : LD D v) (H : AH) (c nm) : inVal H c nm v = some (v, H, c) := by rcases h with ⟨rfl, rfl⟩ | ⟨rfl, rfl⟩ | ⟨t, rfl⟩ <;> rfl
theorem LD.cell {D v} (h : LD D v) (H : AH) (c nm) : inCell H c nm v = some (v, H, c) := by rcases h with ⟨rfl, rfl⟩ | ⟨rfl, rfl⟩ | ⟨t, rfl⟩ <;> rfl
theorem LD.cb {D v} (h : LD D v) : v.cellb = true := by rcases h with ⟨rfl, rfl⟩ | ⟨rfl, rfl⟩ | ⟨t, rfl⟩ <;> rfl
theorem LD.low1 {D v} (h : LD D v) (ns al) : v.low1 ns al = true := by rcases h with ⟨rfl, rfl⟩ | ⟨rfl, rfl⟩ | ⟨t, rfl⟩ <;> rfl
theorem LD.low {D v} (h : LD D v) (ns al) : v.low ns al = true := by rcases h with ⟨rfl, rfl⟩ | ⟨rfl, rfl⟩ | ⟨t, rfl⟩ <;> rfl
theorem LD.ld {D v} (h : LD D v) (H : AH) : lendArg H v = some v := by rcases h with ⟨rfl, rfl⟩ | ⟨rfl, rfl⟩ | ⟨t, rfl⟩ <;> rfl
theorem LD.ldc {D v} (h : LD D v) (H : AH) : lendCell H v = some v := by rcases h with ⟨rfl, rfl⟩ | ⟨rfl, rfl⟩ | ⟨t, rfl⟩ <;> rfl
theorem LD.mv {D v} (h : LD D v) (H : AH) (r m) : mvArgs H (v :: r) m = (mvArgs H r m.tail).map fun q => (v :: q.1, q.2.1, q.2.2) := by rcases h with ⟨rfl, rfl⟩ | ⟨rfl, rfl⟩ | ⟨t, rfl⟩ <;> rfl
theorem LD.rows {D v} (h : LD D v) (H : AH) : rowsOf H 32 v = some (dr D) := by
  rcases h with ⟨rfl, rfl⟩ | ⟨rfl, rfl⟩ | ⟨t, rfl⟩
  · rfl
  · rfl
  · simp [rowsOf]
theorem loop14 (Φ : Nat → Option FnF) (K c : Nat) (ta tb : Bool) (A B : List Dg) (hA : All32 A) (hB : All32 B) (hl : A.length = B.length) (hn : A.length ≤ 1000000) : ∀ (d i k : Nat), i + d = A.length → d < k →
    ∃ s', iter (ev Φ K b14_0) [0, 1, 5] [100000, 100200] k ⟨[(0, .ro ta 32 (dr A)), (1, .ro tb 32 (dr B)), (5, .int .i64 i)], [], c⟩ = some (if A.drop i = B.drop i then .exit 0 else .ret, s') ∧ s'.h = [] ∧ (¬ A.drop i = B.drop i → envGet s'.env 4 = some (.bool false))
  | d, i, 0, hi, hk => by omega
  | 0, i, k + 1, hi, hk => by
    obtain rfl : i = A.length := by omega
    have e1 : A.drop A.length = B.drop A.length := by rw [List.drop_length, hl, List.drop_length]
    rw [if_pos e1, iter_succ]
    have la := dr_len A
    generalize dr A = RA at *
    generalize dr B = RB at *
    simp -implicitDefEqProofs [b14_0, la, e1]
  | d + 1, i, k + 1, hi, hk => by
    have ia : i < A.length := by omega
    have ib : i < B.length := by omega
    have ha := hA A[i] (List.getElem_mem _)
    have hb := hB B[i] (List.getElem_mem _)
    have la := dr_len A
    have lb := dr_len B
    have ga : (dr A)[i]? = some (u8s A[i]) := by simp [dr, ia]
    have gb : (dr B)[i]? = some (u8s B[i]) := by simp [dr, ib]
    have da : A.drop i = A[i] :: A.drop (i + 1) := List.drop_eq_getElem_cons ia
    have db : B.drop i = B[i] :: B.drop (i + 1) := List.drop_eq_getElem_cons ib
    have hq := aeq32 A[i] B[i] ha hb
    have i1 : (i : Int) < A.length := by omega
    have w1 : IntKind.i64.wrap ((i : Int) + 1) = ((i + 1 : Nat) : Int) := by rw [wrap_i64 _ (by omega) (by omega)]; omega
    have l1 := u8s_len A[i]
    have l2 := u8s_len B[i]
    rw [ha] at l1
    rw [hb] at l2
    have p1 := plains_low (u8s_plain A[i])
    have p2 := plains_low (u8s_plain B[i])
    have t1 : (u8s A[i]).take 32 = u8s A[i] := List.take_of_length_le (by omega)
    have t2 : (u8s B[i]).take 32 = u8s B[i] := List.take_of_length_le (by omega)
    by_cases he : A[i] = B[i]
    · obtain ⟨s', e, e1, e2⟩ := loop14 Φ K c ta tb A B hA hB hl hn d (i + 1) k (by omega) (by omega)
      have hcond : (A.drop i = B.drop i) = (A.drop (i + 1) = B.drop (i + 1)) := by rw [da, db, he, List.cons.injEq]; exact propext ⟨fun h => h.2, fun h => ⟨rfl, h⟩⟩
      refine ⟨s', ?_, e1, ?_⟩
      · simp only [hcond]
        rw [← e]
        simp only [he, decide_true] at hq
        rw [he] at ga t1 l1 p1
        generalize u8s B[i] = x at *
        generalize dr A = RA at *
        generalize dr B = RB at *
        have ga' := (List.getElem?_eq_some_iff.1 ga).2
        have gb' := (List.getElem?_eq_some_iff.1 gb).2
        generalize ((i + 1 : Nat) : Int) = j at *
        apply iter_norm
        simp -implicitDefEqProofs [b14_0, St.keep, la, lb, ia, ib, i1, w1, ga, gb, ga', gb', l1, l2, t1, t2, hq, p1, p2]
      · simp only [hcond]; exact e2
    · have hne : ¬ A.drop i = B.drop i := by rw [da, db, List.cons.injEq]; exact fun h => he h.1
      rw [iter_succ]
      simp only [he, decide_false] at hq
      generalize u8s A[i] = x at *
      generalize u8s B[i] = y at *
      generalize dr A = RA at *
      generalize dr B = RB at *
      have ga' := (List.getElem?_eq_some_iff.1 ga).2
      have gb' := (List.getElem?_eq_some_iff.1 gb).2
      simp -implicitDefEqProofs [b14_0, la, lb, ia, ib, i1, ga, gb, ga', gb', l1, l2, t1, t2, hq, hne, p1, p2]
theorem digests14 (n : Nat) (a b : AV) (A B : List Dg) (hA : All32 A) (hB : All32 B) (ha : LD A a) (hb : LD B b) (hn : A.length ≤ 2900) : E (n + 1) 14 [a, b] = some (.bool (decide (A = B)), []) := by
  rw [e14]
  have la := ha.len
  have lb := hb.len
  by_cases hl : A.length = B.length
  · by_cases h0 : A = []
    · subst h0
      have h1 : B = [] := by cases B with | nil => rfl | cons x r => simp at hl
      subst h1
      rcases ha with ⟨rfl, _⟩ | ⟨rfl, _⟩ | ⟨ta, rfl⟩ <;> rcases hb with ⟨rfl, _⟩ | ⟨rfl, _⟩ | ⟨tb, rfl⟩ <;> simp -implicitDefEqProofs [a14, c14, dr] <;> rw [iter_keep] <;> simp <;> rw [iter_succ] <;> simp -implicitDefEqProofs [b14_0]
    · have h1 : B ≠ [] := by rintro rfl; cases A with | nil => exact h0 rfl | cons x r => simp at hl
      obtain ⟨ta, rfl⟩ : ∃ t, a = .ro t 32 (dr A) := by rcases ha with ⟨_, h⟩ | ⟨_, h⟩ | h; exact absurd h h0; exact absurd h h0; exact h
      obtain ⟨tb, rfl⟩ : ∃ t, b = .ro t 32 (dr B) := by rcases hb with ⟨_, h⟩ | ⟨_, h⟩ | h; exact absurd h h1; exact absurd h h1; exact h
      obtain ⟨⟨E', H', c'⟩, e, e1, e2⟩ := loop14 (Q n) 3000 0 ta tb A B hA hB hl (by omega) A.length 0 3000 (by omega) (by omega)
      simp only [List.drop_zero] at e e1 e2
      rw [show ((0 : Nat) : Int) = 0 from rfl] at e
      subst e1
      have lra := dr_len A
      have lrb := dr_len B
      generalize dr A = RA at *
      generalize dr B = RB at *
      by_cases he : A = B
      · rw [if_pos he] at e
        simp -implicitDefEqProofs [a14, c14, lra, lrb, hl, he]
        rw [iter_keep]; simp
        rw [he, hl] at *
        rw [e]; simp
      · rw [if_neg he] at e
        have e3 := e2 he
        simp -implicitDefEqProofs [a14, c14, lra, lrb, hl, he]
        rw [iter_keep]; simp
        rw [e]; simp [e3]
  · have h1 : ¬ ((A.length : Int) = B.length) := by omega
    have h2 : ((A.length : Int) == B.length) = false := by rw [beq_eq_false_iff_ne]; exact h1
    have h3 : ((A.length : Int) != B.length) = true := by simp only [bne, h2, Bool.not_false]
    have h4 : ¬ A = B := by rintro rfl; exact hl rfl
    simp -implicitDefEqProofs [a14, c14, la, lb, h1, h2, h3, h4, ha.val, ha.cell, hb.val, hb.cell]
/-- a new row of digests -/
def frD (D : List Dg) : AV := if D = [] then .nilS else .fr 32 (dr D)
theorem own8 (n : Nat) (v : AV) (D : List Dg) (h : LD D v) (hn : D.length ≤ 100000) : E (n + 1) 8 [v] = some (frD D, []) := by
  rw [e8]
  unfold frD
  rcases h with ⟨rfl, rfl⟩ | ⟨rfl, rfl⟩ | ⟨t, rfl⟩
  · simp -implicitDefEqProofs [a8, c8, aappend]
  · simp -implicitDefEqProofs [a8, c8, aappend]
  · cases D with
    | nil => simp -implicitDefEqProofs [a8, c8, aappend, dr]
    | cons x r =>
      have e : dr (x :: r) = u8s x :: dr r := rfl
      have l := dr_len r
      have l1 : (r.length + 1) * 32 ≤ maxBytes := by simp only [maxBytes]; simp at hn; omega
      have tk : (dr r).take r.length = dr r := List.take_of_length_le (by omega)
      rw [e, if_neg (by simp)]
      generalize u8s x = y at *
      generalize dr r = R at *
      simp -implicitDefEqProofs [a8, c8, aappend, l, l1, tk]
def clD (v : AV) (D : List Dg) : AV := match v with | .nilS => .nilS | _ => if D = [] then .emp else .fr 32 (dr D)
theorem clone29 (n : Nat) (v : AV) (D : List Dg) (h : LD D v) (hn : D.length ≤ 100000) : E (n + 1) 29 [v] = some (clD v D, []) := by
  rw [e29]
  unfold clD
  rcases h with ⟨rfl, rfl⟩ | ⟨rfl, rfl⟩ | ⟨t, rfl⟩
  · simp -implicitDefEqProofs [a29, c29, aappend]
  · simp -implicitDefEqProofs [a29, c29, aappend]
  · cases D with
    | nil => simp -implicitDefEqProofs [a29, c29, aappend, dr]
    | cons x r =>
      have e : dr (x :: r) = u8s x :: dr r := rfl
      have l := dr_len r
      have l1 : (r.length + 1) * 32 ≤ maxBytes := by simp only [maxBytes]; simp at hn; omega
      have tk : (dr r).take r.length = dr r := List.take_of_length_le (by omega)
      simp only
      rw [e, if_neg (by simp)]
      generalize u8s x = y at *
      generalize dr r = R at *
      simp -implicitDefEqProofs [a29, c29, aappend, l, l1, tk]
/-- is a front right? -/
def okF (s : Int) (k : Nat) : Bool := decide (0 ≤ s) && (decide (s ≤ 100000) && decide (k = pop s.toNat))
theorem check9 (n : Nat) (s : Int) (v : AV) (D : List Dg) (h : LD D v) (hn : D.length ≤ 1000000) : E (n + 3) 9 [.agg [.int .i64 s, v]] = some (.int .i64 (if okF s D.length then 0 else 30), []) := by
  rw [e9]
  unfold okF
  have hl := h.len
  have hc : ∀ (H : AH) c nm, inCell H c nm v = some (v, H, c) := by rcases h with ⟨rfl, rfl⟩ | ⟨rfl, rfl⟩ | ⟨t, rfl⟩ <;> intros <;> rfl
  have hcb : v.cellb = true := by rcases h with ⟨rfl, rfl⟩ | ⟨rfl, rfl⟩ | ⟨t, rfl⟩ <;> rfl
  have hlow : ∀ ns al, v.low1 ns al = true := by rcases h with ⟨rfl, rfl⟩ | ⟨rfl, rfl⟩ | ⟨t, rfl⟩ <;> intros <;> rfl
  have hlow2 : ∀ ns al, v.low ns al = true := by rcases h with ⟨rfl, rfl⟩ | ⟨rfl, rfl⟩ | ⟨t, rfl⟩ <;> intros <;> rfl
  by_cases h1 : s < 0
  · simp -implicitDefEqProofs [a9, c9, hc, hcb, hlow, hlow2, h1, show ¬ 0 ≤ s by omega]
  by_cases h2 : 100000 < s
  · simp -implicitDefEqProofs [a9, c9, hc, hcb, hlow, hlow2, h1, h2, show ¬ s ≤ 100000 by omega]
  obtain ⟨k, rfl⟩ : ∃ k : Nat, s = k := ⟨s.toNat, by omega⟩
  have w1 : IntKind.u64.wrap (k : Int) = k := by rw [wrap_u64]; omega
  have o := ones20 n k (by omega)
  rw [Int.toNat_natCast]
  have g1 : (0 : Int) ≤ k := by omega
  have g2 : (k : Int) ≤ 100000 := by omega
  by_cases h3 : D.length = pop k
  · have h3' : ((D.length : Int) != (pop k : Int)) = false := by simp [h3]
    simp -implicitDefEqProofs [a9, c9, q20, o, hl, hc, hcb, hlow, hlow2, h1, h2, w1, h3, h3', g1, g2]
  · have h3' : ((D.length : Int) != (pop k : Int)) = true := by simp only [bne_iff_ne, ne_eq]; omega
    simp -implicitDefEqProofs [a9, c9, q20, o, hl, hc, hcb, hlow, hlow2, h1, h2, w1, h3, h3', g1, g2]
theorem right11 (n : Nat) (s : Int) (v : AV) (D : List Dg) (h : LD D v) (hn : D.length ≤ 1000000) : E (n + 2) 11 [.int .i64 s, v] = some (.bool (okF s D.length), []) := by
  rw [e11]
  unfold okF
  have hl := h.len
  have hc : ∀ (H : AH) c nm, inCell H c nm v = some (v, H, c) := by rcases h with ⟨rfl, rfl⟩ | ⟨rfl, rfl⟩ | ⟨t, rfl⟩ <;> intros <;> rfl
  have hc2 : ∀ (H : AH) c nm, inVal H c nm v = some (v, H, c) := by rcases h with ⟨rfl, rfl⟩ | ⟨rfl, rfl⟩ | ⟨t, rfl⟩ <;> intros <;> rfl
  by_cases h1 : s < 0
  · simp -implicitDefEqProofs [a11, c11, hc, hc2, show ¬ 0 ≤ s by omega]
  by_cases h2 : 100000 < s
  · simp -implicitDefEqProofs [a11, c11, hc, hc2, show 0 ≤ s by omega, show ¬ s ≤ 100000 by omega]
  obtain ⟨k, rfl⟩ : ∃ k : Nat, s = k := ⟨s.toNat, by omega⟩
  have o := many24 n k (by omega)
  rw [Int.toNat_natCast]
  have g1 : (0 : Int) ≤ k := by omega
  have g2 : (k : Int) ≤ 100000 := by omega
  by_cases h3 : D.length = pop k
  · simp -implicitDefEqProofs [a11, c11, q24, o, hl, hc, hc2, h3, g1, g2]
  · have h3' : ((D.length : Int) == (pop k : Int)) = false := by simp only [beq_eq_false_iff_ne, ne_eq]; omega
    simp -implicitDefEqProofs [a11, c11, q24, o, hl, hc, hc2, h3, h3', g1, g2]
end Go.Abs.Tryd

namespace Go.Abs.Tryd
open Go Go.Abs Go.Abs.Sha
set_option maxHeartbeats 16000000
set_option maxRecDepth 100000
set_option linter.unusedSimpArgs false
set_option linter.unusedVariables false
/-- the knot of two digests -/
def Kn (a b : Dg) : Dg := sha (1 :: (a ++ b))
theorem Kn_len (a b : Dg) : (Kn a b).length = 32 := sha_len _
/-- the last two become one -/
def mrg (P : List Dg) : List Dg := P.take (P.length - 2) ++ [Kn (P.getD (P.length - 2) []) (P.getD (P.length - 1) [])]
def mrgN : Nat → List Dg → List Dg
  | 0, P => P
  | m + 1, P => mrgN m (mrg P)
theorem mrg_len {P : List Dg} (h : 2 ≤ P.length) : (mrg P).length = P.length - 1 := by
  simp only [mrg, List.length_append, List.length_take, List.length_cons, List.length_nil]; omega
theorem mrg_32 {P : List Dg} (h : All32 P) : All32 (mrg P) := by
  intro d hd
  rcases List.mem_append.1 hd with hd | hd
  · exact h d (List.mem_of_mem_take hd)
  · rw [List.mem_singleton.1 hd]; exact Kn_len _ _
theorem mrgN_len : ∀ (m : Nat) {P : List Dg}, m + 1 ≤ P.length → (mrgN m P).length = P.length - m
  | 0, P, h => rfl
  | m + 1, P, h => by
    rw [mrgN, mrgN_len m (by rw [mrg_len (by omega)]; omega), mrg_len (by omega)]; omega
theorem mrgN_32 : ∀ (m : Nat) {P : List Dg}, All32 P → All32 (mrgN m P)
  | 0, P, h => h
  | m + 1, P, h => mrgN_32 m (mrg_32 h)
/-- a leaf comes to the peaks of a list of s -/
def addL (s : Nat) (leaf : Dg) (P : List Dg) : List Dg := mrgN (tz (s + 1)) (P ++ [leaf])
theorem tz_pop : ∀ (n s : Nat), s < n → tz (s + 1) ≤ pop s ∧ pop (s + 1) + tz (s + 1) = pop s + 1
  | 0, s, h => by omega
  | n + 1, s, h => by
    by_cases e : s % 2 = 0
    · rw [tz_odd (by omega), pop_pos (n := s + 1) (by omega)]
      by_cases h0 : s = 0
      · subst h0; rw [pop_zero]; simp [pop_zero]
      · rw [pop_pos h0, show (s + 1) / 2 = s / 2 by omega]; omega
    · obtain ⟨h1, h2⟩ := tz_pop n (s / 2) (by omega)
      rw [tz_even (by omega) (by omega), pop_pos (n := s + 1) (by omega), pop_pos (n := s) (by omega), show (s + 1) / 2 = s / 2 + 1 by omega]
      omega
theorem addL_len {s : Nat} {leaf : Dg} {P : List Dg} (h : P.length = pop s) : (addL s leaf P).length = pop (s + 1) := by
  obtain ⟨h1, h2⟩ := tz_pop (s + 1) s (by omega)
  unfold addL
  rw [mrgN_len _ (by rw [List.length_append, List.length_singleton]; omega), List.length_append, List.length_singleton]; omega
theorem addL_32 {s : Nat} {leaf : Dg} {P : List Dg} (h : All32 P) (hl : leaf.length = 32) : All32 (addL s leaf P) := by
  refine mrgN_32 _ (fun d hd => ?_)
  rcases List.mem_append.1 hd with hd | hd
  · exact h d hd
  · rw [List.mem_singleton.1 hd]; exact hl
theorem knot23 (n : Nat) (a b : Dg) (ha : a.length = 32) (hb : b.length = 32) : E (n + 6) 23 [.agg (u8s a), .agg (u8s b)] = some (.agg (u8s (Kn a b)), []) := knot15 n a b ha hb

theorem plain_fz {v : AV} (hp : v.plain = true) (h : AH) : freeze1 h v = some (v, h) := by
  cases v <;> first | (simp [freeze1, hp]; done) | (simp [AV.plain] at hp; done) | skip
theorem plains_fz : ∀ {l : List AV}, l.all AV.plain = true → ∀ h, freezeL h l = some (l, h)
  | [], _, h => rfl
  | v :: r, hp, h => by
    rw [List.all_cons, Bool.and_eq_true] at hp
    simp [freezeL, plain_fz hp.1, plains_fz hp.2]
/-- the memory of a front at work -/
def HW (b : Bool) (g gb : Nat) (s : Int) (len : Nat) (R : List (List AV)) : AH :=
  if b then [⟨13, gb, .arr 32 R false⟩, ⟨100000, g, .var [.int .i64 s, .own 13 gb 0 len]⟩]
  else [⟨100000, g, .var [.int .i64 s, .own 100002 gb 0 len]⟩, ⟨100002, gb, .arr 32 R false⟩]
theorem rows_mrg {P : List Dg} {R : List (List AV)} (h : R.take P.length = dr P) (h2 : 2 ≤ P.length) (hR : P.length ≤ R.length) :
    R[P.length - 2]? = some (u8s (P.getD (P.length - 2) [])) ∧ R[P.length - 1]? = some (u8s (P.getD (P.length - 1) [])) ∧
    (R.take (P.length - 2) ++ ([u8s (Kn (P.getD (P.length - 2) []) (P.getD (P.length - 1) []))] ++ R.drop (P.length - 2 + 1))).take (P.length - 1) = dr (mrg P) := by
  have get : ∀ i, i < P.length → R[i]? = some (u8s (P.getD i [])) := by
    intro i hi
    have : (R.take P.length)[i]? = (dr P)[i]? := by rw [h]
    rw [List.getElem?_take_of_lt hi] at this
    rw [this, dr, List.getElem?_map, List.getD_eq_getElem?_getD, List.getElem?_eq_getElem hi]; rfl
  refine ⟨get _ (by omega), get _ (by omega), ?_⟩
  have hl : (R.take (P.length - 2)).length = P.length - 2 := by rw [List.length_take]; omega
  rw [← List.append_assoc, List.take_append_of_le_length (by rw [List.length_append, hl, List.length_singleton]; omega), List.take_of_length_le (by rw [List.length_append, hl, List.length_singleton]; omega)]
  have e : R.take (P.length - 2) = dr (P.take (P.length - 2)) := by
    have : (R.take P.length).take (P.length - 2) = (dr P).take (P.length - 2) := by rw [h]
    rw [List.take_take, Nat.min_eq_left (by omega)] at this
    rw [this]; simp [dr]
  rw [e]; simp [dr, mrg]
theorem step27 (n : Nat) (b : Bool) (g gb c k m j : Nat) (s : Int) (P : List Dg) (R : List (List AV)) (hP : All32 P) (h2 : 2 ≤ P.length) (hR : P.length ≤ R.length) (hL : R.length ≤ 1000000) (hT : R.take P.length = dr P) (hj : j < m) (hm : m ≤ 100000) (hg : g < c) (hgb : gb < c) :
    ∃ R', mrg P = mrg P ∧ (mrg P).length ≤ R'.length ∧ R'.length ≤ 1000000 ∧ R'.take (mrg P).length = dr (mrg P) ∧
    iter (ev (Q (n + 6)) 3000 b27_0) [0, 32, 33] [13, 69, 100000, 100002] (k + 1) ⟨[(0, .ptr 100000 g 0), (32, .int .i64 m), (33, .int .i64 j)], HW b g gb s P.length R, c⟩ =
    iter (ev (Q (n + 6)) 3000 b27_0) [0, 32, 33] [13, 69, 100000, 100002] k ⟨[(0, .ptr 100000 g 0), (32, .int .i64 m), (33, .int .i64 (j + 1 : Nat))], HW b g (c + 1) s (mrg P).length R', c + 2⟩ := by
  obtain ⟨r1, r2, r3⟩ := rows_mrg hT h2 hR
  have hml := mrg_len h2
  have ha : (P.getD (P.length - 2) []).length = 32 := by
    rw [List.getD_eq_getElem?_getD, List.getElem?_eq_getElem (by omega)]; exact hP _ (List.getElem_mem _)
  have hb : (P.getD (P.length - 1) []).length = 32 := by
    rw [List.getD_eq_getElem?_getD, List.getElem?_eq_getElem (by omega)]; exact hP _ (List.getElem_mem _)
  have kn := knot23 n _ _ ha hb
  obtain ⟨q, hq⟩ : ∃ q, P.length = q + 2 := ⟨P.length - 2, by omega⟩
  refine ⟨R.take (P.length - 2) ++ ([u8s (Kn (P.getD (P.length - 2) []) (P.getD (P.length - 1) []))] ++ R.drop (P.length - 2 + 1)), rfl, ?_, ?_, ?_, iter_norm ?_⟩
  · rw [hml]; simp; omega
  · simp; omega
  · rw [hml]; exact r3
  have l1 := u8s_len (P.getD (P.length - 2) [])
  have l2 := u8s_len (P.getD (P.length - 1) [])
  have l3 := u8s_len (Kn (P.getD (P.length - 2) []) (P.getD (P.length - 1) []))
  rw [ha] at l1
  rw [hb] at l2
  rw [Kn_len] at l3
  have p1 := u8s_plain (P.getD (P.length - 2) [])
  have p2 := u8s_plain (P.getD (P.length - 1) [])
  have p3 := u8s_plain (Kn (P.getD (P.length - 2) []) (P.getD (P.length - 1) []))
  rw [hml]
  clear hT r3 hml ha hb
  have s1 : q + 2 - 2 = q := by omega
  have s2 : q + 2 - 1 = q + 1 := by omega
  rw [hq] at r1 r2 kn l1 l2 l3 p1 p2 p3 hR h2
  rw [hq]
  rw [s1] at r1 kn l1 l3 p1 p3
  rw [s2] at r2 kn l2 l3 p2 p3
  rw [s1, s2]
  have c1 : (q : Int) ≤ 1000000 := by omega
  have w1' : IntKind.i64.wrap (q : Int) = q := wrap_i64 _ (by omega) (by omega)
  generalize u8s (Kn (P.getD q []) (P.getD (q + 1) [])) = y3 at *
  generalize u8s (P.getD q []) = y1 at *
  generalize u8s (P.getD (q + 1) []) = y2 at *
  have t1 : y1.take 32 = y1 := List.take_of_length_le (by omega)
  have t2 : y2.take 32 = y2 := List.take_of_length_le (by omega)
  have t3 : y3.take 32 = y3 := List.take_of_length_le (by omega)
  have w1 : IntKind.i64.wrap ((q : Int) + 2 - 2) = q := by rw [wrap_i64 _ (by omega) (by omega)]; omega
  have w2 : IntKind.i64.wrap ((q : Int) + 1) = (q + 1 : Nat) := by rw [wrap_i64 _ (by omega) (by omega)]; omega
  have w3 : IntKind.i64.wrap ((j : Int) + 1) = (j + 1 : Nat) := by rw [wrap_i64 _ (by omega) (by omega)]; omega
  have e0 : ((q + 2 : Nat) : Int) = (q : Int) + 2 := by omega
  have j1 : (j : Int) < m := by omega
  have b1 : (q : Int) ≤ R.length := by omega
  have b2 : q ≤ R.length := by omega
  have b3 : q + 1 ≤ R.length := by omega
  have b4 : q + 1 < R.length := by omega
  have b5 : q < R.length := by omega
  have b6 : ((q + 1 : Nat) : Int).toNat = q + 1 := Int.toNat_natCast _
  have b7 : (0 : Int) ≤ ((q + 1 : Nat) : Int) := by omega
  have m1 : (q + 1) * 32 ≤ maxBytes := by simp only [maxBytes]; omega
  have r1' := (List.getElem?_eq_some_iff.1 r1).2
  have r2' := (List.getElem?_eq_some_iff.1 r2).2
  generalize ((q + 1 : Nat) : Int) = q1 at *
  generalize ((j + 1 : Nat) : Int) = j' at *
  have z1 : z29.length = 32 := rfl
  unfold HW
  cases b <;> simp -implicitDefEqProofs [b27_0, St.keep, q23, kn, e0, w1, w1', w2, w3, j1, b1, b2, b3, b4, b5, b6, b7, m1, r1, r2, r1', r2', l1, l2, l3, t1, t2, t3, hg, hgb, aappend, z1, plains_fz p3,
    plains_cells p1, plains_cells p2, plains_cells p3, plains_in p3, plains_lend p1, plains_lend p2, plains_low p1, plains_low p2, plains_low p3, plains_mv p3]
end Go.Abs.Tryd

namespace Go.Abs.Tryd
open Go Go.Abs Go.Abs.Sha
set_option maxHeartbeats 16000000
set_option maxRecDepth 100000
set_option linter.unusedSimpArgs false
set_option linter.unusedVariables false
theorem ev_seqK {Φ : Nat → Option FnF} {k : Nat} {a b : AC} {kt kh : List Nat} {s s1 : St} {r : Option (Ex × St)} (h : (ev Φ k a s).map (fun q => (q.1, q.2.keep kt kh)) = some (.normal, s1)) (h2 : ev Φ k b s1 = r) : ev Φ k (.seq a (.keep kt kh b)) s = r := by
  rw [Option.map_eq_some_iff] at h
  obtain ⟨⟨e, q⟩, h3, h4⟩ := h
  simp only [Prod.mk.injEq] at h4
  obtain ⟨rfl, rfl⟩ := h4
  exact ev_seqN h3 h2
theorem ev_blockX {Φ : Nat → Option FnF} {k id : Nat} {b : AC} {s s1 : St} (h : ev Φ k b s = some (.exit id, s1)) : ev Φ k (.block id b) s = some (.normal, s1) := by
  rw [ev, h]; simp
theorem loop27 (n : Nat) (b : Bool) (g m : Nat) (s : Int) (hm : m ≤ 100000) : ∀ (d j k c gb : Nat) (P : List Dg) (R : List (List AV)), j + d = m → d < k → All32 P → d + 1 ≤ P.length → P.length ≤ R.length → R.length ≤ 1000000 → R.take P.length = dr P → g < c → gb < c →
    ∃ E' R' gb' c', iter (ev (Q (n + 6)) 3000 b27_0) [0, 32, 33] [13, 69, 100000, 100002] k ⟨[(0, .ptr 100000 g 0), (32, .int .i64 m), (33, .int .i64 j)], HW b g gb s P.length R, c⟩ =
      some (.exit 0, ⟨E', HW b g gb' s (mrgN d P).length R', c'⟩) ∧ R'.take (mrgN d P).length = dr (mrgN d P) ∧ (mrgN d P).length ≤ R'.length ∧ R'.length ≤ 1000000
  | d, j, 0, c, gb, P, R, hi, hk, hP, h2, hR, hL, hT, hg, hgb => by omega
  | 0, j, k + 1, c, gb, P, R, hi, hk, hP, h2, hR, hL, hT, hg, hgb => by
    obtain rfl : j = m := by omega
    refine ⟨[(0, .ptr 100000 g 0), (32, .int .i64 j), (33, .int .i64 j), (34, .bool false)], R, gb, c, ?_, hT, hR, hL⟩
    rw [iter_succ]
    show _ = some (Ex.exit 0, (⟨_, HW b g gb s P.length R, c⟩ : St))
    unfold HW
    cases b <;> simp -implicitDefEqProofs [b27_0]
  | d + 1, j, k + 1, c, gb, P, R, hi, hk, hP, h2, hR, hL, hT, hg, hgb => by
    obtain ⟨R1, _, q1, q2, q3, e⟩ := step27 n b g gb c k m j s P R hP (by omega) hR hL hT (by omega) hm hg hgb
    rw [e]
    have hl := mrg_len (P := P) (by omega)
    exact loop27 n b g m s hm d (j + 1) k (c + 2) (c + 1) (mrg P) R1 (by omega) (by omega) (mrg_32 hP) (by omega) q1 q2 q3 (by omega) (by omega)
/-- peaks of a front at work, as they come over a call's border -/
def FV (P : List Dg) (v : AV) : Prop := (v = .nilS ∧ P = []) ∨ (v = .emp ∧ P = []) ∨ v = .fr 32 (dr P)
theorem add27_of (n : Nat) (s s1 tt : Int) (v : AV) (P : List Dg) (hv : FV P v) (leaf : List AV) (W : List (List AV)) (wl : Nat) (t31 : E (n + 6) 31 [.int .u64 s1] = some (.int .i64 tt, []))
    (w1 : IntKind.i64.wrap (s + 1) = s1) (w2 : IntKind.u64.wrap s1 = s1) (ll : leaf.length = 32) (lt : leaf.take 32 = leaf) (lp : leaf.all AV.plain = true) (m1 : (P.length + 1) * 32 ≤ maxBytes)
    (lb : ∀ (b : Bool) (g c gb : Nat), g < c → gb < c → ∃ E' R' gb' c', iter (ev (Q (n + 6)) 3000 b27_0) [0, 32, 33] [13, 69, 100000, 100002] 3000 ⟨[(0, .ptr 100000 g 0), (32, .int .i64 tt), (33, .int .i64 0)], HW b g gb s1 (P.length + 1) (dr P ++ [leaf]), c⟩ =
      some (.exit 0, ⟨E', HW b g gb' s1 wl R', c'⟩) ∧ R'.take wl = W ∧ wl ≤ R'.length ∧ R'.length ≤ 1000000) :
    evFun (Q (n + 6)) 3000 a27 [.pv [.int .i64 s, v], .agg leaf] = some (.tup [], [[.int .i64 s1, .fr 32 W]]) := by
  have z1 : z29.length = 32 := rfl
  have rl := dr_len P
  have m0 : 32 ≤ maxBytes := by simp only [maxBytes]; omega
  have l9 : ¬ P.length + 1 ≤ P.length := by omega
  have tk : (dr P).take P.length = dr P := List.take_of_length_le (by omega)
  rcases hv with ⟨rfl, rfl⟩ | ⟨rfl, rfl⟩ | rfl
  ·
    obtain ⟨E', R', gb', c', e, q1, q2, q3⟩ := lb true 0 4 3 (by omega) (by omega)
    refine fun_of (q := ([.ptr 100000 0 0, .agg (leaf)], [⟨100000, 0, .var [.int .i64 s, .nilS]⟩], 1)) (by simp [a27]) (by simp -implicitDefEqProofs [plains_in lp]) (e := .normal) (s' := ⟨E', HW true 0 gb' s1 wl R', c'⟩) ?_ (.inl rfl) ?_
    · show ev (Q (n + 6)) 3000 c27 ⟨[(0, .ptr 100000 0 0), (1, .agg (leaf))], _, _⟩ = _
      unfold c27
      refine ev_seqN (s1 := ⟨[(0, .ptr 100000 0 0), (1, .agg (leaf)), (3, .ptr 3 1 0)], ⟨3, 1, .var (leaf)⟩ :: [⟨100000, 0, .var [.int .i64 s, .nilS]⟩], 1 + 1⟩) (by simp -implicitDefEqProofs [q31, t31, w1, w2, ll, lt, z1, m1, m0, l9, rl, tk, aappend, plains_cells lp, plains_in lp, plains_low lp, plains_mv lp, plains_fz lp, plains_lend lp, St.keep]) ?_
      refine ev_seqK (s1 := ⟨[(0, .ptr 100000 0 0)], HW true 0 3 s 1 ([leaf]), 4⟩) (by unfold HW; simp -implicitDefEqProofs [q31, t31, w1, w2, ll, lt, z1, m1, m0, l9, rl, tk, aappend, plains_cells lp, plains_in lp, plains_low lp, plains_mv lp, plains_fz lp, plains_lend lp, St.keep]) ?_
      refine ev_seqK (s1 := ⟨[(0, .ptr 100000 0 0)], HW true 0 3 s1 1 ([leaf]), 4⟩) (by unfold HW; simp -implicitDefEqProofs [q31, t31, w1, w2, ll, lt, z1, m1, m0, l9, rl, tk, aappend, plains_cells lp, plains_in lp, plains_low lp, plains_mv lp, plains_fz lp, plains_lend lp, St.keep]) ?_
      refine ev_seqK (s1 := ⟨[(0, .ptr 100000 0 0), (32, .int .i64 tt), (33, .int .i64 0)], HW true 0 3 s1 1 ([leaf]), 4⟩) (by unfold HW; simp -implicitDefEqProofs [q31, t31, w1, w2, ll, lt, z1, m1, m0, l9, rl, tk, aappend, plains_cells lp, plains_in lp, plains_low lp, plains_mv lp, plains_fz lp, plains_lend lp, St.keep]) ?_
      exact ev_blockX e
    · unfold HW
      simp -implicitDefEqProofs [a27, q1, q2]
  ·
    obtain ⟨E', R', gb', c', e, q1, q2, q3⟩ := lb true 0 4 3 (by omega) (by omega)
    refine fun_of (q := ([.ptr 100000 0 0, .agg (leaf)], [⟨100000, 0, .var [.int .i64 s, .emp]⟩], 1)) (by simp [a27]) (by simp -implicitDefEqProofs [plains_in lp]) (e := .normal) (s' := ⟨E', HW true 0 gb' s1 wl R', c'⟩) ?_ (.inl rfl) ?_
    · show ev (Q (n + 6)) 3000 c27 ⟨[(0, .ptr 100000 0 0), (1, .agg (leaf))], _, _⟩ = _
      unfold c27
      refine ev_seqN (s1 := ⟨[(0, .ptr 100000 0 0), (1, .agg (leaf)), (3, .ptr 3 1 0)], ⟨3, 1, .var (leaf)⟩ :: [⟨100000, 0, .var [.int .i64 s, .emp]⟩], 1 + 1⟩) (by simp -implicitDefEqProofs [q31, t31, w1, w2, ll, lt, z1, m1, m0, l9, rl, tk, aappend, plains_cells lp, plains_in lp, plains_low lp, plains_mv lp, plains_fz lp, plains_lend lp, St.keep]) ?_
      refine ev_seqK (s1 := ⟨[(0, .ptr 100000 0 0)], HW true 0 3 s 1 ([leaf]), 4⟩) (by unfold HW; simp -implicitDefEqProofs [q31, t31, w1, w2, ll, lt, z1, m1, m0, l9, rl, tk, aappend, plains_cells lp, plains_in lp, plains_low lp, plains_mv lp, plains_fz lp, plains_lend lp, St.keep]) ?_
      refine ev_seqK (s1 := ⟨[(0, .ptr 100000 0 0)], HW true 0 3 s1 1 ([leaf]), 4⟩) (by unfold HW; simp -implicitDefEqProofs [q31, t31, w1, w2, ll, lt, z1, m1, m0, l9, rl, tk, aappend, plains_cells lp, plains_in lp, plains_low lp, plains_mv lp, plains_fz lp, plains_lend lp, St.keep]) ?_
      refine ev_seqK (s1 := ⟨[(0, .ptr 100000 0 0), (32, .int .i64 tt), (33, .int .i64 0)], HW true 0 3 s1 1 ([leaf]), 4⟩) (by unfold HW; simp -implicitDefEqProofs [q31, t31, w1, w2, ll, lt, z1, m1, m0, l9, rl, tk, aappend, plains_cells lp, plains_in lp, plains_low lp, plains_mv lp, plains_fz lp, plains_lend lp, St.keep]) ?_
      exact ev_blockX e
    · unfold HW
      simp -implicitDefEqProofs [a27, q1, q2]
  ·
    obtain ⟨E', R', gb', c', e, q1, q2, q3⟩ := lb false 1 5 4 (by omega) (by omega)
    refine fun_of (q := ([.ptr 100000 1 0, .agg (leaf)], [⟨100000, 1, .var [.int .i64 s, .own 100002 0 0 P.length]⟩, ⟨100002, 0, .arr 32 (dr P) false⟩], 2)) (by simp [a27]) (by simp -implicitDefEqProofs [plains_in lp, rl]) (e := .normal) (s' := ⟨E', HW false 1 gb' s1 wl R', c'⟩) ?_ (.inl rfl) ?_
    · show ev (Q (n + 6)) 3000 c27 ⟨[(0, .ptr 100000 1 0), (1, .agg (leaf))], _, _⟩ = _
      unfold c27
      refine ev_seqN (s1 := ⟨[(0, .ptr 100000 1 0), (1, .agg (leaf)), (3, .ptr 3 2 0)], ⟨3, 2, .var (leaf)⟩ :: [⟨100000, 1, .var [.int .i64 s, .own 100002 0 0 P.length]⟩, ⟨100002, 0, .arr 32 (dr P) false⟩], 2 + 1⟩) (by simp -implicitDefEqProofs [q31, t31, w1, w2, ll, lt, z1, m1, m0, l9, rl, tk, aappend, plains_cells lp, plains_in lp, plains_low lp, plains_mv lp, plains_fz lp, plains_lend lp, St.keep]) ?_
      refine ev_seqK (s1 := ⟨[(0, .ptr 100000 1 0)], HW false 1 4 s (P.length + 1) (dr P ++ [leaf]), 5⟩) (by unfold HW; simp -implicitDefEqProofs [q31, t31, w1, w2, ll, lt, z1, m1, m0, l9, rl, tk, aappend, plains_cells lp, plains_in lp, plains_low lp, plains_mv lp, plains_fz lp, plains_lend lp, St.keep]) ?_
      refine ev_seqK (s1 := ⟨[(0, .ptr 100000 1 0)], HW false 1 4 s1 (P.length + 1) (dr P ++ [leaf]), 5⟩) (by unfold HW; simp -implicitDefEqProofs [q31, t31, w1, w2, ll, lt, z1, m1, m0, l9, rl, tk, aappend, plains_cells lp, plains_in lp, plains_low lp, plains_mv lp, plains_fz lp, plains_lend lp, St.keep]) ?_
      refine ev_seqK (s1 := ⟨[(0, .ptr 100000 1 0), (32, .int .i64 tt), (33, .int .i64 0)], HW false 1 4 s1 (P.length + 1) (dr P ++ [leaf]), 5⟩) (by unfold HW; simp -implicitDefEqProofs [q31, t31, w1, w2, ll, lt, z1, m1, m0, l9, rl, tk, aappend, plains_cells lp, plains_in lp, plains_low lp, plains_mv lp, plains_fz lp, plains_lend lp, St.keep]) ?_
      exact ev_blockX e
    · unfold HW
      simp -implicitDefEqProofs [a27, q1, q2]
theorem add27 (n s : Nat) (hs : s ≤ 100000) (v : AV) (P : List Dg) (hP : All32 P) (hv : FV P v) (hl : P.length = pop s) (leaf : Dg) (h32 : leaf.length = 32) (hb : P.length ≤ 1000) :
    E (n + 7) 27 [.pv [.int .i64 s, v], .agg (u8s leaf)] = some (.tup [], [[.int .i64 ((s + 1 : Nat) : Int), .fr 32 (dr (addL s leaf P))]]) := by
  rw [e27]
  obtain ⟨tp, _⟩ := tz_pop (s + 1) s (by omega)
  have ll := u8s_len leaf
  rw [h32] at ll
  have hlt : dr (P ++ [leaf]) = dr P ++ [u8s leaf] := by simp [dr]
  have hln : (P ++ [leaf]).length = P.length + 1 := by simp
  have hA : All32 (P ++ [leaf]) := fun d hd => by
    rcases List.mem_append.1 hd with hd | hd
    · exact hP d hd
    · rw [List.mem_singleton.1 hd]; exact h32
  refine add27_of n s _ (tz (s + 1) : Nat) v P hv (u8s leaf) (dr (addL s leaf P)) (addL s leaf P).length (tz31 (n + 4) (s + 1) (by omega) (by omega)) (by rw [wrap_i64 _ (by omega) (by omega)]; omega) (by rw [wrap_u64]; omega) ll (List.take_of_length_le (by omega)) (u8s_plain leaf) (by simp only [maxBytes]; omega) ?_
  intro b g c gb hg hgb
  have := loop27 n b g (tz (s + 1)) ((s + 1 : Nat) : Int) (by omega) (tz (s + 1)) 0 3000 c gb (P ++ [leaf]) (dr (P ++ [leaf])) (by omega) (by omega) hA (by omega) (by rw [dr_len]; omega) (by rw [dr_len]; omega) (by rw [List.take_of_length_le (by rw [dr_len]; omega)]) hg hgb
  rw [hlt, hln] at this
  exact this
end Go.Abs.Tryd

namespace Go.Abs.Tryd
open Go Go.Abs Go.Abs.Sha
set_option maxHeartbeats 16000000
set_option maxRecDepth 100000
set_option linter.unusedSimpArgs false
set_option linter.unusedVariables false
theorem add17_no (n : Nat) (s : Int) (v : AV) (P : List Dg) (hv : LD P v) (leaf : List AV) (c9 : E (n + 7) 9 [.agg [.int .i64 s, v]] = some (.int .i64 30, [])) (ll : leaf.length = 32) (lp : leaf.all AV.plain = true) :
    evFun (Q (n + 7)) 3000 a17 [.agg [.int .i64 s, v], .agg leaf] = some (.tup [.agg [.int .i64 0, .nilS], .int .i64 30], []) := by
  simp -implicitDefEqProofs [a17, c17, q9, c9, hv.cell, hv.cb, hv.ldc, ll, plains_cells lp, plains_in lp, z25]
theorem add17_full (n : Nat) (v : AV) (P : List Dg) (hv : LD P v) (leaf : List AV) (c9 : E (n + 7) 9 [.agg [.int .i64 100000, v]] = some (.int .i64 0, [])) (ll : leaf.length = 32) (lp : leaf.all AV.plain = true) :
    evFun (Q (n + 7)) 3000 a17 [.agg [.int .i64 100000, v], .agg leaf] = some (.tup [.agg [.int .i64 0, .nilS], .int .i64 2], []) := by
  simp -implicitDefEqProofs [a17, c17, q9, c9, hv.cell, hv.cb, hv.ldc, ll, plains_cells lp, plains_in lp, z25]
theorem add17_of (n : Nat) (s s1 : Int) (v u : AV) (P : List Dg) (hv : LD P v) (hu : u = .nilS ∨ u = .emp ∨ u = .fr 32 (dr P)) (leaf : List AV) (W : List (List AV)) (hW : W.take W.length = W) (c9 : E (n + 7) 9 [.agg [.int .i64 s, v]] = some (.int .i64 0, []))
    (c29 : E (n + 7) 29 [v] = some (u, [])) (c27 : E (n + 7) 27 [.pv [.int .i64 s, u], .agg leaf] = some (.tup [], [[.int .i64 s1, .fr 32 W]])) (ns : (s == 100000) = false) (ll : leaf.length = 32) (lp : leaf.all AV.plain = true) :
    evFun (Q (n + 7)) 3000 a17 [.agg [.int .i64 s, v], .agg leaf] = some (.tup [.agg [.int .i64 s1, .fr 32 W], .int .i64 0], []) := by
  have lt : leaf.take 32 = leaf := List.take_of_length_le (by omega)
  have rl := dr_len P
  have tk : (dr P).take P.length = dr P := List.take_of_length_le (by omega)
  have n1 : ¬ s = 100000 := by simpa using ns
  rcases hu with rfl | rfl | rfl <;>
  simp -implicitDefEqProofs [a17, Tryd.c17, q9, q27, q29, c9, c29, c27, ns, n1, hv.cell, hv.cb, hv.ldc, hv.ld, hv.mv, hv.low1, hv.low, ll, lt, rl, tk, hW, plains_cells lp, plains_in lp, plains_lend lp, plains_mv lp, z25, z54]
end Go.Abs.Tryd

namespace Go.Abs.Tryd
open Go Go.Abs Go.Abs.Sha
set_option maxHeartbeats 16000000
set_option maxRecDepth 100000
set_option linter.unusedSimpArgs false
set_option linter.unusedVariables false
/-- what front.Add answers -/
def addF (s : Int) (P : List Dg) (leaf : Dg) : AV :=
  if okF s P.length then (if s = 100000 then .tup [.agg [.int .i64 0, .nilS], .int .i64 2] else .tup [.agg [.int .i64 ((s.toNat + 1 : Nat) : Int), .fr 32 (dr (addL s.toNat leaf P))], .int .i64 0])
  else .tup [.agg [.int .i64 0, .nilS], .int .i64 30]
theorem okF_spec {s : Int} {k : Nat} (h : okF s k = true) : ∃ t : Nat, s = t ∧ t ≤ 100000 ∧ k = pop t := by
  simp only [okF, Bool.and_eq_true, decide_eq_true_eq] at h
  exact ⟨s.toNat, by omega, by omega, h.2.2⟩
theorem clD_fv {v P} (h : LD P v) : FV P (clD v P) := by
  rcases h with ⟨rfl, rfl⟩ | ⟨rfl, rfl⟩ | ⟨t, rfl⟩
  · exact .inl ⟨rfl, rfl⟩
  · exact .inr (.inl ⟨rfl, rfl⟩)
  · by_cases h : P = []
    · subst h; exact .inr (.inl ⟨rfl, rfl⟩)
    · refine .inr (.inr ?_); simp [clD, h]
theorem front17 (n : Nat) (s : Int) (v : AV) (P : List Dg) (hv : LD P v) (hP : All32 P) (hb : P.length ≤ 1000) (leaf : Dg) (h32 : leaf.length = 32) : E (n + 8) 17 [.agg [.int .i64 s, v], .agg (u8s leaf)] = some (addF s P leaf, []) := by
  have c9 := check9 (n + 4) s v P hv (by omega)
  have ll := u8s_len leaf
  rw [h32] at ll
  rw [e17]
  unfold addF
  cases hok : okF s P.length
  · rw [hok] at c9
    exact add17_no n s v P hv _ c9 ll (u8s_plain _)
  · rw [hok] at c9
    by_cases h1 : s = 100000
    · subst h1
      exact add17_full n v P hv _ c9 ll (u8s_plain _)
    · obtain ⟨t, rfl, ht, hpop⟩ := okF_spec hok
      rw [if_neg h1]
      have hf := clD_fv hv
      have a := add27 n t ht (clD v P) P hP hf hpop leaf h32 hb
      have hu : clD v P = .nilS ∨ clD v P = .emp ∨ clD v P = .fr 32 (dr P) := by
        rcases hf with ⟨h, _⟩ | ⟨h, _⟩ | h
        · exact .inl h
        · exact .inr (.inl h)
        · exact .inr (.inr h)
      exact add17_of n t _ v (clD v P) P hv hu _ _ (by rw [List.take_length]) c9 (clone29 (n + 6) v P hv (by omega)) a (by simpa using h1) ll (u8s_plain _)
theorem step18_of (Φ : Nat → Option FnF) (K : Nat) (F : CallF) (G J Y) (h26 : Φ 26 = some ⟨F, G, J, Y⟩) (nm : Bool) (gb c k q : Nat) (y y2 q1 : Int) (R : List (List AV)) (y1 y2' y3 : List AV) (kn : F [.agg y1, .agg y2'] = some (.agg y3, []))
    (r1 : R[q]? = some y1) (r2 : R[q + 1]? = some y2') (l1 : y1.length = 32) (l2 : y2'.length = 32) (l3 : y3.length = 32) (p1 : y1.all AV.plain = true) (p2 : y2'.all AV.plain = true) (p3 : y3.all AV.plain = true)
    (w1 : IntKind.i64.wrap ((q : Int) + 2 - 2) = q) (w1' : IntKind.i64.wrap (q : Int) = q) (w2 : IntKind.i64.wrap ((q : Int) + 2 - 1) = q1) (w2' : IntKind.i64.wrap ((q : Int) + 1) = q1) (b6 : q1.toNat = q + 1) (b7 : 0 ≤ q1) (hR : q + 2 ≤ R.length) (m1 : (q + 1) * 32 ≤ maxBytes)
    (hy : y.tmod 2 = 0) (hd : IntKind.i64.wrap (y.tdiv 2) = y2) (hgb : gb < c) :
    iter (ev Φ K b18_0) [7, 8] [13, 17, 43] (k + 1) ⟨[(7, .own (if nm then 13 else 17) gb 0 (q + 2)), (8, .int .i64 y)], [⟨if nm then 13 else 17, gb, .arr 32 R false⟩], c⟩ =
    iter (ev Φ K b18_0) [7, 8] [13, 17, 43] k ⟨[(7, .own (if nm then 13 else 17) (c + 2) 0 (q + 1)), (8, .int .i64 y2)], [⟨if nm then 13 else 17, c + 2, .arr 32 (R.take q ++ ([y3] ++ R.drop (q + 1))) false⟩], c + 3⟩ := by
  have t1 : y1.take 32 = y1 := List.take_of_length_le (by omega)
  have t2 : y2'.take 32 = y2' := List.take_of_length_le (by omega)
  have t3 : y3.take 32 = y3 := List.take_of_length_le (by omega)
  have e0 : ((q + 2 : Nat) : Int) = (q : Int) + 2 := by omega
  have b1 : (q : Int) ≤ R.length := by omega
  have b2 : q ≤ R.length := by omega
  have b3 : q + 1 ≤ R.length := by omega
  have b4 : q + 1 < R.length := by omega
  have b5 : q < R.length := by omega
  have r1' := (List.getElem?_eq_some_iff.1 r1).2
  have r2' := (List.getElem?_eq_some_iff.1 r2).2
  have z1 : z29.length = 32 := rfl
  have z2 : z29.drop 32 = [] := rfl
  have pz : z29.all AV.plain = true := rfl
  apply iter_norm
  cases nm <;> simp -implicitDefEqProofs [b18_0, St.keep, h26, kn, e0, w1, w1', w2, w2', b1, b2, b3, b4, b5, b6, b7, m1, r1, r2, r1', r2', l1, l2, l3, t1, t2, t3, hgb, aappend, z1, z2, hy, hd, plains_low pz, plains_cells pz,
    plains_cells p1, plains_cells p2, plains_cells p3, plains_in p3, plains_lend p1, plains_lend p2, plains_low p1, plains_low p2, plains_low p3, plains_mv p3, plains_fz p3]
end Go.Abs.Tryd

namespace Go.Abs.Tryd
open Go Go.Abs Go.Abs.Sha
set_option maxHeartbeats 16000000
set_option maxRecDepth 100000
set_option linter.unusedSimpArgs false
set_option linter.unusedVariables false
theorem ev_blockL {Φ : Nat → Option FnF} {k id : Nat} {kt kh : List Nat} {b : AC} {s s0 s1 : St} (h0 : s.keep kt kh = s0) (h1 : iter (ev Φ k b) kt kh k s0 = some (.exit id, s1)) : ev Φ k (.block id (.loop kt kh b)) s = some (.normal, s1) := by
  apply ev_blockX
  rw [ev, ← h1, ← h0]
  exact iter_keep _ _ _ _ _
theorem bytes_le (k : Nat) (h : k + 1 ≤ 100000) : (k + 1) * 32 ≤ maxBytes ∧ (k + 1 + 1) * 32 ≤ maxBytes := by
  simp only [maxBytes]; omega
theorem dr_cons {P : List Dg} (h : ¬ P = []) : ∃ r R0, dr P = r :: R0 ∧ R0.length + 1 = P.length := by
  cases P with
  | nil => exact absurd rfl h
  | cons x r => exact ⟨u8s x, dr r, rfl, by simp [dr_len]⟩
theorem add18_of (n : Nat) (s s1 : Int) (v : AV) (P : List Dg) (hv : LD P v) (leaf : List AV) (W : List (List AV)) (wl : Nat) (hb : P.length ≤ 100000)
    (w1 : IntKind.i64.wrap (s + 1) = s1) (ll : leaf.length = 32) (lt : leaf.take 32 = leaf) (lp : leaf.all AV.plain = true)
    (lb : ∀ (nm : Bool) (gb c : Nat), gb < c → ∃ E' R' gb' c', iter (ev (Q (n + 5)) 3000 b18_0) [7, 8] [13, 17, 43] 3000 ⟨[(7, .own (if nm then 13 else 17) gb 0 (P.length + 1)), (8, .int .i64 s1)], [⟨if nm then 13 else 17, gb, .arr 32 (dr P ++ [leaf]) false⟩], c⟩ =
      some (.exit 0, ⟨E', [⟨if nm then 13 else 17, gb', .arr 32 R' false⟩], c'⟩) ∧ envOnly [7] E' = [(7, .own (if nm then 13 else 17) gb' 0 wl)] ∧ R'.take wl = W ∧ wl ≤ R'.length) :
    evFun (Q (n + 5)) 3000 a18 [.int .i64 s, v, .agg leaf] = some (.fr 32 W, []) := by
  have z1 : z29.length = 32 := rfl
  have rl := dr_len P
  have m0 : 32 ≤ maxBytes := by simp only [maxBytes]; omega
  have l9 : ¬ P.length + 1 ≤ P.length := by omega
  have tk : (dr P).take P.length = dr P := List.take_of_length_le (by omega)
  have rw0 := hv.rows
  have sr : ∀ H, srcRows H 32 v = some (dr P) := by
    intro H; rcases hv with ⟨rfl, rfl⟩ | ⟨rfl, rfl⟩ | ⟨t, rfl⟩ <;> simp [srcRows, rowsOf, dr]
  have hvl := hv.val
  have hvc := hv.cell
  by_cases h0 : P = []
  · subst h0
    have sr' : ∀ H, srcRows H 32 v = some [] := sr
    obtain ⟨E', R', gb', c', e, q0, q1, q2⟩ := lb false 2 3 (by omega)
    simp only [Bool.false_eq_true, if_false, List.length_nil, Nat.zero_add, dr, List.map_nil, List.nil_append] at e q0
    refine fun_of (q := ([.int .i64 s, v, .agg leaf], [], 0)) (by simp [a18]) (by simp -implicitDefEqProofs [plains_in lp, hvl, hvc]) (e := .ret) (s' := ⟨[(6, .own 17 gb' 0 wl), (7, .own 17 gb' 0 wl), (46, .own 17 gb' 0 wl)], [⟨17, gb', .arr 32 R' false⟩], c'⟩) ?_ (.inr rfl) ?_
    · show ev (Q (n + 5)) 3000 c18 ⟨[(0, .int .i64 s), (1, v), (2, .agg leaf)], [], 0⟩ = _
      unfold c18
      refine ev_seqN (s1 := ⟨[(0, .int .i64 s), (1, v), (2, .agg leaf), (5, .ptr 5 0 0), (6, .nilS)], [⟨5, 0, .var leaf⟩], 1⟩) (by simp -implicitDefEqProofs [plains_cells lp]) ?_
      refine ev_seqN (s1 := ⟨[(0, .int .i64 s), (1, v), (2, .agg leaf), (5, .ptr 5 0 0), (6, .nilS), (7, .nilS)], [⟨5, 0, .var leaf⟩], 1⟩) (by simp) ?_
      refine ev_seqK (s1 := ⟨[(0, .int .i64 s), (5, .ptr 5 0 0), (7, .nilS)], [⟨5, 0, .var leaf⟩], 1⟩) (by simp -implicitDefEqProofs [sr', aappend, St.keep]) ?_
      refine ev_seqK (s1 := ⟨[(0, .int .i64 s), (7, .own 17 2 0 1)], [⟨17, 2, .arr 32 [leaf] false⟩], 3⟩) (by simp -implicitDefEqProofs [aappend, St.keep, lt, ll, z1, m0, plains_fz lp]) ?_
      refine ev_seqN (s1 := ⟨[(0, .int .i64 s), (7, .own 17 2 0 1), (8, .int .i64 s1), (18, .int .i64 s), (19, .int .i64 s1)], [⟨17, 2, .arr 32 [leaf] false⟩], 3⟩) (by simp -implicitDefEqProofs [w1]) ?_
      refine ev_seqN (ev_blockL (by simp [St.keep]) e) ?_
      refine ev_keepN ?_
      rw [q0]
      simp
    · simp -implicitDefEqProofs [a18, q1, q2]
  · obtain ⟨r, R0, hr, hr2⟩ := dr_cons h0
    obtain ⟨m1, m2⟩ := bytes_le R0.length (by rw [hr2]; exact hb)
    have l8 : ¬ R0.length + 1 + 1 ≤ R0.length + 1 := Nat.not_succ_le_self _
    have tk0 : R0.take R0.length = R0 := List.take_length
    rw [hr] at sr
    rw [hr, ← hr2] at lb
    obtain ⟨E', R', gb', c', e, q0, q1, q2⟩ := lb true 3 4 (by omega)
    simp only [↓reduceIte] at e q0
    refine fun_of (q := ([.int .i64 s, v, .agg leaf], [], 0)) (by simp [a18]) (by simp -implicitDefEqProofs [plains_in lp, hvl, hvc]) (e := .ret) (s' := ⟨[(6, .own 13 gb' 0 wl), (7, .own 13 gb' 0 wl), (46, .own 13 gb' 0 wl)], [⟨13, gb', .arr 32 R' false⟩], c'⟩) ?_ (.inr rfl) ?_
    · show ev (Q (n + 5)) 3000 c18 ⟨[(0, .int .i64 s), (1, v), (2, .agg leaf)], [], 0⟩ = _
      unfold c18
      refine ev_seqN (s1 := ⟨[(0, .int .i64 s), (1, v), (2, .agg leaf), (5, .ptr 5 0 0), (6, .nilS)], [⟨5, 0, .var leaf⟩], 1⟩) (by simp -implicitDefEqProofs [plains_cells lp]) ?_
      refine ev_seqN (s1 := ⟨[(0, .int .i64 s), (1, v), (2, .agg leaf), (5, .ptr 5 0 0), (6, .nilS), (7, .nilS)], [⟨5, 0, .var leaf⟩], 1⟩) (by simp) ?_
      refine ev_seqK (s1 := ⟨[(0, .int .i64 s), (5, .ptr 5 0 0), (7, .own 13 1 0 (R0.length + 1))], [⟨5, 0, .var leaf⟩, ⟨13, 1, .arr 32 (r :: R0) false⟩], 2⟩) (by simp -implicitDefEqProofs [sr, aappend, St.keep, m1]) ?_
      refine ev_seqK (s1 := ⟨[(0, .int .i64 s), (7, .own 13 3 0 (R0.length + 1 + 1))], [⟨13, 3, .arr 32 (r :: R0 ++ [leaf]) false⟩], 4⟩) (by simp -implicitDefEqProofs [aappend, St.keep, lt, ll, z1, m2, l8, tk0, plains_fz lp]) ?_
      refine ev_seqN (s1 := ⟨[(0, .int .i64 s), (7, .own 13 3 0 (R0.length + 1 + 1)), (8, .int .i64 s1), (18, .int .i64 s), (19, .int .i64 s1)], [⟨13, 3, .arr 32 (r :: R0 ++ [leaf]) false⟩], 4⟩) (by simp -implicitDefEqProofs [w1]) ?_
      refine ev_seqN (ev_blockL (by simp [St.keep]) e) ?_
      refine ev_keepN ?_
      rw [q0]
      simp
    · simp -implicitDefEqProofs [a18, q1, q2]
end Go.Abs.Tryd

namespace Go.Abs.Tryd
open Go Go.Abs Go.Abs.Sha
set_option maxHeartbeats 16000000
set_option maxRecDepth 100000
set_option linter.unusedSimpArgs false
set_option linter.unusedVariables false
/-- the root of peaks -/
def rootR : List Dg → Dg
  | [] => sha []
  | [d] => d
  | a :: b :: r => Kn a (rootR (b :: r))
theorem rootR_len : ∀ {P : List Dg}, All32 P → (rootR P).length = 32
  | [], _ => sha_len _
  | [d], h => h d List.mem_cons_self
  | a :: b :: r, _ => Kn_len _ _
theorem rootR_drop {P : List Dg} {j : Nat} (h : j + 1 < P.length) : rootR (P.drop j) = Kn (P.getD j []) (rootR (P.drop (j + 1))) := by
  rw [List.drop_eq_getElem_cons (show j < P.length by omega), List.getD_eq_getElem?_getD, List.getElem?_eq_getElem (show j < P.length by omega)]
  rw [List.drop_eq_getElem_cons h]
  rfl
theorem all_drop {P : List Dg} (h : All32 P) (j : Nat) : All32 (P.drop j) := fun d hd => h d (List.mem_of_mem_drop hd)
theorem step12_of (Φ : Nat → Option FnF) (K : Nat) (F : CallF) (G J Y) (h26 : Φ 26 = some ⟨F, G, J, Y⟩) (t : Bool) (R : List (List AV)) (g2 g3 c k j : Nat) (i : Int) (Z y d e : List AV) (kn : F [.agg y, .agg d] = some (.agg e, [])) (r1 : R[j]? = some y)
    (l1 : y.length = 32) (l2 : d.length = 32) (l3 : e.length = 32) (p1 : y.all AV.plain = true) (p2 : d.all AV.plain = true) (p3 : e.all AV.plain = true) (w : IntKind.i64.wrap ((j : Int) - 1) = i) (hg2 : g2 < c) (hg3 : g3 < c) :
    iter (ev Φ K b12_0) [0, 2, 3, 4] [2, 3, 100000] (k + 1) ⟨[(0, .ro t 32 R), (2, .ptr 2 g2 0), (3, .ptr 3 g3 0), (4, .int .i64 j)], [⟨2, g2, .var Z⟩, ⟨3, g3, .var d⟩], c⟩ =
    iter (ev Φ K b12_0) [0, 2, 3, 4] [2, 3, 100000] k ⟨[(0, .ro t 32 R), (2, .ptr 2 g2 0), (3, .ptr 3 g3 0), (4, .int .i64 i)], [⟨2, g2, .var Z⟩, ⟨3, g3, .var e⟩], c⟩ := by
  have t1 : y.take 32 = y := List.take_of_length_le (by omega)
  have t2 : d.take 32 = d := List.take_of_length_le (by omega)
  have r1' := (List.getElem?_eq_some_iff.1 r1).2
  have r2 : j < R.length := (List.getElem?_eq_some_iff.1 r1).1
  have dd : d.drop 32 = [] := List.drop_of_length_le (by omega)
  apply iter_norm
  simp -implicitDefEqProofs [b12_0, St.keep, h26, kn, r1, r1', r2, l1, l2, l3, t1, t2, dd, w, hg2, hg3, plains_cells p1, plains_cells p2, plains_cells p3, plains_in p3, plains_lend p1, plains_lend p2, plains_low p1, plains_low p2, plains_low p3]
theorem root12_of (n : Nat) (t : Bool) (R : List (List AV)) (len : Nat) (hl : R.length = len + 1) (hb : len ≤ 100000) (l r : List AV) (g1 : R[len]? = some l) (ll : l.length = 32) (pl : l.all AV.plain = true) (lr : r.length = 32) (pr : r.all AV.plain = true)
    (lb : ∀ (Z : List AV), ∃ E', iter (ev (Q (n + 5)) 3000 b12_0) [0, 2, 3, 4] [2, 3, 100000] 3000 ⟨[(0, .ro t 32 R), (2, .ptr 2 0 0), (3, .ptr 3 1 0), (4, .int .i64 ((len : Int) - 1))], [⟨2, 0, .var Z⟩, ⟨3, 1, .var l⟩], 2⟩ =
      some (.exit 0, ⟨E', [⟨2, 0, .var Z⟩, ⟨3, 1, .var r⟩], 2⟩) ∧ envOnly [2, 3] E' = [(2, .ptr 2 0 0), (3, .ptr 3 1 0)]) : evFun (Q (n + 5)) 3000 a12 [.ro t 32 R] = some (.agg r, []) := by
  obtain ⟨E', e, e2⟩ := lb z29
  have z1 : z29.length = 32 := rfl
  have tl : l.take 32 = l := List.take_of_length_le (by omega)
  have tr : r.take 32 = r := List.take_of_length_le (by omega)
  have zd : z29.drop 32 = [] := rfl
  have i1 : ¬ ((len : Int) + 1 = 0) := by omega
  have i2 : (((len : Int) + 1) == 0) = false := by rw [beq_eq_false_iff_ne]; exact i1
  have w1 : IntKind.i64.wrap ((len : Int) + 1 - 1) = len := by rw [wrap_i64 _ (by omega) (by omega)]; omega
  have w1' : IntKind.i64.wrap (len : Int) = len := wrap_i64 _ (by omega) (by omega)
  have w2 : IntKind.i64.wrap ((len : Int) + 1 - 2) = (len : Int) - 1 := by rw [wrap_i64 _ (by omega) (by omega)]; omega
  have r1 : len < R.length := by omega
  have g1' := (List.getElem?_eq_some_iff.1 g1).2
  refine fun_of (q := ([.ro t 32 R], [], 0)) (by simp [a12]) (by simp) (e := .ret) (s' := ⟨[(2, .ptr 2 0 0), (3, .ptr 3 1 0), (28, .agg r)], [⟨2, 0, .var r⟩, ⟨3, 1, .var r⟩], 2⟩) ?_ (.inr rfl) (by simp -implicitDefEqProofs [a12, lr, tr, plains_cells pr, plains_mv pr])
  show ev (Q (n + 5)) 3000 c12 ⟨[(0, .ro t 32 R)], [], 0⟩ = _
  unfold c12
  refine ev_seqN (s1 := ⟨[(0, .ro t 32 R), (2, .ptr 2 0 0)], [⟨2, 0, .var z29⟩], 1⟩) (by simp) ?_
  refine ev_seqK (s1 := ⟨[(0, .ro t 32 R), (2, .ptr 2 0 0)], [⟨2, 0, .var z29⟩], 1⟩) (by simp -implicitDefEqProofs [hl, i1, i2, St.keep]) ?_
  refine ev_seqK (s1 := ⟨[(0, .ro t 32 R), (2, .ptr 2 0 0), (3, .ptr 3 1 0)], [⟨2, 0, .var z29⟩, ⟨3, 1, .var l⟩], 2⟩) (by simp -implicitDefEqProofs [hl, w1, w1', g1, g1', r1, ll, tl, z1, zd, plains_cells pl, St.keep]) ?_
  refine ev_seqN (ev_seqK (s1 := ⟨[(0, .ro t 32 R), (2, .ptr 2 0 0), (3, .ptr 3 1 0), (4, .int .i64 ((len : Int) - 1))], [⟨2, 0, .var z29⟩, ⟨3, 1, .var l⟩], 2⟩) (by simp -implicitDefEqProofs [hl, w2, St.keep]) (ev_blockX (by rw [ev]; exact e))) ?_
  refine ev_keepN ?_
  rw [e2]
  simp -implicitDefEqProofs [lr, tr, z1, zd, plains_cells pr]
theorem root12_nil (Φ : Nat → Option FnF) (K : Nat) (F : CallF) (G J Y) (h25 : Φ 25 = some ⟨F, G, J, Y⟩) (v : AV) (hvl : ∀ (H : AH) (c nm : Nat), inVal H c nm v = some (v, H, c)) (hvc : ∀ (H : AH) (c nm : Nat), inCell H c nm v = some (v, H, c)) (hl : alen v = some 0)
    (r : List AV) (s : F [.str ⟨#[]⟩] = some (.agg r, [])) (ls : r.length = 32) (ps : r.all AV.plain = true) : evFun Φ K a12 [v] = some (.agg r, []) := by
  have tr : r.take 32 = r := List.take_of_length_le (by omega)
  have z1 : z29.length = 32 := rfl
  have zd : z29.drop 32 = [] := rfl
  simp -implicitDefEqProofs [a12, c12, h25, s, hvl, hvc, hl, ls, tr, z1, zd, plains_cells ps, plains_in ps, plains_mv ps]
end Go.Abs.Tryd

namespace Go.Abs.Tryd
open Go Go.Abs Go.Abs.Sha
set_option maxHeartbeats 16000000
set_option maxRecDepth 100000
set_option linter.unusedSimpArgs false
set_option linter.unusedVariables false
abbrev V10 : Env := [(1, .ptr 1 0 0), (2, .ptr 2 1 0), (5, .ptr 5 2 0), (17, .fn 35 [.ptr 3220001 3 0])]
abbrev Y10 (Φ : Nat → Option FnF) : InlF := around (ev Φ 3000 b10_1) (ev Φ 3000 b10_0) V10 2900000 4 [18, 19]
theorem k35 : 1 ∈ kh35i_0 ∧ 2 ∈ kh35i_0 ∧ 5 ∈ kh35i_0 ∧ 7 ∈ kh35i_0 ∧ 2900000 ∈ kh35i_0 ∧ 3220001 ∈ kh35i_0 := by decide +kernel
def H10 (X : AH) (s : Int) (v : AV) (Z d : List AV) : AH := [⟨1, 0, .var [.int .i64 s, v]⟩, ⟨2, 1, .var Z⟩, ⟨5, 2, .var d⟩] ++ X ++ [⟨2900000, 4, .lp .ready⟩, ⟨3220001, 3, .var [v]⟩]
def Jx (X : AH) : Prop := X = [] ∨ ∃ g r, X = [⟨7, g, .var r⟩]
theorem step35 (Φ Φ' : Nat → Option FnF) (F : CallF) (G J Y) (h23 : Φ 23 = some ⟨F, G, J, Y⟩) (X : AH) (hX : Jx X) (s : Int) (t : Bool) (R : List (List AV)) (Z y d e : List AV) (len j c k : Nat) (hR : R.length = len + 1) (hb : len ≤ 100000) (r1 : R[j]? = some y)
    (hl : y.length = 32) (l2 : d.length = 32) (l3 : e.length = 32) (p1 : y.all AV.plain = true) (p2 : d.all AV.plain = true) (p3 : e.all AV.plain = true) (hc : 4 < c)
    (hcase : (j = len ∧ e = y) ∨ (j < len ∧ F [.agg y, .agg d] = some (.agg e, []))) :
    ∃ X', Jx X' ∧ iter (ev (withY Φ' 2900000 (Y10 Φ)) 3000 b35i_0) [0, 1, 3] kh35i_0 (k + 1) ⟨[(0, .yld 2900000 4), (1, .ptr 3220001 3 0), (3, .int .i64 (j : Nat))], H10 X s (.ro t 32 R) Z d, c⟩ =
      iter (ev (withY Φ' 2900000 (Y10 Φ)) 3000 b35i_0) [0, 1, 3] kh35i_0 k ⟨[(0, .yld 2900000 4), (1, .ptr 3220001 3 0), (3, .int .i64 ((j : Int) - 1))], H10 X' s (.ro t 32 R) Z e, c + 1⟩ := by
  obtain ⟨a1, a2, a3, a4, a5, a6⟩ := k35
  have t1 : y.take 32 = y := List.take_of_length_le (by omega)
  have t2 : d.take 32 = d := List.take_of_length_le (by omega)
  have td : d.drop 32 = [] := List.drop_of_length_le (by omega)
  have r1' := (List.getElem?_eq_some_iff.1 r1).2
  have r2 : j < R.length := (List.getElem?_eq_some_iff.1 r1).1
  have w1 : IntKind.i64.wrap ((j : Int) - 1) = (j : Int) - 1 := wrap_i64 _ (by omega) (by omega)
  have w2 : IntKind.i64.wrap ((len : Int) + 1 - 1) = len := by rw [wrap_i64 _ (by omega) (by omega)]; omega
  have w3 : IntKind.i64.wrap (len : Int) = len := wrap_i64 _ (by omega) (by omega)
  have z1 : z29.length = 32 := rfl
  have zd : z29.drop 32 = [] := rfl
  have d0 : 0 < c := by omega
  have d1 : 1 < c := by omega
  have d2 : 2 < c := by omega
  have d3 : 3 < c := by omega
  refine ⟨[⟨7, c, .var y⟩], .inr ⟨_, _, rfl⟩, iter_norm ?_⟩
  unfold H10
  rcases hcase with ⟨h1, rfl⟩ | ⟨h1, kn⟩
  · subst h1
    rcases hX with rfl | ⟨g, r, rfl⟩ <;>
    simp -implicitDefEqProofs [b35i_0, b10_0, b10_1, St.keep, a1, a2, a3, a4, a5, a6, V10, Y10, withY, ykey, FnF.yield, around, envPar, roundEnd, r1, r1', r2, hR, hl, l2, t1, t2, td, w1, w2, w3, z1, zd, d0, d1, d2, d3, plains_cells p1]
  · have n1 : ¬ ((j : Int) = len) := by omega
    have n2 : ((j : Int) == (len : Int)) = false := by rw [beq_eq_false_iff_ne]; exact n1
    have n3 : ¬ j = len := by omega
    rcases hX with rfl | ⟨g, r, rfl⟩ <;>
    simp -implicitDefEqProofs [b35i_0, b10_0, b10_1, St.keep, a1, a2, a3, a4, a5, a6, V10, Y10, withY, ykey, FnF.yield, around, envPar, roundEnd, r1, r1', r2, hR, hl, l2, l3, t1, t2, td, w1, w2, w3, z1, zd, d0, d1, d2, d3, n1, n2, n3, h23, kn, plains_cells p1, plains_cells p2, plains_cells p3, plains_in p3, plains_lend p1, plains_lend p2]
theorem end35 (Φ Φ' : Nat → Option FnF) (X : AH) (hX : Jx X) (s : Int) (v : AV) (Z d : List AV) (c k : Nat) :
    ∃ E', iter (ev (withY Φ' 2900000 (Y10 Φ)) 3000 b35i_0) [0, 1, 3] kh35i_0 (k + 1) ⟨[(0, .yld 2900000 4), (1, .ptr 3220001 3 0), (3, .int .i64 (-1))], H10 X s v Z d, c⟩ = some (.exit 0, ⟨E', H10 X s v Z d, c⟩) := by
  obtain ⟨a1, a2, a3, a4, a5, a6⟩ := k35
  refine ⟨[(0, .yld 2900000 4), (1, .ptr 3220001 3 0), (3, .int .i64 (-1)), (7, .int .i64 (-1)), (8, .bool false)], ?_⟩
  rw [iter_succ]
  unfold H10
  rcases hX with rfl | ⟨g, r, rfl⟩ <;> simp -implicitDefEqProofs [b35i_0, a1, a2, a3, a4, a5, a6]
theorem loop35 (m : Nat) (Φ' : Nat → Option FnF) (s : Int) (t : Bool) (P : List Dg) (hP : All32 P) (hb : P.length ≤ 100000) (h0 : P ≠ []) (Z : List AV) : ∀ (n k c : Nat) (X : AH) (d : Dg), Jx X → n ≤ P.length → n < k → d.length = 32 → (n < P.length → d = rootR (P.drop n)) → 4 < c →
    ∃ E' X' c', Jx X' ∧ iter (ev (withY Φ' 2900000 (Y10 (Q (m + 7)))) 3000 b35i_0) [0, 1, 3] kh35i_0 k ⟨[(0, .yld 2900000 4), (1, .ptr 3220001 3 0), (3, .int .i64 ((n : Int) - 1))], H10 X s (.ro t 32 (dr P)) Z (u8s d), c⟩ =
      some (.exit 0, ⟨E', H10 X' s (.ro t 32 (dr P)) Z (u8s (rootR P)), c'⟩)
  | n, 0, c, X, d, hX, hn, hk, hd, he, hc => by omega
  | 0, k + 1, c, X, d, hX, hn, hk, hd, he, hc => by
    have h1 : 0 < P.length := List.length_pos_iff.2 h0
    obtain rfl := he h1
    obtain ⟨E', e⟩ := end35 (Q (m + 7)) Φ' X hX s (.ro t 32 (dr P)) Z (u8s (rootR (P.drop 0))) c k
    rw [List.drop_zero] at e ⊢
    exact ⟨E', X, c, hX, e⟩
  | n + 1, k + 1, c, X, d, hX, hn, hk, hd, he, hc => by
    have hy : (P.getD n []).length = 32 := by
      rw [List.getD_eq_getElem?_getD, List.getElem?_eq_getElem (show n < P.length by omega)]; exact hP _ (List.getElem_mem _)
    have gy : (dr P)[n]? = some (u8s (P.getD n [])) := by
      rw [dr, List.getElem?_map, List.getD_eq_getElem?_getD, List.getElem?_eq_getElem (show n < P.length by omega)]; rfl
    have hr := rootR_len (all_drop hP n)
    have hcase : (n = P.length - 1 ∧ u8s (rootR (P.drop n)) = u8s (P.getD n [])) ∨ (n < P.length - 1 ∧ E (m + 7) 23 [.agg (u8s (P.getD n [])), .agg (u8s d)] = some (.agg (u8s (rootR (P.drop n))), [])) := by
      by_cases hlast : n = P.length - 1
      · left
        refine ⟨hlast, ?_⟩
        rw [List.drop_eq_getElem_cons (show n < P.length by omega), List.drop_of_length_le (by omega), List.getD_eq_getElem?_getD, List.getElem?_eq_getElem (show n < P.length by omega)]; rfl
      · right
        refine ⟨by omega, ?_⟩
        rw [rootR_drop (show n + 1 < P.length by omega), ← he (by omega)]
        exact knot23 (m + 1) _ _ hy hd
    obtain ⟨X1, hX1, e1⟩ := step35 (Q (m + 7)) Φ' _ _ _ _ (q23 (m + 6)) X hX s t (dr P) Z _ (u8s d) (u8s (rootR (P.drop n))) (P.length - 1) n c k (by rw [dr_len]; omega) (by omega) gy (by rw [u8s_len, hy]) (by rw [u8s_len, hd]) (by rw [u8s_len, hr]) (u8s_plain _) (u8s_plain _) (u8s_plain _) hc hcase
    obtain ⟨E', X', c', q1, q2⟩ := loop35 m Φ' s t P hP hb h0 Z n k (c + 1) X1 (rootR (P.drop n)) hX1 (by omega) (by omega) hr (fun _ => rfl) (by omega)
    refine ⟨E', X', c', q1, ?_⟩
    rw [show ((n + 1 : Nat) : Int) - 1 = (n : Int) by omega, e1]
    exact q2
theorem LD.cells1 {D v} (h : LD D v) : v.cells = [v] := by rcases h with ⟨rfl, rfl⟩ | ⟨rfl, rfl⟩ | ⟨t, rfl⟩ <;> rfl
theorem root10_no (Φ : Nat → Option FnF) (F : CallF) (G J Y) (h9 : Φ 9 = some ⟨F, G, J, Y⟩) (s : Int) (v : AV) (P : List Dg) (hv : LD P v) (c9 : F [.agg [.int .i64 s, v]] = some (.int .i64 30, [])) :
    evFun Φ 3000 a10 [.agg [.int .i64 s, v]] = some (.tup [.agg z29, .int .i64 30], []) := by
  have z1 : z29.length = 32 := rfl
  have zd : z29.drop 32 = [] := rfl
  have zt : z29.take 32 = z29 := rfl
  have pz : z29.all AV.plain = true := rfl
  refine fun_of (q := ([.agg [.int .i64 s, v]], [], 0)) (by simp [a10]) (by simp -implicitDefEqProofs [hv.cell]) (e := .ret) (s' := ⟨[(0, .agg [.int .i64 s, v]), (1, .ptr 1 0 0), (2, .ptr 2 1 0), (3, .int .i64 30), (4, .int .i64 30), (8, .agg [.int .i64 s, v]), (9, .int .i64 30), (10, .int .i64 30), (11, .bool true), (12, .agg z29), (13, .int .i64 30)], [⟨1, 0, .var [.int .i64 s, v]⟩, ⟨2, 1, .var z29⟩], 2⟩) ?_ (.inr rfl) (by simp -implicitDefEqProofs [a10, z1, zt, plains_cells pz, plains_mv pz])
  show ev Φ 3000 c10 ⟨[(0, .agg [.int .i64 s, v])], [], 0⟩ = _
  unfold c10
  refine ev_seqN (s1 := ⟨[(0, .agg [.int .i64 s, v]), (1, .ptr 1 0 0), (2, .ptr 2 1 0), (3, .int .i64 0)], [⟨1, 0, .var [.int .i64 s, v]⟩, ⟨2, 1, .var z29⟩], 2⟩) (by simp -implicitDefEqProofs [hv.cb]) ?_
  refine ev_seqR (by simp) ?_
  refine ev_seqN (s1 := ⟨[(0, .agg [.int .i64 s, v]), (1, .ptr 1 0 0), (2, .ptr 2 1 0), (3, .int .i64 0), (4, .int .i64 30), (8, .agg [.int .i64 s, v]), (9, .int .i64 30)], [⟨1, 0, .var [.int .i64 s, v]⟩, ⟨2, 1, .var z29⟩], 2⟩) (by simp -implicitDefEqProofs [h9, c9, hv.ldc]) ?_
  simp -implicitDefEqProofs [z1, zd, plains_cells pz]
theorem itr35 (Φ' : Nat → Option FnF) (Y : InlF) (s : Int) (v : AV) (Z e0 D : List AV) (len : Int) (X' : AH) (E' : Env) (c' : Nat) (hl : (alen v).map (fun n : Nat => (n : Int)) = some len) (w1 : IntKind.i64.wrap (len - 1) = len - 1)
    (e : iter (ev (withY Φ' 2900000 Y) 3000 b35i_0) [0, 1, 3] kh35i_0 3000 ⟨[(0, .yld 2900000 4), (1, .ptr 3220001 3 0), (3, .int .i64 (len - 1))], H10 [] s v Z e0, 5⟩ = some (.exit 0, ⟨E', H10 X' s v Z D, c'⟩)) :
    evItr Φ' 3000 a35i 2900000 Y (H10 [] s v Z e0) 5 [.yld 2900000 4, .ptr 3220001 3 0] = some (.tup [], H10 X' s v Z D, c') := by
  obtain ⟨a1, a2, a3, a4, a5, a6⟩ := k35
  obtain ⟨m, hm, rfl⟩ := Option.map_eq_some_iff.1 hl
  have hc : ev (withY Φ' 2900000 Y) 3000 c35i ⟨[(0, .yld 2900000 4), (1, .ptr 3220001 3 0)], H10 [] s v Z e0, 5⟩ = some (.normal, ⟨E', H10 X' s v Z D, c'⟩) := by
    unfold c35i
    exact ev_seqK (s1 := ⟨[(0, .yld 2900000 4), (1, .ptr 3220001 3 0), (3, .int .i64 ((m : Int) - 1))], H10 [] s v Z e0, 5⟩) (by unfold H10; simp -implicitDefEqProofs [hm, w1, St.keep, a1, a2, a3, a4, a5, a6]) (ev_blockX (by rw [ev]; exact e))
  unfold evItr evInl evBody
  rw [if_neg (by simp [a35i])]
  show (match ev (withY Φ' 2900000 Y) 3000 c35i ⟨[(0, .yld 2900000 4), (1, .ptr 3220001 3 0)], H10 [] s v Z e0, 5⟩ with | some (.normal, s') => some s' | some (.ret, s') => some s' | _ => none).bind _ = _
  rw [hc]
  rfl
theorem ev_blockN {Φ : Nat → Option FnF} {k id : Nat} {b : AC} {s s1 : St} (h : ev Φ k b s = some (.normal, s1)) : ev Φ k (.block id b) s = some (.normal, s1) := by
  rw [ev, h]
end Go.Abs.Tryd

namespace Go.Abs.Tryd
open Go Go.Abs Go.Abs.Sha
set_option maxHeartbeats 16000000
set_option maxRecDepth 100000
set_option linter.unusedSimpArgs false
set_option linter.unusedVariables false
theorem p21 (Φ : Nat → Option FnF) (F : CallF) (G J Y) (h21 : Φ 21 = some ⟨F, G, J, Y⟩) (s : Int) (v : AV) (e0 : List AV) (c21 : F [] = some (.agg e0, [])) (p0 : e0.all AV.plain = true) (l0 : e0.length = 32) :
    ev Φ 3000 (.reg false [{ dst := some 14, op := .call 15000 21 [] }, { dst := some 5, op := .alloc 5 z29 }, { dst := none, op := .store 32 (.t 5) (.t 14) }]) ⟨[(1, .ptr 1 0 0), (2, .ptr 2 1 0)], [⟨1, 0, .var [.int .i64 s, v]⟩, ⟨2, 1, .var z29⟩], 2⟩ =
      some (.normal, ⟨[(1, .ptr 1 0 0), (2, .ptr 2 1 0), (5, .ptr 5 2 0), (14, .agg e0)], [⟨1, 0, .var [.int .i64 s, v]⟩, ⟨2, 1, .var z29⟩, ⟨5, 2, .var e0⟩], 3⟩) := by
  have z1 : z29.length = 32 := rfl
  have zd : z29.drop 32 = [] := rfl
  simp -implicitDefEqProofs [h21, c21, z1, zd, l0, plains_cells p0, plains_in p0]
theorem root10_of (n : Nat) (s : Int) (v : AV) (P : List Dg) (hv : LD P v) (c9 : E (n + 7) 9 [.agg [.int .i64 s, v]] = some (.int .i64 0, [])) (e0 D : List AV) (c21 : E (n + 7) 21 [] = some (.agg e0, [])) (p0 : e0.all AV.plain = true) (l0 : e0.length = 32) (pD : D.all AV.plain = true) (lD : D.length = 32)
    (hb : P.length ≤ 100000)
    (lb : ∃ E' X' c', Jx X' ∧ iter (ev (withY (Q (n + 6)) 2900000 (Y10 (Q (n + 7)))) 3000 b35i_0) [0, 1, 3] kh35i_0 3000 ⟨[(0, .yld 2900000 4), (1, .ptr 3220001 3 0), (3, .int .i64 ((P.length : Int) - 1))], H10 [] s v z29 e0, 5⟩ = some (.exit 0, ⟨E', H10 X' s v z29 D, c'⟩)) :
    evFun (Q (n + 7)) 3000 a10 [.agg [.int .i64 s, v]] = some (.tup [.agg D, .int .i64 0], []) := by
  obtain ⟨E', X', c', hX, e⟩ := lb
  obtain ⟨a1, a2, a3, a4, a5, a6⟩ := k35
  have z1 : z29.length = 32 := rfl
  have zd : z29.drop 32 = [] := rfl
  have pz : z29.all AV.plain = true := rfl
  have t0 : e0.take 32 = e0 := List.take_of_length_le (by omega)
  have tD : D.take 32 = D := List.take_of_length_le (by omega)
  have dD : D.drop 32 = [] := List.drop_of_length_le (by omega)
  have hl := hv.len
  have it := itr35 (Q (n + 6)) (Y10 (Q (n + 7))) s v z29 e0 D P.length X' E' c' (by rw [hl]; rfl) (wrap_i64 _ (by omega) (by omega)) e
  refine fun_of (q := ([.agg [.int .i64 s, v]], [], 0)) (by simp [a10]) (by simp -implicitDefEqProofs [hv.cell]) (e := .ret) (s' := ⟨[(2, .ptr 2 1 0), (3, .int .i64 0), (5, .ptr 5 2 0), (30, .agg D)], [⟨2, 1, .var D⟩, ⟨5, 2, .var D⟩], c'⟩) ?_ (.inr rfl) (by simp -implicitDefEqProofs [a10, lD, tD, plains_cells pD, plains_mv pD])
  show ev (Q (n + 7)) 3000 c10 ⟨[(0, .agg [.int .i64 s, v])], [], 0⟩ = _
  unfold c10
  refine ev_seqN (s1 := ⟨[(0, .agg [.int .i64 s, v]), (1, .ptr 1 0 0), (2, .ptr 2 1 0), (3, .int .i64 0)], [⟨1, 0, .var [.int .i64 s, v]⟩, ⟨2, 1, .var z29⟩], 2⟩) (by simp -implicitDefEqProofs [hv.cb]) ?_
  refine ev_seqK (s1 := ⟨[(1, .ptr 1 0 0), (2, .ptr 2 1 0)], [⟨1, 0, .var [.int .i64 s, v]⟩, ⟨2, 1, .var z29⟩], 2⟩) (by
    rw [ev_seqN (s1 := ⟨[(0, .agg [.int .i64 s, v]), (1, .ptr 1 0 0), (2, .ptr 2 1 0), (3, .int .i64 0), (4, .int .i64 0), (8, .agg [.int .i64 s, v]), (9, .int .i64 0)], [⟨1, 0, .var [.int .i64 s, v]⟩, ⟨2, 1, .var z29⟩], 2⟩) (by simp -implicitDefEqProofs [q9, c9, hv.ldc]) rfl]
    simp -implicitDefEqProofs [St.keep]) ?_
  refine ev_seqN (s1 := ⟨[(1, .ptr 1 0 0), (2, .ptr 2 1 0), (5, .ptr 5 2 0), (14, .agg e0)], [⟨1, 0, .var [.int .i64 s, v]⟩, ⟨2, 1, .var z29⟩, ⟨5, 2, .var e0⟩], 3⟩) (p21 (Q (n + 7)) _ _ _ _ (q21 (n + 6)) s v e0 c21 p0 l0) ?_
  refine ev_seqK (s1 := ⟨[(2, .ptr 2 1 0), (5, .ptr 5 2 0)], [⟨2, 1, .var z29⟩, ⟨5, 2, .var D⟩], c'⟩) ?_ ?_
  · rw [ev_seqN (s1 := ⟨[(1, .ptr 1 0 0), (2, .ptr 2 1 0), (5, .ptr 5 2 0), (14, .agg e0), (15, .ptr 1 0 1), (16, v), (17, .fn 35 [.ptr 3220001 3 0])], [⟨1, 0, .var [.int .i64 s, v]⟩, ⟨2, 1, .var z29⟩, ⟨5, 2, .var e0⟩, ⟨3220001, 3, .var [v]⟩], 4⟩) (by simp -implicitDefEqProofs [q22, i22, a22i, c22i, evInl, hv.cells1, hv.cb]) (ev_blockN (s1 := ⟨[(1, .ptr 1 0 0), (2, .ptr 2 1 0), (5, .ptr 5 2 0), (14, .agg e0), (15, .ptr 1 0 1), (16, v), (17, .fn 35 [.ptr 3220001 3 0])], (H10 X' s v z29 D).del 2900000, c'⟩) ?_)]
    · rcases hX with rfl | ⟨g, r, rfl⟩ <;> simp -implicitDefEqProofs [St.keep, H10]
    · have hq : Q (n + 7) 35 = some ⟨E (n + 7) 35, I (n + 7) 35, evItr (Q (n + 6)) 3000 a35i, InlF.none⟩ := rfl
      rw [ev]
      show ((Q (n + 7) 35).bind fun F => (F.itr 2900000 (Y10 (Q (n + 7))) (H10 [] s v z29 e0) 5 [.yld 2900000 4, .ptr 3220001 3 0]).bind (rangeEnd 2900000 4 [(1, .ptr 1 0 0), (2, .ptr 2 1 0), (5, .ptr 5 2 0), (14, .agg e0), (15, .ptr 1 0 1), (16, v), (17, .fn 35 [.ptr 3220001 3 0])])) = _
      rw [hq]
      show ((evItr (Q (n + 6)) 3000 a35i 2900000 (Y10 (Q (n + 7))) (H10 [] s v z29 e0) 5 [.yld 2900000 4, .ptr 3220001 3 0]).bind (rangeEnd 2900000 4 [(1, .ptr 1 0 0), (2, .ptr 2 1 0), (5, .ptr 5 2 0), (14, .agg e0), (15, .ptr 1 0 1), (16, v), (17, .fn 35 [.ptr 3220001 3 0])])) = _
      rw [it]
      rcases hX with rfl | ⟨g, r, rfl⟩ <;> simp -implicitDefEqProofs [rangeEnd, H10]
  simp -implicitDefEqProofs [z1, zd, lD, tD, dD, plains_cells pD]
/-- what front.Root answers -/
def rootF (s : Int) (P : List Dg) : AV := if okF s P.length then .tup [.agg (u8s (rootR P)), .int .i64 0] else .tup [.agg z29, .int .i64 30]
theorem root10 (n : Nat) (s : Int) (v : AV) (P : List Dg) (hv : LD P v) (hP : All32 P) (hb : P.length ≤ 2900) : E (n + 8) 10 [.agg [.int .i64 s, v]] = some (rootF s P, []) := by
  have c9 := check9 (n + 4) s v P hv (by omega)
  rw [e10]
  unfold rootF
  cases hok : okF s P.length
  · rw [hok] at c9
    exact root10_no _ _ _ _ _ (q9 (n + 6)) s v P hv c9
  · rw [hok] at c9
    refine root10_of n s v P hv c9 (u8s (sha [])) (u8s (rootR P)) (empty12 (n + 1)) (u8s_plain _) (by rw [u8s_len]; exact sha_len []) (u8s_plain _) (by rw [u8s_len, rootR_len hP]) (by omega) ?_
    by_cases h0 : P = []
    · subst h0
      obtain ⟨E', e⟩ := end35 (Q (n + 7)) (Q (n + 6)) [] (.inl rfl) s v z29 (u8s (sha [])) 5 2999
      exact ⟨E', [], 5, .inl rfl, e⟩
    · obtain ⟨t, rfl⟩ : ∃ t, v = .ro t 32 (dr P) := by rcases hv with ⟨_, h⟩ | ⟨_, h⟩ | h; exact absurd h h0; exact absurd h h0; exact h
      obtain ⟨E', X', c', h1, h2⟩ := loop35 n (Q (n + 6)) s t P hP (by omega) h0 z29 P.length 3000 5 [] (sha []) (.inl rfl) (Nat.le_refl _) (by omega) (sha_len []) (fun h => absurd h (Nat.lt_irrefl _)) (by omega)
      exact ⟨E', X', c', h1, h2⟩
end Go.Abs.Tryd

namespace Go.Abs.Tryd
open Go Go.Abs Go.Abs.Sha
set_option maxHeartbeats 16000000
set_option maxRecDepth 100000
set_option linter.unusedSimpArgs false
set_option linter.unusedVariables false
/-- the peaks of a list: leaves come one by one -/
def ofL : Nat → List Dg → List Dg → List Dg
  | _, P, [] => P
  | i, P, d :: r => ofL (i + 1) (addL i d P) r
/-- the memory of front.Of: no peak yet, or some -/
def HO (b : Bool) (gb : Nat) (i : Int) (R : List (List AV)) : AH :=
  if b then [⟨2, 0, .var z25⟩, ⟨12, 1, .var [.int .i64 i, .own 1012001 gb 0 R.length]⟩, ⟨1012001, gb, .arr 32 R false⟩] else [⟨2, 0, .var z25⟩, ⟨12, 1, .var [.int .i64 i, .nilS]⟩]
theorem step15 (Φ : Nat → Option FnF) (F : CallF) (G J Y) (h27 : Φ 27 = some ⟨F, G, J, Y⟩) (b : Bool) (gb c k i len : Nat) (s1 : Int) (t : Bool) (L : List (List AV)) (R W : List (List AV)) (y : List AV) (r1 : L[i]? = some y) (hl : L.length = len) (hi : i < len) (hlen : len ≤ 100000) (ly : y.length = 32) (py : y.all AV.plain = true)
    (f : F [.pv [.int .i64 i, if b then .fr 32 R else .nilS], .agg y] = some (.tup [], [[.int .i64 s1, .fr 32 W]])) (hc : 1 < c) (hs : s1 = (i + 1 : Nat)) :
    iter (ev Φ 3000 b15_0) [2, 4, 13, 14, 15] [2, 12, 100000, 1012001] (k + 1) ⟨[(2, .ptr 2 0 0), (4, .ptr 12 1 0), (13, .ro t 32 L), (14, .int .i64 len), (15, .int .i64 i)], HO b gb i R, c⟩ =
    iter (ev Φ 3000 b15_0) [2, 4, 13, 14, 15] [2, 12, 100000, 1012001] k ⟨[(2, .ptr 2 0 0), (4, .ptr 12 1 0), (13, .ro t 32 L), (14, .int .i64 len), (15, .int .i64 (i + 1 : Nat))], HO true (c + 1) (i + 1 : Nat) W, c + 2⟩ := by
  have ty : y.take 32 = y := List.take_of_length_le (by omega)
  have r1' := (List.getElem?_eq_some_iff.1 r1).2
  have r2 : i < L.length := by omega
  have z1 : z29.length = 32 := rfl
  have zd : z29.drop 32 = [] := rfl
  have i1 : (i : Int) < len := by omega
  have w1 : IntKind.i64.wrap ((i : Int) + 1) = s1 := by rw [hs, wrap_i64 _ (by omega) (by omega)]; omega
  have tk : R.take R.length = R := List.take_length
  rw [← hs]
  clear hs
  apply iter_norm
  unfold HO
  cases b
  · simp only [Bool.false_eq_true, if_false] at f
    simp -implicitDefEqProofs [b15_0, St.keep, h27, f, r1, r1', r2, ly, ty, z1, zd, i1, w1, z25, plains_cells py, plains_lend py]
  · simp only [↓reduceIte] at f
    simp -implicitDefEqProofs [b15_0, St.keep, h27, f, r1, r1', r2, ly, ty, z1, zd, i1, w1, tk, z25, plains_cells py, plains_lend py]
theorem ofL_32 : ∀ (L : List Dg) (i : Nat) {P : List Dg}, All32 P → All32 L → All32 (ofL i P L)
  | [], i, P, hP, hL => hP
  | d :: r, i, P, hP, hL => ofL_32 r (i + 1) (addL_32 hP (hL d List.mem_cons_self)) (fun x hx => hL x (List.mem_cons_of_mem _ hx))
theorem ofL_len : ∀ (L : List Dg) (i : Nat) {P : List Dg}, P.length = pop i → (ofL i P L).length = pop (i + L.length)
  | [], i, P, h => h
  | d :: r, i, P, h => by
    rw [ofL, ofL_len r (i + 1) (addL_len h), List.length_cons, show i + (r.length + 1) = i + 1 + r.length by omega]
theorem pop_le : ∀ (k y : Nat), y < 2 ^ k → pop y ≤ k
  | 0, y, h => by obtain rfl : y = 0 := by omega
                  rw [pop_zero]; omega
  | k + 1, y, h => by
    by_cases h0 : y = 0
    · subst h0; rw [pop_zero]; omega
    · rw [pop_pos h0]; have := pop_le k (y / 2) (by rw [Nat.pow_succ] at h; omega); omega
theorem loop15 (n : Nat) (t : Bool) (L : List Dg) (hL : All32 L) (hlen : L.length ≤ 2900) : ∀ (d i k c gb : Nat) (b : Bool) (P : List Dg), i + d = L.length → d < k → All32 P → P.length = pop i → 1 < c → (b = false → P = []) →
    ∃ E' b' gb' c', iter (ev (Q (n + 7)) 3000 b15_0) [2, 4, 13, 14, 15] [2, 12, 100000, 1012001] k ⟨[(2, .ptr 2 0 0), (4, .ptr 12 1 0), (13, .ro t 32 (dr L)), (14, .int .i64 L.length), (15, .int .i64 i)], HO b gb i (dr P), c⟩ =
      some (.exit 0, ⟨E', HO b' gb' L.length (dr (ofL i P (L.drop i))), c'⟩) ∧ envOnly [2, 4] E' = [(2, .ptr 2 0 0), (4, .ptr 12 1 0)] ∧ (b' = false → ofL i P (L.drop i) = [])
  | d, i, 0, c, gb, b, P, hi, hk, hP, hp, hc, hb => by omega
  | 0, i, k + 1, c, gb, b, P, hi, hk, hP, hp, hc, hb => by
    obtain rfl : i = L.length := by omega
    rw [List.drop_length]
    refine ⟨[(2, .ptr 2 0 0), (4, .ptr 12 1 0), (13, .ro t 32 (dr L)), (14, .int .i64 L.length), (15, .int .i64 L.length), (16, .bool false)], b, gb, c, ?_, by simp, hb⟩
    rw [iter_succ, ofL]
    unfold HO
    generalize dr L = R
    cases b <;> simp -implicitDefEqProofs [b15_0]
  | d + 1, i, k + 1, c, gb, b, P, hi, hk, hP, hp, hc, hb => by
    have hy := hL L[i] (List.getElem_mem _)
    have gy : (dr L)[i]? = some (u8s L[i]) := by rw [dr, List.getElem?_map, List.getElem?_eq_getElem (show i < L.length by omega)]; rfl
    have hpl : pop i ≤ 12 := pop_le 12 i (by omega)
    have f := add27 n i (by omega) (if b then .fr 32 (dr P) else .nilS) P hP (by cases b with | false => exact .inl ⟨rfl, hb rfl⟩ | true => exact .inr (.inr rfl)) hp L[i] hy (by omega)
    rw [step15 (Q (n + 7)) _ _ _ _ (q27 (n + 6)) b gb c k i L.length _ t (dr L) (dr P) (dr (addL i L[i] P)) (u8s L[i]) gy (dr_len L) (by omega) (by omega) (by rw [u8s_len, hy]) (u8s_plain _) f hc rfl]
    obtain ⟨E', b', gb', c', e1, e2, e3⟩ := loop15 n t L hL hlen d (i + 1) k (c + 2) (c + 1) true (addL i L[i] P) (by omega) (by omega) (addL_32 hP hy) (addL_len hp) (by omega) (fun h => by cases h)
    have hd : L.drop i = L[i] :: L.drop (i + 1) := List.drop_eq_getElem_cons (show i < L.length by omega)
    refine ⟨E', b', gb', c', ?_, e2, ?_⟩
    · rw [hd, ofL]; exact e1
    · rw [hd, ofL]; exact e3
end Go.Abs.Tryd

namespace Go.Abs.Tryd
open Go Go.Abs Go.Abs.Sha
set_option maxHeartbeats 16000000
set_option maxRecDepth 100000
set_option linter.unusedSimpArgs false
set_option linter.unusedVariables false
theorem of15_of (Φ : Nat → Option FnF) (v : AV) (L : List Dg) (hv : LD L v) (hb : L.length ≤ 2900) (b' : Bool) (gb' c' : Nat) (E' : Env) (R : List (List AV)) (lb : iter (ev Φ 3000 b15_0) [2, 4, 13, 14, 15] [2, 12, 100000, 1012001] 3000 ⟨[(2, .ptr 2 0 0), (4, .ptr 12 1 0), (13, v), (14, .int .i64 L.length), (15, .int .i64 0)], HO false 0 0 [], 2⟩ =
      some (.exit 0, ⟨E', HO b' gb' L.length R, c'⟩)) (e2 : envOnly [2, 4] E' = [(2, .ptr 2 0 0), (4, .ptr 12 1 0)]) : evFun Φ 3000 a15 [v] = some (.tup [.agg [.int .i64 L.length, if b' then .fr 32 R else .nilS], .int .i64 0], []) := by
  have hl := hv.len
  have n1 : ¬ (100000 : Int) < L.length := by omega
  have tk : R.take R.length = R := List.take_length
  refine fun_of (q := ([v], [], 0)) (by simp [a15]) (by simp -implicitDefEqProofs [hv.cell, hv.val]) (e := .ret)
    (s' := ⟨[(2, .ptr 2 0 0), (3, .int .i64 0), (4, .ptr 12 1 0), (23, .ptr 12 1 0), (24, .ptr 12 1 0), (25, .ptr 12 1 0), (26, .agg [.int .i64 L.length, if b' then .own 1012001 gb' 0 R.length else .nilS])], if b' then [⟨2, 0, .var [.int .i64 L.length, .own 1012001 gb' 0 R.length]⟩, ⟨12, 1, .var [.int .i64 L.length, .own 1012001 gb' 0 R.length]⟩, ⟨1012001, gb', .arr 32 R false⟩] else [⟨2, 0, .var [.int .i64 L.length, .nilS]⟩, ⟨12, 1, .var [.int .i64 L.length, .nilS]⟩], c'⟩) ?_ (.inr rfl) (by cases b' <;> simp -implicitDefEqProofs [a15, tk])
  show ev Φ 3000 c15 ⟨[(0, v)], [], 0⟩ = _
  unfold c15
  refine ev_seqN (s1 := ⟨[(0, v), (2, .ptr 2 0 0), (3, .int .i64 0)], [⟨2, 0, .var z25⟩], 1⟩) (by simp) ?_
  refine ev_seqK (s1 := ⟨[(0, v), (2, .ptr 2 0 0)], [⟨2, 0, .var z25⟩], 1⟩) (by simp -implicitDefEqProofs [hl, n1, St.keep]) ?_
  refine ev_seqN (s1 := ⟨[(0, v), (2, .ptr 2 0 0), (4, .ptr 12 1 0), (11, .agg z54), (12, .ptr 12 1 0)], [⟨2, 0, .var z25⟩, ⟨12, 1, .var z54⟩], 2⟩) (by simp [z54]) ?_
  refine ev_seqK (s1 := ⟨[(2, .ptr 2 0 0), (4, .ptr 12 1 0)], HO b' gb' L.length R, c'⟩) ?_ ?_
  · rw [ev_seqN (s1 := ⟨[(0, v), (2, .ptr 2 0 0), (4, .ptr 12 1 0), (11, .agg z54), (12, .ptr 12 1 0), (13, v), (14, .int .i64 L.length), (15, .int .i64 0)], [⟨2, 0, .var z25⟩, ⟨12, 1, .var z54⟩], 2⟩) (by simp -implicitDefEqProofs [hl]) (ev_blockL (by simp [St.keep, HO, z54]) lb)]
    show some (Ex.normal, (⟨envOnly [2, 4] E', _, c'⟩ : St)) = _
    rw [e2]
    unfold HO
    cases b' <;> simp
  · unfold HO
    cases b' <;> simp -implicitDefEqProofs [z25]
theorem of15 (n : Nat) (v : AV) (L : List Dg) (hv : LD L v) (hL : All32 L) (hb : L.length ≤ 2900) : E (n + 8) 15 [v] = some (.tup [.agg [.int .i64 L.length, frD (ofL 0 [] L)], .int .i64 0], []) := by
  rw [e15]
  by_cases h0 : L = []
  · subst h0
    have e : iter (ev (Q (n + 7)) 3000 b15_0) [2, 4, 13, 14, 15] [2, 12, 100000, 1012001] 3000 ⟨[(2, .ptr 2 0 0), (4, .ptr 12 1 0), (13, v), (14, .int .i64 0), (15, .int .i64 0)], HO false 0 0 [], 2⟩ = some (.exit 0, ⟨[(2, .ptr 2 0 0), (4, .ptr 12 1 0), (13, v), (14, .int .i64 0), (15, .int .i64 0), (16, .bool false)], HO false 0 0 [], 2⟩) := by
      rw [iter_succ]; unfold HO; simp -implicitDefEqProofs [b15_0]
    exact of15_of (Q (n + 7)) v [] hv hb false 0 2 _ [] e (by simp)
  · obtain ⟨t, rfl⟩ : ∃ t, v = .ro t 32 (dr L) := by rcases hv with ⟨_, h⟩ | ⟨_, h⟩ | h; exact absurd h h0; exact absurd h h0; exact h
    obtain ⟨E', b', gb', c', e1, e2, e3⟩ := loop15 n t L hL hb L.length 0 3000 2 0 false [] (by omega) (by omega) (fun d hd => by cases hd) (by rw [pop_zero]; rfl) (by omega) (fun _ => rfl)
    rw [List.drop_zero] at e1 e3
    have := of15_of (Q (n + 7)) (.ro t 32 (dr L)) L hv hb b' gb' c' E' (dr (ofL 0 [] L)) e1 e2
    rw [this]
    have hl := ofL_len L 0 (P := []) (by rw [pop_zero]; rfl)
    unfold frD
    cases b'
    · rw [e3 rfl]; rfl
    · have hne : ¬ ofL 0 [] L = [] := by
        intro h
        rw [h, Nat.zero_add] at hl
        have hp : ∀ (k y : Nat), y < 2 ^ k → y ≠ 0 → pop y ≠ 0 := by
          intro k
          induction k with
          | zero => intro y h1 h2; omega
          | succ k ih =>
            intro y h1 h2 h3
            rw [pop_pos h2] at h3
            rw [Nat.pow_succ] at h1
            by_cases h4 : y / 2 = 0
            · omega
            · exact ih (y / 2) (by omega) h4 (by omega)
        have h5 : L.length ≠ 0 := fun h6 => h0 (List.length_eq_zero_iff.1 h6)
        exact hp 12 L.length (by omega) h5 hl.symm
      rw [if_neg hne]; rfl
end Go.Abs.Tryd

namespace Go.Abs.Tryd
open Go Go.Abs Go.Abs.Sha
set_option maxHeartbeats 16000000
set_option maxRecDepth 100000
set_option linter.unusedSimpArgs false
set_option linter.unusedVariables false
theorem rows13_of (Φ : Nat → Option FnF) (F9 F10 F14 F15 F21 F23 : CallF) {G9 J9 Y9 G10 J10 Y10' G14 J14 Y14 G15 J15 Y15 G21 J21 Y21 G23 J23 Y23} (h9 : Φ 9 = some ⟨F9, G9, J9, Y9⟩) (h10 : Φ 10 = some ⟨F10, G10, J10, Y10'⟩) (h14 : Φ 14 = some ⟨F14, G14, J14, Y14⟩) (h15 : Φ 15 = some ⟨F15, G15, J15, Y15⟩) (h21 : Φ 21 = some ⟨F21, G21, J21, Y21⟩) (h23 : Φ 23 = some ⟨F23, G23, J23, Y23⟩)
    (A B C AB D E0 : List AV) (bA : AV.int .u8 1 :: z29.tail = A) (bB : AV.int .u8 2 :: z29.tail = B) (bC : AV.int .u8 3 :: z29.tail = C)
    (c15 : F15 [.ro true 32 [A, B, C]] = some (.tup [.agg [.int .i64 3, .fr 32 [AB, C]], .int .i64 0], [])) (c10 : F10 [.agg [.int .i64 3, .ro true 32 [AB, C]]] = some (.tup [.agg D, .int .i64 0], [])) (c10' : F10 [.agg [.int .i64 0, .nilS]] = some (.tup [.agg E0, .int .i64 0], []))
    (c23 : F23 [.agg A, .agg B] = some (.agg AB, [])) (c23' : F23 [.agg AB, .agg C] = some (.agg D, [])) (c14 : F14 [.ro true 32 [AB, C], .ro true 32 [AB, C]] = some (.bool true, [])) (c21 : F21 [] = some (.agg E0, []))
    (c9 : F9 [.agg [.int .i64 3, .ro true 32 [AB, C]]] = some (.int .i64 0, [])) (c9' : F9 [.agg [.int .i64 3, .ro true 32 [A]]] = some (.int .i64 30, [])) (k1 : aeqCells k32 D D = some true) (k2 : aeqCells k32 E0 E0 = some true)
    (pA : A.all AV.plain = true) (pB : B.all AV.plain = true) (pC : C.all AV.plain = true) (pAB : AB.all AV.plain = true) (pD : D.all AV.plain = true) (pE : E0.all AV.plain = true) (lA : A.length = 32) (lB : B.length = 32) (lC : C.length = 32) (lAB : AB.length = 32) (lD : D.length = 32) (lE : E0.length = 32) :
    evFun Φ 3000 a13 [] = some (.bool true, []) := by
  have tA : A.take 32 = A := List.take_of_length_le (by omega)
  have tB : B.take 32 = B := List.take_of_length_le (by omega)
  have tC : C.take 32 = C := List.take_of_length_le (by omega)
  have tD : D.take 32 = D := List.take_of_length_le (by omega)
  have tE : E0.take 32 = E0 := List.take_of_length_le (by omega)
  have z1 : z29.length = 32 := rfl
  have zd : z29.drop 32 = [] := rfl
  simp -implicitDefEqProofs [a13, c13, h9, h10, h14, h15, h21, h23, bA, bB, bC, c15, c10, c10', c23, c23', c14, c21, c9, c9', k1, k2, lA, lB, lC, lAB, lD, lE, tA, tB, tC, tD, tE, z1, zd, z25,
    plains_cells pA, plains_cells pB, plains_cells pC, plains_cells pAB, plains_cells pD, plains_cells pE, plains_in pAB, plains_in pD, plains_in pE, plains_fz pA, plains_fz pB, plains_fz pC, plains_fz pAB, plains_lend pA, plains_lend pB, plains_lend pAB, plains_lend pC,
    plains_low pA, plains_low pB, plains_low pC, plains_low pAB, plains_low pD, plains_low pE]
end Go.Abs.Tryd

namespace Go.Abs.Tryd
open Go Go.Abs Go.Abs.Sha
set_option maxHeartbeats 16000000
set_option maxRecDepth 100000
set_option linter.unusedSimpArgs false
set_option linter.unusedVariables false
def dg1 (x : UInt8) : Dg := x :: List.replicate 31 0
theorem dg1_len (x : UInt8) : (dg1 x).length = 32 := rfl
theorem tz1 : tz 1 = 0 := tz_odd rfl
theorem tz2 : tz 2 = 1 := by rw [tz_even rfl (by omega)]; show 1 + tz 1 = 1; rw [tz1]
theorem tz3 : tz 3 = 0 := tz_odd rfl
theorem pop3 : pop 3 = 2 := by
  rw [pop_pos (by omega)]; show 1 + pop 1 = 2
  rw [pop_pos (by omega)]; show 1 + (1 + pop 0) = 2
  rw [pop_zero]
theorem ofL3 (a b c : Dg) : ofL 0 [] [a, b, c] = [Kn a b, c] := by
  rw [ofL, ofL, ofL, ofL]
  unfold addL
  show mrgN (tz 3) (mrgN (tz 2) (mrgN (tz 1) ([] ++ [a]) ++ [b]) ++ [c]) = _
  rw [tz1, tz2, tz3]
  rfl
theorem okF3 : okF 3 2 = true := by
  unfold okF; rw [show (3 : Int).toNat = 3 from rfl, pop3]; rfl
theorem okF3n : okF 3 1 = false := by
  unfold okF; rw [show (3 : Int).toNat = 3 from rfl, pop3]; rfl
theorem okF0 : okF 0 0 = true := by
  unfold okF; rw [show (0 : Int).toNat = 0 from rfl, pop_zero]; rfl
theorem rows13 (n : Nat) : E (n + 9) 13 [] = some (.bool true, []) := by
  rw [e13]
  have hA := dg1_len 1
  have hB := dg1_len 2
  have hC := dg1_len 3
  have bA : AV.int .u8 1 :: z29.tail = u8s (dg1 1) := rfl
  have bB : AV.int .u8 2 :: z29.tail = u8s (dg1 2) := rfl
  have bC : AV.int .u8 3 :: z29.tail = u8s (dg1 3) := rfl
  have key : ∀ a b c : Dg, a.length = 32 → b.length = 32 → c.length = 32 → AV.int .u8 1 :: z29.tail = u8s a → AV.int .u8 2 :: z29.tail = u8s b → AV.int .u8 3 :: z29.tail = u8s c → evFun (Q (n + 8)) 3000 a13 [] = some (.bool true, []) := by
    intro a b c ha hb hc ba bb bc
    have hab := Kn_len a b
    have all3 : All32 [a, b, c] := fun d hd => by simp at hd; rcases hd with rfl | rfl | rfl <;> assumption
    have all2 : All32 [Kn a b, c] := fun d hd => by simp at hd; rcases hd with rfl | rfl <;> assumption
    have c15 := of15 n (.ro true 32 [u8s a, u8s b, u8s c]) [a, b, c] (.inr (.inr ⟨true, rfl⟩)) all3 (by simp)
    rw [ofL3] at c15
    have c10 := root10 n 3 (.ro true 32 [u8s (Kn a b), u8s c]) [Kn a b, c] (.inr (.inr ⟨true, rfl⟩)) all2 (by simp)
    have e10 : rootF 3 [Kn a b, c] = .tup [.agg (u8s (Kn (Kn a b) c)), .int .i64 0] := by
      unfold rootF; rw [show okF 3 [Kn a b, c].length = true from okF3]; rfl
    rw [e10] at c10
    have c10' := root10 n 0 .nilS [] (.inl ⟨rfl, rfl⟩) (fun d hd => by cases hd) (by simp)
    have e10' : rootF 0 [] = .tup [.agg (u8s (sha [])), .int .i64 0] := by
      unfold rootF; rw [show okF 0 ([] : List Dg).length = true from okF0]; rfl
    rw [e10'] at c10'
    have c14 := digests14 (n + 7) (.ro true 32 [u8s (Kn a b), u8s c]) (.ro true 32 [u8s (Kn a b), u8s c]) [Kn a b, c] [Kn a b, c] all2 all2 (.inr (.inr ⟨true, rfl⟩)) (.inr (.inr ⟨true, rfl⟩)) (by simp)
    rw [decide_eq_true rfl] at c14
    have c9 := check9 (n + 5) 3 (.ro true 32 [u8s (Kn a b), u8s c]) [Kn a b, c] (.inr (.inr ⟨true, rfl⟩)) (by simp)
    rw [show okF 3 [Kn a b, c].length = true from okF3] at c9
    have c9' := check9 (n + 5) 3 (.ro true 32 [u8s a]) [a] (.inr (.inr ⟨true, rfl⟩)) (by simp)
    rw [show okF 3 [a].length = false from okF3n] at c9'
    have k1 := self32 (Kn (Kn a b) c) (Kn_len _ _)
    exact rows13_of (Q (n + 8)) _ _ _ _ _ _ (q9 (n + 7)) (q10 (n + 7)) (q14 (n + 7)) (q15 (n + 7)) (q21 (n + 7)) (q23 (n + 7)) (u8s a) (u8s b) (u8s c) (u8s (Kn a b)) (u8s (Kn (Kn a b) c)) (u8s (sha [])) ba bb bc
      c15 c10 c10' (knot23 (n + 2) a b ha hb) (knot23 (n + 2) (Kn a b) c hab hc) c14 (empty12 (n + 2)) c9 c9' k1 (self32 (sha []) (sha_len [])) (u8s_plain _) (u8s_plain _) (u8s_plain _) (u8s_plain _) (u8s_plain _) (u8s_plain _)
      (by rw [u8s_len, ha]) (by rw [u8s_len, hb]) (by rw [u8s_len, hc]) (by rw [u8s_len, hab]) (by rw [u8s_len, Kn_len]) (by rw [u8s_len]; exact sha_len [])
  exact key _ _ _ hA hB hC bA bB bC
end Go.Abs.Tryd

namespace Go.Abs.Tryd
open Go Go.Abs Go.Abs.Sha
set_option maxHeartbeats 16000000
set_option maxRecDepth 100000
set_option linter.unusedSimpArgs false
set_option linter.unusedVariables false
theorem z29_u8s : z29 = u8s (List.replicate 32 0) := rfl
theorem law3_long (Φ : Nat → Option FnF) (s : Int) (v : AV) (P : List Dg) (hv : LD P v) (hn : 200 < P.length) : evFun Φ 3000 a3 [.int .i64 s, v] = some (.bool true, []) := by
  have hl := hv.len
  have n1 : (200 : Int) < P.length := by omega
  simp -implicitDefEqProofs [a3, c3, hl, n1, hn, hv.cell, hv.val]
theorem law3_of (Φ : Nat → Option FnF) (F8 F9 F10 F11 F12 F13 F14 : CallF) {G8 J8 Y8 G9 J9 Y9 G10 J10 Y10' G11 J11 Y11 G12 J12 Y12 G13 J13 Y13 G14 J14 Y14} (h8 : Φ 8 = some ⟨F8, G8, J8, Y8⟩) (h9 : Φ 9 = some ⟨F9, G9, J9, Y9⟩) (h10 : Φ 10 = some ⟨F10, G10, J10, Y10'⟩) (h11 : Φ 11 = some ⟨F11, G11, J11, Y11⟩) (h12 : Φ 12 = some ⟨F12, G12, J12, Y12⟩) (h13 : Φ 13 = some ⟨F13, G13, J13, Y13⟩) (h14 : Φ 14 = some ⟨F14, G14, J14, Y14⟩)
    (s : Int) (v own w : AV) (P : List Dg) (hv : LD P v) (hn : P.length ≤ 200) (R : List (List AV)) (how : (own = .nilS ∧ w = .nilS) ∨ (own = .fr 32 R ∧ w = .ro true 32 R)) (ok : Bool) (D : List AV) (lD : D.length = 32) (pD : D.all AV.plain = true)
    (c8 : F8 [v] = some (own, [])) (c9 : F9 [.agg [.int .i64 s, v]] = some (.int .i64 (if ok then 0 else 30), [])) (c10 : F10 [.agg [.int .i64 s, v]] = some (.tup [.agg (if ok then D else z29), .int .i64 (if ok then 0 else 30)], [])) (c11 : F11 [.int .i64 s, w] = some (.bool ok, []))
    (c12 : ok = true → F12 [w] = some (.agg D, [])) (c13 : F13 [] = some (.bool true, [])) (c14 : F14 [v, w] = some (.bool true, [])) (k1 : aeqCells k32 D D = some true) (k2 : aeqCells k32 z29 z29 = some true) :
    evFun Φ 3000 a3 [.int .i64 s, v] = some (.bool true, []) := by
  have hl := hv.len
  have n1 : ¬ (200 : Int) < P.length := by omega
  have tk : R.take R.length = R := List.take_length
  have tD : D.take 32 = D := List.take_of_length_le (by omega)
  have z1 : z29.length = 32 := rfl
  have zd : z29.drop 32 = [] := rfl
  have zt : z29.take 32 = z29 := rfl
  have pz : z29.all AV.plain = true := rfl
  rcases how with ⟨rfl, rfl⟩ | ⟨rfl, rfl⟩ <;> cases ok <;> (try have c12 := c12 rfl) <;> simp only [Bool.false_eq_true, if_false, ↓reduceIte] at c9 c10 <;>
  simp -implicitDefEqProofs [a3, c3, h8, h9, h10, h11, h12, h13, h14, c8, c9, c10, c11, c12, c13, c14, k1, k2, hl, n1, tk, tD, lD, z1, zd, zt, z25, hv.cell, hv.val, hv.cb, hv.cells1, hv.ld, hv.ldc, hv.mv, plains_cells pD, plains_in pD, plains_cells pz, plains_in pz]
theorem ok_dg {cs : List AV} (h : okRow (List.replicate 32 (.int .u8)) cs) : ∃ d : Dg, d.length = 32 ∧ cs = u8s d := ok_bytes 32 cs h
theorem ok_dgs : ∀ (rows : List (List AV)), (∀ r, r ∈ rows → okRow (List.replicate 32 (.int .u8)) r) → ∃ P : List Dg, All32 P ∧ rows = dr P
  | [], _ => ⟨[], (fun d hd => by cases hd), rfl⟩
  | r :: rs, h => by
    obtain ⟨d, hd, rfl⟩ := ok_dg (h r List.mem_cons_self)
    obtain ⟨P, hP, rfl⟩ := ok_dgs rs (fun x hx => h x (List.mem_cons_of_mem _ hx))
    refine ⟨d :: P, fun e he => ?_, rfl⟩
    rcases List.mem_cons.1 he with rfl | he
    · exact hd
    · exact hP e he
theorem ok_peaks {x : AV} (h : okRow [.sl (List.replicate 32 (.int .u8))] [x]) : ∃ P : List Dg, All32 P ∧ LD P x ∧ P.length ≤ maxLen := by
  obtain ⟨v, _, e, hv, _⟩ := h.sl
  obtain ⟨rfl, _⟩ : x = v ∧ _ := by simpa using e
  rcases hv with rfl | ⟨rows, rfl, hl, hr⟩
  · exact ⟨[], (fun d hd => by cases hd), .inl ⟨rfl, rfl⟩, Nat.zero_le _⟩
  · obtain ⟨P, hP, rfl⟩ := ok_dgs rows hr
    exact ⟨P, hP, .inr (.inr ⟨false, rfl⟩), by rwa [dr_len] at hl⟩
theorem frD_lent (P : List Dg) : ∃ w, LD P w ∧ ((frD P = .nilS ∧ w = .nilS) ∨ (frD P = .fr 32 (dr P) ∧ w = .ro true 32 (dr P))) := by
  unfold frD
  by_cases h : P = []
  · exact ⟨.nilS, .inl ⟨rfl, h⟩, .inl ⟨by rw [if_pos h], rfl⟩⟩
  · exact ⟨.ro true 32 (dr P), .inr (.inr ⟨true, rfl⟩), .inr ⟨by rw [if_neg h], rfl⟩⟩
end Go.Abs.Tryd

namespace Go.Abs.Tryd
open Go Go.Abs Go.Abs.Sha
set_option maxHeartbeats 16000000
set_option maxRecDepth 100000
set_option linter.unusedSimpArgs false
set_option linter.unusedVariables false
theorem law6_long (Φ : Nat → Option FnF) (s : Int) (v : AV) (P : List Dg) (hv : LD P v) (hn : 200 < P.length) (A B : List AV) (pA : A.all AV.plain = true) (pB : B.all AV.plain = true) : evFun Φ 3000 a6 [.int .i64 s, v, .agg A, .agg B] = some (.bool true, []) := by
  have hl := hv.len
  have n1 : (200 : Int) < P.length := by omega
  simp -implicitDefEqProofs [a6, c6, hl, n1, hn, hv.cell, hv.val, plains_in pA, plains_cells pA, plains_in pB, plains_cells pB]
theorem law6_no (Φ : Nat → Option FnF) (F9 F13 F17 : CallF) {G9 J9 Y9 G13 J13 Y13 G17 J17 Y17} (h9 : Φ 9 = some ⟨F9, G9, J9, Y9⟩) (h13 : Φ 13 = some ⟨F13, G13, J13, Y13⟩) (h17 : Φ 17 = some ⟨F17, G17, J17, Y17⟩)
    (s : Int) (v : AV) (P : List Dg) (hv : LD P v) (hn : P.length ≤ 200) (A B : List AV) (lA : A.length = 32) (lB : B.length = 32) (pA : A.all AV.plain = true) (pB : B.all AV.plain = true) (ok : Bool)
    (hs : ok = true → s = 100000) (c9 : F9 [.agg [.int .i64 s, v]] = some (.int .i64 (if ok then 0 else 30), [])) (c17 : F17 [.agg [.int .i64 s, v], .agg A] = some (.tup [.agg [.int .i64 0, .nilS], .int .i64 (if ok then 2 else 30)], [])) (c13 : F13 [] = some (.bool true, [])) :
    evFun Φ 3000 a6 [.int .i64 s, v, .agg A, .agg B] = some (.bool true, []) := by
  have hl := hv.len
  have n1 : ¬ (200 : Int) < P.length := by omega
  have tA : A.take 32 = A := List.take_of_length_le (by omega)
  cases ok <;> (try (obtain rfl := hs rfl)) <;> simp only [Bool.false_eq_true, if_false, ↓reduceIte] at c9 c17 <;>
  simp -implicitDefEqProofs [a6, c6, h9, h13, h17, c9, c13, c17, hl, n1, lA, tA, z25, hv.cell, hv.val, hv.cb, hv.cells1, hv.ld, hv.ldc, hv.mv, plains_cells pA, plains_in pA, plains_lend pA, plains_cells pB, plains_in pB]
theorem law6_ok (Φ : Nat → Option FnF) (F9 F13 F17 : CallF) {G9 J9 Y9 G13 J13 Y13 G17 J17 Y17} (h9 : Φ 9 = some ⟨F9, G9, J9, Y9⟩) (h13 : Φ 13 = some ⟨F13, G13, J13, Y13⟩) (h17 : Φ 17 = some ⟨F17, G17, J17, Y17⟩)
    (s s1 : Int) (v : AV) (P : List Dg) (hv : LD P v) (hn : P.length ≤ 200) (A B : List AV) (lA : A.length = 32) (lB : B.length = 32) (pA : A.all AV.plain = true) (pB : B.all AV.plain = true) (W V : List (List AV)) (q : Nat) (hW : W.length = q + 1) (hV : V.length = q + 1) (hq : q ≤ 1000) (odd : Bool)
    (hm : s.tmod 2 = if odd then 1 else 0) (rA : odd = false → W[q]? = some A) (rB : odd = false → V[q]? = some B) (w1 : IntKind.i64.wrap (s1 - 1) = s)
    (c9 : F9 [.agg [.int .i64 s, v]] = some (.int .i64 0, [])) (c9' : F9 [.agg [.int .i64 s1, .ro true 32 W]] = some (.int .i64 0, [])) (c17 : F17 [.agg [.int .i64 s, v], .agg A] = some (.tup [.agg [.int .i64 s1, .fr 32 W], .int .i64 0], [])) (c17' : F17 [.agg [.int .i64 s, v], .agg B] = some (.tup [.agg [.int .i64 s1, .fr 32 V], .int .i64 0], [])) (c13 : F13 [] = some (.bool true, []))
    (kA : aeqCells k32 A A = some true) (kB : aeqCells k32 B B = some true) :
    evFun Φ 3000 a6 [.int .i64 s, v, .agg A, .agg B] = some (.bool true, []) := by
  have hl := hv.len
  have n1 : ¬ (200 : Int) < P.length := by omega
  have tA : A.take 32 = A := List.take_of_length_le (by omega)
  have tB : B.take 32 = B := List.take_of_length_le (by omega)
  have tW : W.take (q + 1) = W := List.take_of_length_le (by omega)
  have tV : V.take (q + 1) = V := List.take_of_length_le (by omega)
  have w2 : IntKind.i64.wrap ((q : Int) + 1 - 1) = q := by rw [wrap_i64 _ (by omega) (by omega)]; omega
  have w3 : IntKind.i64.wrap (q : Int) = q := wrap_i64 _ (by omega) (by omega)
  have g1 : (0 : Int) < (q : Int) + 1 := by omega
  cases odd
  · have rA := rA rfl
    have rB := rB rfl
    have rA' := (List.getElem?_eq_some_iff.1 rA).2
    have rB' := (List.getElem?_eq_some_iff.1 rB).2
    have q1 : q < W.length := by omega
    have q2 : q < V.length := by omega
    simp only [Bool.false_eq_true, if_false] at hm
    simp -implicitDefEqProofs (maxSteps := 5000000) [a6, c6, h9, h13, h17, c9, c9', c13, c17, c17', hl, n1, hW, hV, tW, tV, w1, w2, w3, g1, hm, rA, rB, rA', rB', q1, q2, kA, kB, lA, lB, tA, tB, z25, hv.cell, hv.val, hv.cb, hv.cells1, hv.ld, hv.ldc, hv.mv, hv.low1, hv.low, plains_cells pA, plains_in pA, plains_lend pA, plains_low pA, plains_cells pB, plains_in pB, plains_lend pB, plains_low pB]
  · simp only [↓reduceIte] at hm
    simp -implicitDefEqProofs (maxSteps := 5000000) [a6, c6, h9, h13, h17, c9, c9', c13, c17, c17', hl, n1, hW, hV, tW, tV, w1, w2, w3, g1, hm, lA, lB, tA, tB, z25, hv.cell, hv.val, hv.cb, hv.cells1, hv.ld, hv.ldc, hv.mv, hv.low1, hv.low, plains_cells pA, plains_in pA, plains_lend pA, plains_low pA, plains_cells pB, plains_in pB, plains_lend pB, plains_low pB]
end Go.Abs.Tryd

namespace Go.Abs.Tryd
open Go Go.Abs Go.Abs.Sha
set_option maxHeartbeats 16000000
set_option maxRecDepth 100000
set_option linter.unusedSimpArgs false
set_option linter.unusedVariables false
theorem law6 (x0 x1 x2 x3 : AV) (o0 : okRow [.int .i64] [x0]) (o1 : okRow [.sl (List.replicate 32 (.int .u8))] [x1]) (o2 : ∃ cs, x2 = .agg cs ∧ okRow (List.replicate 32 (.int .u8)) cs) (o3 : ∃ cs, x3 = .agg cs ∧ okRow (List.replicate 32 (.int .u8)) cs) : E 10 6 [x0, x1, x2, x3] = some (.bool true, []) := by
  obtain ⟨s, _, e, _, _⟩ := o0.int
  obtain ⟨rfl, _⟩ : x0 = .int .i64 s ∧ _ := by simpa using e
  obtain ⟨P, hP, hv, _⟩ := ok_peaks o1
  obtain ⟨cs, rfl, oc⟩ := o2
  obtain ⟨a, ha, rfl⟩ := ok_dg oc
  obtain ⟨cs, rfl, oc⟩ := o3
  obtain ⟨b, hb, rfl⟩ := ok_dg oc
  have la := u8s_len a
  rw [ha] at la
  have lb := u8s_len b
  rw [hb] at lb
  rw [e6]
  by_cases hn : 200 < P.length
  · exact law6_long (Q 9) s x1 P hv hn _ _ (u8s_plain _) (u8s_plain _)
  · have hn' : P.length ≤ 200 := by omega
    have c9 := check9 6 s x1 P hv (by omega)
    have c17 := front17 1 s x1 P hv hP (by omega) a ha
    have c17' := front17 1 s x1 P hv hP (by omega) b hb
    have c13 := rows13 0
    by_cases hgo : okF s P.length = true ∧ s ≠ 100000
    · obtain ⟨hok, hne⟩ := hgo
      rw [hok] at c9
      have eF : ∀ l, addF s P l = .tup [.agg [.int .i64 ((s.toNat + 1 : Nat) : Int), .fr 32 (dr (addL s.toNat l P))], .int .i64 0] := by
        intro l; unfold addF; rw [if_pos hok, if_neg hne]
      rw [eF] at c17 c17'
      obtain ⟨t, rfl, ht, hpop⟩ := okF_spec hok
      rw [Int.toNat_natCast] at c17 c17'
      have hA := addL_32 (s := t) hP ha
      have hAl := addL_len (leaf := a) hpop
      have hBl := addL_len (leaf := b) hpop
      have hpl := pop_le 17 (t + 1) (by omega)
      have hp1 : pop (t + 1) ≠ 0 := by
        intro h
        have h1 := (tz_pop (t + 1) t (by omega))
        omega
      have c9' := check9 6 ((t + 1 : Nat) : Int) (.ro true 32 (dr (addL t a P))) (addL t a P) (.inr (.inr ⟨true, rfl⟩)) (by omega)
      have hok' : okF ((t + 1 : Nat) : Int) (addL t a P).length = true := by
        have h1 : (t : Int) ≠ 100000 := hne
        simp only [okF, Bool.and_eq_true, decide_eq_true_eq]
        refine ⟨by omega, by omega, ?_⟩
        rw [Int.toNat_natCast]; exact hAl
      rw [hok'] at c9'
      obtain ⟨odd, hodd⟩ : ∃ odd : Bool, odd = decide (t % 2 = 1) := ⟨_, rfl⟩
      have last : ∀ l : Dg, odd = false → (dr (addL t l P))[pop (t + 1) - 1]? = some (u8s l) := by
        intro l h
        have h2 : (t + 1) % 2 = 1 := by rw [h] at hodd; have := of_decide_eq_false hodd.symm; omega
        have e : addL t l P = P ++ [l] := by unfold addL; rw [tz_odd h2]; rfl
        have hl := addL_len (leaf := l) hpop
        rw [e] at hl ⊢
        rw [← hl, dr, List.getElem?_map, List.length_append, List.length_singleton, Nat.add_sub_cancel, List.getElem?_append_right (Nat.le_refl _), Nat.sub_self]; rfl
      exact law6_ok (Q 9) _ _ _ (q9 8) (q13 8) (q17 8) t _ x1 P hv hn' _ _ la lb (u8s_plain _) (u8s_plain _) (dr (addL t a P)) (dr (addL t b P)) (pop (t + 1) - 1) (by rw [dr_len]; omega) (by rw [dr_len]; omega) (by omega) odd
        (by rw [Int.tmod_eq_emod_of_nonneg (by omega)]; cases odd with
          | false => have := of_decide_eq_false hodd.symm; simp; omega
          | true => have := of_decide_eq_true hodd.symm; simp; omega) (last a) (last b) (by rw [wrap_i64 _ (by omega) (by omega)]; omega) c9 c9' c17 c17' c13 (self32 a ha) (self32 b hb)
    · have e17 : addF s P a = .tup [.agg [.int .i64 0, .nilS], .int .i64 (if okF s P.length then 2 else 30)] := by
        unfold addF
        cases hok : okF s P.length
        · rfl
        · have : s = 100000 := by
            by_cases h : s = 100000
            · exact h
            · exact absurd ⟨hok, h⟩ hgo
          rw [if_pos rfl, if_pos this, if_pos rfl]
      rw [e17] at c17
      exact law6_no (Q 9) _ _ _ (q9 8) (q13 8) (q17 8) s x1 P hv hn' _ _ la lb (u8s_plain _) (u8s_plain _) (okF s P.length) (fun hok => by
        by_cases h : s = 100000
        · exact h
        · exact absurd ⟨hok, h⟩ hgo) c9 c17 c13
theorem ref6 : Refines Go.Proofs.Tryd.prog 6 (E 10 6) := ref 10 6 (q6 9)
end Go.Abs.Tryd

namespace Go.Abs.Tryd
open Go Go.Abs Go.Abs.Sha
set_option maxHeartbeats 16000000
set_option maxRecDepth 100000
set_option linter.unusedSimpArgs false
set_option linter.unusedVariables false
/-- the closure of tree.Root: the last two peaks become one -/
theorem knot30_of (Φ : Nat → Option FnF) (F : CallF) (G J Y) (h23 : Φ 23 = some ⟨F, G, J, Y⟩) (q : Nat) (q1 : Int) (R : List (List AV)) (y1 y2 y3 : List AV) (kn : F [.agg y1, .agg y2] = some (.agg y3, []))
    (hR : R.length = q + 2) (r1 : R[q]? = some y1) (r2 : R[q + 1]? = some y2) (l1 : y1.length = 32) (l2 : y2.length = 32) (l3 : y3.length = 32) (p1 : y1.all AV.plain = true) (p2 : y2.all AV.plain = true) (p3 : y3.all AV.plain = true)
    (w1 : IntKind.i64.wrap ((q : Int) + 2 - 2) = q) (w1' : IntKind.i64.wrap (q : Int) = q) (w2 : IntKind.i64.wrap ((q : Int) + 2 - 1) = q1) (w2' : IntKind.i64.wrap ((q : Int) + 1) = q1) (b6 : q1.toNat = q + 1) (b7 : 0 ≤ q1) (m1 : (q + 1) * 32 ≤ maxBytes) :
    evFun Φ 3000 a30 [.pv [.fr 32 R]] = some (.tup [], [[.fr 32 ((R.take q ++ ([y3] ++ R.drop (q + 1))).take (q + 1))]]) := by
  have t1 : y1.take 32 = y1 := List.take_of_length_le (by omega)
  have t2 : y2.take 32 = y2 := List.take_of_length_le (by omega)
  have t3 : y3.take 32 = y3 := List.take_of_length_le (by omega)
  have e0 : ((q + 2 : Nat) : Int) = (q : Int) + 2 := by omega
  have b1 : (q : Int) ≤ (q : Int) + 2 := by omega
  have r1' := (List.getElem?_eq_some_iff.1 r1).2
  have r2' := (List.getElem?_eq_some_iff.1 r2).2
  have z1 : z29.length = 32 := rfl
  have hq2 : q ≤ q + 2 := by omega
  have hq1 : q + 1 ≤ q + 2 := by omega
  simp -implicitDefEqProofs [a30, c30, h23, kn, hR, e0, w1, w1', w2, w2', b1, b6, b7, m1, r1, r2, r1', r2', l1, l2, l3, t1, t2, t3, aappend, z1, hq1, hq2,
    plains_cells p1, plains_cells p2, plains_cells p3, plains_in p3, plains_lend p1, plains_lend p2, plains_low p1, plains_low p2, plains_low p3, plains_mv p3, plains_fz p3]
theorem knot30 (n : Nat) (P : List Dg) (hP : All32 P) (h2 : 2 ≤ P.length) (hb : P.length ≤ 1000) : E (n + 7) 30 [.pv [.fr 32 (dr P)]] = some (.tup [], [[.fr 32 (dr (mrg P))]]) := by
  rw [e30]
  obtain ⟨r1, r2, r3⟩ := rows_mrg (P := P) (R := dr P) (List.take_of_length_le (by rw [dr_len]; exact Nat.le_refl _)) h2 (by rw [dr_len]; exact Nat.le_refl _)
  have ha : (P.getD (P.length - 2) []).length = 32 := by
    rw [List.getD_eq_getElem?_getD, List.getElem?_eq_getElem (by omega)]; exact hP _ (List.getElem_mem _)
  have hb' : (P.getD (P.length - 1) []).length = 32 := by
    rw [List.getD_eq_getElem?_getD, List.getElem?_eq_getElem (by omega)]; exact hP _ (List.getElem_mem _)
  have kn := knot23 n _ _ ha hb'
  obtain ⟨q, hq⟩ : ∃ q, P.length = q + 2 := ⟨P.length - 2, by omega⟩
  have s1 : P.length - 2 = q := by omega
  have s2 : P.length - 1 = q + 1 := by omega
  rw [s1] at r1 r3 kn ha
  rw [s2] at r2 r3 kn hb'
  have := knot30_of (Q (n + 6)) _ _ _ _ (q23 (n + 5)) q ((q + 1 : Nat) : Int) (dr P) _ _ _ kn (by rw [dr_len]; exact hq) r1 r2 (by rw [u8s_len, ha]) (by rw [u8s_len, hb']) (by rw [u8s_len, Kn_len]) (u8s_plain _) (u8s_plain _) (u8s_plain _)
    (by rw [wrap_i64 _ (by omega) (by omega)]; omega) (wrap_i64 _ (by omega) (by omega)) (by rw [wrap_i64 _ (by omega) (by omega)]; omega) (by rw [wrap_i64 _ (by omega) (by omega)]; omega) (Int.toNat_natCast _) (by omega) (by simp only [maxBytes]; omega)
  rw [r3] at this
  exact this
/-- peaks merged from the right make the root -/
theorem rootR_snoc : ∀ (Q : List Dg) (a b : Dg), rootR (Q ++ [a, b]) = rootR (Q ++ [Kn a b])
  | [], a, b => rfl
  | [x], a, b => rfl
  | x :: y :: Q, a, b => by
    show Kn x (rootR (y :: Q ++ [a, b])) = Kn x (rootR (y :: Q ++ [Kn a b]))
    rw [rootR_snoc (y :: Q) a b]
theorem rootR_mrg {P : List Dg} (h : 2 ≤ P.length) : rootR (mrg P) = rootR P := by
  obtain ⟨q, hq⟩ : ∃ q, P.length = q + 2 := ⟨P.length - 2, by omega⟩
  have e : P = P.take q ++ [P.getD q [], P.getD (q + 1) []] := by
    have h1 : P.drop q = [P.getD q [], P.getD (q + 1) []] := by
      rw [List.drop_eq_getElem_cons (show q < P.length by omega), List.drop_eq_getElem_cons (show q + 1 < P.length by omega), List.drop_of_length_le (by omega), List.getD_eq_getElem?_getD, List.getD_eq_getElem?_getD, List.getElem?_eq_getElem (show q < P.length by omega), List.getElem?_eq_getElem (show q + 1 < P.length by omega)]; rfl
    rw [← h1, List.take_append_drop]
  have m : mrg P = P.take q ++ [Kn (P.getD q []) (P.getD (q + 1) [])] := by
    unfold mrg; rw [show P.length - 2 = q by omega, show P.length - 1 = q + 1 by omega]
  rw [m, ← rootR_snoc, ← e]
end Go.Abs.Tryd

namespace Go.Abs.Tryd
open Go Go.Abs Go.Abs.Sha
set_option maxHeartbeats 16000000
set_option maxRecDepth 100000
set_option linter.unusedSimpArgs false
set_option linter.unusedVariables false
/-- the memory of tree.Root: peaks in the array of an append, or as the closure left them -/
def HT (b : Bool) (gb : Nat) (R : List (List AV)) : AH := if b then [⟨2, 0, .var z29⟩, ⟨3, 1, .var [.own 1003000 gb 0 R.length]⟩, ⟨1003000, gb, .arr 32 R false⟩] else [⟨2, 0, .var z29⟩, ⟨3, 1, .var [.own 22 gb 0 R.length]⟩, ⟨22, gb, .arr 32 R false⟩]
theorem step19i (Φ : Nat → Option FnF) (F : CallF) (G J Y) (h30 : Φ 30 = some ⟨F, G, J, Y⟩) (b : Bool) (gb c k : Nat) (v : AV) (len i m j j' : Int) (R W : List (List AV)) (f : F [.pv [.fr 32 R]] = some (.tup [], [[.fr 32 W]])) (hj : j < m) (w : IntKind.i64.wrap (j + 1) = j') :
    iter (ev Φ 3000 b19_1) [2, 3, 4, 12, 13, 14, 26, 27] [2, 3, 22, 100000, 1003000] (k + 1) ⟨[(2, .ptr 2 0 0), (3, .ptr 3 1 0), (4, .fn 30 [.ptr 3 1 0]), (12, v), (13, .int .i64 len), (14, .int .i64 i), (26, .int .i64 m), (27, .int .i64 j)], HT b gb R, c⟩ =
    iter (ev Φ 3000 b19_1) [2, 3, 4, 12, 13, 14, 26, 27] [2, 3, 22, 100000, 1003000] k ⟨[(2, .ptr 2 0 0), (3, .ptr 3 1 0), (4, .fn 30 [.ptr 3 1 0]), (12, v), (13, .int .i64 len), (14, .int .i64 i), (26, .int .i64 m), (27, .int .i64 j')], HT true c W, c + 1⟩ := by
  have tR : R.take R.length = R := List.take_length
  apply iter_norm
  unfold HT
  cases b <;> simp -implicitDefEqProofs [b19_1, St.keep, h30, f, hj, w, tR]
theorem step19e (Φ : Nat → Option FnF) (F : CallF) (G J Y) (h30 : Φ 30 = some ⟨F, G, J, Y⟩) (b : Bool) (gb c k : Nat) (R W : List (List AV)) (f : F [.pv [.fr 32 R]] = some (.tup [], [[.fr 32 W]])) (h1 : 1 < R.length) :
    iter (ev Φ 3000 b19_0) [2, 3, 4] [2, 3, 22, 1003000] (k + 1) ⟨[(2, .ptr 2 0 0), (3, .ptr 3 1 0), (4, .fn 30 [.ptr 3 1 0])], HT b gb R, c⟩ =
    iter (ev Φ 3000 b19_0) [2, 3, 4] [2, 3, 22, 1003000] k ⟨[(2, .ptr 2 0 0), (3, .ptr 3 1 0), (4, .fn 30 [.ptr 3 1 0])], HT true c W, c + 1⟩ := by
  have tR : R.take R.length = R := List.take_length
  have h1' : (1 : Int) < R.length := by omega
  apply iter_norm
  unfold HT
  cases b <;> simp -implicitDefEqProofs [b19_0, St.keep, h30, f, h1, h1', tR]
end Go.Abs.Tryd

namespace Go.Abs.Tryd
open Go Go.Abs Go.Abs.Sha
set_option maxHeartbeats 16000000
set_option maxRecDepth 100000
set_option linter.unusedSimpArgs false
set_option linter.unusedVariables false
theorem loop19i (n : Nat) (v : AV) (len i : Int) (m : Nat) (hm : m ≤ 100) : ∀ (d j k : Nat) (b : Bool) (gb c : Nat) (P : List Dg), j + d = m → d < k → All32 P → d + 1 ≤ P.length → P.length ≤ 1000 →
    ∃ E' b' gb' c', iter (ev (Q (n + 7)) 3000 b19_1) [2, 3, 4, 12, 13, 14, 26, 27] [2, 3, 22, 100000, 1003000] k ⟨[(2, .ptr 2 0 0), (3, .ptr 3 1 0), (4, .fn 30 [.ptr 3 1 0]), (12, v), (13, .int .i64 len), (14, .int .i64 i), (26, .int .i64 m), (27, .int .i64 j)], HT b gb (dr P), c⟩ =
      some (.exit 2, ⟨E', HT b' gb' (dr (mrgN d P)), c'⟩) ∧ envOnly [2, 3, 4, 12, 13, 14] E' = [(2, .ptr 2 0 0), (3, .ptr 3 1 0), (4, .fn 30 [.ptr 3 1 0]), (12, v), (13, .int .i64 len), (14, .int .i64 i)]
  | d, j, 0, b, gb, c, P, hi, hk, hP, h2, hb => by omega
  | 0, j, k + 1, b, gb, c, P, hi, hk, hP, h2, hb => by
    obtain rfl : j = m := by omega
    refine ⟨[(2, .ptr 2 0 0), (3, .ptr 3 1 0), (4, .fn 30 [.ptr 3 1 0]), (12, v), (13, .int .i64 len), (14, .int .i64 i), (26, .int .i64 j), (27, .int .i64 j), (28, .bool false)], b, gb, c, ?_, by simp⟩
    rw [iter_succ, mrgN]
    unfold HT
    generalize dr P = R
    cases b <;> simp -implicitDefEqProofs [b19_1]
  | d + 1, j, k + 1, b, gb, c, P, hi, hk, hP, h2, hb => by
    have hml := mrg_len (P := P) (by omega)
    rw [step19i (Q (n + 7)) _ _ _ _ (q30 (n + 6)) b gb c k v len i m j ((j + 1 : Nat) : Int) (dr P) (dr (mrg P)) (knot30 n P hP (by omega) hb) (by omega) (by rw [wrap_i64 _ (by omega) (by omega)]; omega)]
    exact loop19i n v len i m hm d (j + 1) k true c (c + 1) (mrg P) (by omega) (by omega) (mrg_32 hP) (by omega) (by omega)
theorem loop19e (n : Nat) : ∀ (d k : Nat) (b : Bool) (gb c : Nat) (P : List Dg), P.length = d + 1 → d < k → All32 P → P.length ≤ 1000 →
    ∃ E' b' gb' c', iter (ev (Q (n + 7)) 3000 b19_0) [2, 3, 4] [2, 3, 22, 1003000] k ⟨[(2, .ptr 2 0 0), (3, .ptr 3 1 0), (4, .fn 30 [.ptr 3 1 0])], HT b gb (dr P), c⟩ =
      some (.exit 4, ⟨E', HT b' gb' [u8s (rootR P)], c'⟩) ∧ envOnly [2, 3] E' = [(2, .ptr 2 0 0), (3, .ptr 3 1 0)]
  | d, 0, b, gb, c, P, hl, hk, hP, hb => by omega
  | 0, k + 1, b, gb, c, P, hl, hk, hP, hb => by
    obtain ⟨x, rfl⟩ := List.length_eq_one_iff.1 hl
    have e : dr [x] = [u8s (rootR [x])] := rfl
    rw [e]
    generalize u8s (rootR [x]) = y
    cases b
    · refine ⟨[(2, .ptr 2 0 0), (3, .ptr 3 1 0), (4, .fn 30 [.ptr 3 1 0]), (33, .own 22 gb 0 1), (34, .int .i64 1), (35, .bool false)], false, gb, c, ?_, by simp⟩
      rw [iter_succ]; unfold HT; simp -implicitDefEqProofs [b19_0]
    · refine ⟨[(2, .ptr 2 0 0), (3, .ptr 3 1 0), (4, .fn 30 [.ptr 3 1 0]), (33, .own 1003000 gb 0 1), (34, .int .i64 1), (35, .bool false)], true, gb, c, ?_, by simp⟩
      rw [iter_succ]; unfold HT; simp -implicitDefEqProofs [b19_0]
  | d + 1, k + 1, b, gb, c, P, hl, hk, hP, hb => by
    have hml := mrg_len (P := P) (by omega)
    rw [step19e (Q (n + 7)) _ _ _ _ (q30 (n + 6)) b gb c k (dr P) (dr (mrg P)) (knot30 n P hP (by omega) hb) (by rw [dr_len]; omega)]
    have := loop19e n d k true c (c + 1) (mrg P) (by omega) (by omega) (mrg_32 hP) (by omega)
    rw [rootR_mrg (by omega)] at this
    exact this
end Go.Abs.Tryd

namespace Go.Abs.Tryd
open Go Go.Abs Go.Abs.Sha
set_option maxHeartbeats 16000000
set_option maxRecDepth 100000
set_option linter.unusedSimpArgs false
set_option linter.unusedVariables false
/-- with no peak yet -/
def HN (o : Option Bool) (gb : Nat) (R : List (List AV)) : AH := match o with
  | none => [⟨2, 0, .var z29⟩, ⟨3, 1, .var [.nilS]⟩]
  | some b => HT b gb R
theorem step19o (Φ : Nat → Option FnF) (F : CallF) (G J Y) (h31 : Φ 31 = some ⟨F, G, J, Y⟩) (o : Option Bool) (gb c k i len : Nat) (m : Int) (t : Bool) (L : List (List AV)) (R W : List (List AV)) (ho : o = none → R = []) (y : List AV) (r1 : L[i]? = some y) (hl : L.length = len) (hi : i < len) (hlen : len ≤ 1000) (ly : y.length = 32) (py : y.all AV.plain = true)
    (f : F [.int .u64 ((i + 1 : Nat) : Int)] = some (.int .i64 m, [])) (hRl : R.length ≤ 1000)
    (li : ∃ E' b' gb' c', iter (ev Φ 3000 b19_1) [2, 3, 4, 12, 13, 14, 26, 27] [2, 3, 22, 100000, 1003000] 3000 ⟨[(2, .ptr 2 0 0), (3, .ptr 3 1 0), (4, .fn 30 [.ptr 3 1 0]), (12, .ro t 32 L), (13, .int .i64 len), (14, .int .i64 i), (26, .int .i64 m), (27, .int .i64 0)], HT (o.getD false) (c + 2) (R ++ [y]), c + 3⟩ =
      some (.exit 2, ⟨E', HT b' gb' W, c'⟩) ∧ envOnly [2, 3, 4, 12, 13, 14] E' = [(2, .ptr 2 0 0), (3, .ptr 3 1 0), (4, .fn 30 [.ptr 3 1 0]), (12, .ro t 32 L), (13, .int .i64 len), (14, .int .i64 i)]) :
    ∃ b' gb' c', iter (ev Φ 3000 b19_2) [2, 3, 4, 12, 13, 14] [2, 3, 22, 100000, 1003000] (k + 1) ⟨[(2, .ptr 2 0 0), (3, .ptr 3 1 0), (4, .fn 30 [.ptr 3 1 0]), (12, .ro t 32 L), (13, .int .i64 len), (14, .int .i64 i)], HN o gb R, c⟩ =
    iter (ev Φ 3000 b19_2) [2, 3, 4, 12, 13, 14] [2, 3, 22, 100000, 1003000] k ⟨[(2, .ptr 2 0 0), (3, .ptr 3 1 0), (4, .fn 30 [.ptr 3 1 0]), (12, .ro t 32 L), (13, .int .i64 len), (14, .int .i64 (i + 1 : Nat))], HN (some b') gb' W, c'⟩ := by
  obtain ⟨E', b', gb', c', e1, e2⟩ := li
  have ty : y.take 32 = y := List.take_of_length_le (by omega)
  have r1' := (List.getElem?_eq_some_iff.1 r1).2
  have r2 : i < L.length := by omega
  have z1 : z29.length = 32 := rfl
  have zd : z29.drop 32 = [] := rfl
  have i1 : (i : Int) < len := by omega
  have w1 : IntKind.i64.wrap ((i : Int) + 1) = ((i + 1 : Nat) : Int) := by rw [wrap_i64 _ (by omega) (by omega)]; omega
  have w2 : IntKind.u64.wrap ((i + 1 : Nat) : Int) = ((i + 1 : Nat) : Int) := by rw [wrap_u64]; omega
  have tR : R.take R.length = R := List.take_length
  have l9 : ¬ R.length + 1 ≤ R.length := Nat.not_succ_le_self _
  have m1 : (R.length + 1) * 32 ≤ maxBytes := by simp only [maxBytes]; omega
  have m0 : 32 ≤ maxBytes := by simp only [maxBytes]; omega
  generalize ((i + 1 : Nat) : Int) = j at *
  refine ⟨b', gb', c', iter_norm ?_⟩
  unfold HT at e1
  unfold HN HT
  rcases o with _ | b
  · obtain rfl := ho rfl
    simp only [Option.getD_none, Bool.false_eq_true, if_false, List.nil_append, List.length_cons, List.length_nil, Nat.zero_add] at e1
    simp -implicitDefEqProofs [b19_2, St.keep, i1, r1, r1', r2, ly, ty, z1, zd, w1, w2, h31, f, aappend, m0, plains_cells py, plains_fz py]
    rw [e1]
    cases b' <;> (simp -implicitDefEqProofs [e2, w1]; exact ⟨_, _, ⟨rfl, rfl⟩, rfl, by simp, by simp, rfl⟩)
  · cases b
    · simp only [Option.getD_some, Bool.false_eq_true, if_false, List.length_append, List.length_singleton] at e1
      simp -implicitDefEqProofs [b19_2, St.keep, i1, r1, r1', r2, ly, ty, z1, zd, w1, w2, h31, f, aappend, m1, l9, tR, plains_cells py, plains_fz py]
      rw [e1]
      cases b' <;> (simp -implicitDefEqProofs [e2, w1]; exact ⟨_, _, ⟨rfl, rfl⟩, rfl, by simp, by simp, rfl⟩)
    · simp only [Option.getD_some, ↓reduceIte, List.length_append, List.length_singleton] at e1
      simp -implicitDefEqProofs [b19_2, St.keep, i1, r1, r1', r2, ly, ty, z1, zd, w1, w2, h31, f, aappend, m1, l9, tR, plains_cells py, plains_fz py]
      rw [e1]
      cases b' <;> (simp -implicitDefEqProofs [e2, w1]; exact ⟨_, _, ⟨rfl, rfl⟩, rfl, by simp, by simp, rfl⟩)
end Go.Abs.Tryd

namespace Go.Abs.Tryd
open Go Go.Abs Go.Abs.Sha
set_option maxHeartbeats 16000000
set_option maxRecDepth 100000
set_option linter.unusedSimpArgs false
set_option linter.unusedVariables false
theorem loop19o (n : Nat) (t : Bool) (L : List Dg) (hL : All32 L) (hlen : L.length ≤ 500) : ∀ (d i k c gb : Nat) (o : Option Bool) (P : List Dg), i + d = L.length → d < k → All32 P → P.length = pop i → (o = none → P = []) → (0 < d ∨ o ≠ none) →
    ∃ E' b' gb' c', iter (ev (Q (n + 7)) 3000 b19_2) [2, 3, 4, 12, 13, 14] [2, 3, 22, 100000, 1003000] k ⟨[(2, .ptr 2 0 0), (3, .ptr 3 1 0), (4, .fn 30 [.ptr 3 1 0]), (12, .ro t 32 (dr L)), (13, .int .i64 L.length), (14, .int .i64 i)], HN o gb (dr P), c⟩ =
      some (.exit 0, ⟨E', HT b' gb' (dr (ofL i P (L.drop i))), c'⟩) ∧ envOnly [2, 3, 4] E' = [(2, .ptr 2 0 0), (3, .ptr 3 1 0), (4, .fn 30 [.ptr 3 1 0])]
  | d, i, 0, c, gb, o, P, hi, hk, hP, hp, ho, hd => by omega
  | 0, i, k + 1, c, gb, o, P, hi, hk, hP, hp, ho, hd => by
    obtain rfl : i = L.length := by omega
    obtain ⟨b, rfl⟩ : ∃ b, o = some b := by
      cases o with
      | none => rcases hd with h | h; omega; exact absurd rfl h
      | some b => exact ⟨b, rfl⟩
    rw [List.drop_length, ofL]
    refine ⟨[(2, .ptr 2 0 0), (3, .ptr 3 1 0), (4, .fn 30 [.ptr 3 1 0]), (12, .ro t 32 (dr L)), (13, .int .i64 L.length), (14, .int .i64 L.length), (15, .bool false)], b, gb, c, ?_, by simp⟩
    rw [iter_succ]
    unfold HN HT
    generalize dr L = R
    generalize dr P = R'
    cases b <;> simp -implicitDefEqProofs [b19_2]
  | d + 1, i, k + 1, c, gb, o, P, hi, hk, hP, hp, ho, hd => by
    have hy := hL L[i] (List.getElem_mem _)
    have gy : (dr L)[i]? = some (u8s L[i]) := by rw [dr, List.getElem?_map, List.getElem?_eq_getElem (show i < L.length by omega)]; rfl
    have hpl : pop i ≤ 12 := pop_le 12 i (by omega)
    obtain ⟨tp, _⟩ := tz_pop (i + 1) i (by omega)
    have hA : All32 (P ++ [L[i]]) := fun x hx => by
      rcases List.mem_append.1 hx with hx | hx
      · exact hP x hx
      · rw [List.mem_singleton.1 hx]; exact hy
    have ln : (P ++ [L[i]]).length = P.length + 1 := by simp
    have ed : dr P ++ [u8s L[i]] = dr (P ++ [L[i]]) := by simp [dr]
    have li := loop19i n (.ro t 32 (dr L)) L.length i (tz (i + 1)) (by omega) (tz (i + 1)) 0 3000 (o.getD false) (c + 2) (c + 3) (P ++ [L[i]]) (by omega) (by omega) hA (by omega) (by omega)
    rw [show ((0 : Nat) : Int) = 0 from rfl, ← ed] at li
    obtain ⟨b', gb', c', e⟩ := step19o (Q (n + 7)) _ _ _ _ (q31 (n + 6)) o gb c k i L.length (tz (i + 1) : Nat) t (dr L) (dr P) (dr (addL i L[i] P)) (fun h => by rw [ho h]; rfl) (u8s L[i]) gy (dr_len L) (by omega) (by omega) (by rw [u8s_len, hy]) (u8s_plain _) (tz31 (n + 5) (i + 1) (by omega) (by omega)) (by rw [dr_len]; omega) li
    rw [e]
    obtain ⟨E2, b2, gb2, c2, r1, r2⟩ := loop19o n t L hL hlen d (i + 1) k c' gb' (some b') (addL i L[i] P) (by omega) (by omega) (addL_32 hP hy) (addL_len hp) (fun h => by cases h) (.inr (by simp))
    have hdr : L.drop i = L[i] :: L.drop (i + 1) := List.drop_eq_getElem_cons (show i < L.length by omega)
    exact ⟨E2, b2, gb2, c2, by rw [hdr, ofL]; exact r1, r2⟩
end Go.Abs.Tryd

namespace Go.Abs.Tryd
open Go Go.Abs Go.Abs.Sha
set_option maxHeartbeats 16000000
set_option maxRecDepth 100000
set_option linter.unusedSimpArgs false
set_option linter.unusedVariables false
theorem root19_nil (Φ : Nat → Option FnF) (F : CallF) (G J Y) (h21 : Φ 21 = some ⟨F, G, J, Y⟩) (v : AV) (hvl : ∀ (H : AH) (c nm : Nat), inVal H c nm v = some (v, H, c)) (hvc : ∀ (H : AH) (c nm : Nat), inCell H c nm v = some (v, H, c)) (hl : alen v = some 0)
    (r : List AV) (s : F [] = some (.agg r, [])) (ls : r.length = 32) (ps : r.all AV.plain = true) : evFun Φ 3000 a19 [v] = some (.agg r, []) := by
  have tr : r.take 32 = r := List.take_of_length_le (by omega)
  have z1 : z29.length = 32 := rfl
  have zd : z29.drop 32 = [] := rfl
  simp -implicitDefEqProofs [a19, c19, h21, s, hvl, hvc, hl, ls, tr, z1, zd, plains_cells ps, plains_in ps, plains_mv ps]
theorem root19_of (Φ : Nat → Option FnF) (t : Bool) (L : List (List AV)) (len : Nat) (hl : L.length = len) (h0 : 0 < len) (hb : len ≤ 500) (W : List (List AV)) (D : List AV) (lD : D.length = 32) (pD : D.all AV.plain = true) (b1 : Bool) (gb1 c1 : Nat) (E1 : Env)
    (l1 : iter (ev Φ 3000 b19_2) [2, 3, 4, 12, 13, 14] [2, 3, 22, 100000, 1003000] 3000 ⟨[(2, .ptr 2 0 0), (3, .ptr 3 1 0), (4, .fn 30 [.ptr 3 1 0]), (12, .ro t 32 L), (13, .int .i64 len), (14, .int .i64 0)], HN none 0 [], 2⟩ = some (.exit 0, ⟨E1, HT b1 gb1 W, c1⟩))
    (e1 : envOnly [2, 3, 4] E1 = [(2, .ptr 2 0 0), (3, .ptr 3 1 0), (4, .fn 30 [.ptr 3 1 0])]) (b2 : Bool) (gb2 c2 : Nat) (E2 : Env)
    (l2 : iter (ev Φ 3000 b19_0) [2, 3, 4] [2, 3, 22, 1003000] 3000 ⟨[(2, .ptr 2 0 0), (3, .ptr 3 1 0), (4, .fn 30 [.ptr 3 1 0])], HT b1 gb1 W, c1⟩ = some (.exit 4, ⟨E2, HT b2 gb2 [D], c2⟩)) (e2 : envOnly [2, 3] E2 = [(2, .ptr 2 0 0), (3, .ptr 3 1 0)]) :
    evFun Φ 3000 a19 [.ro t 32 L] = some (.agg D, []) := by
  have tD : D.take 32 = D := List.take_of_length_le (by omega)
  have z1 : z29.length = 32 := rfl
  have zd : z29.drop 32 = [] := rfl
  have n0 : ¬ len = 0 := by omega
  have i0 : ((len : Int) == 0) = false := by rw [beq_eq_false_iff_ne]; omega
  refine fun_of (q := ([.ro t 32 L], [], 0)) (by simp [a19]) (by simp) (e := .ret)
    (s' := ⟨[(2, .ptr 2 0 0), (3, .ptr 3 1 0), (38, if b2 then .own 1003000 gb2 0 1 else .own 22 gb2 0 1), (39, if b2 then .eptr 1003000 gb2 0 0 else .eptr 22 gb2 0 0), (40, .agg D)], if b2 then [⟨2, 0, .var D⟩, ⟨3, 1, .var [.own 1003000 gb2 0 1]⟩, ⟨1003000, gb2, .arr 32 [D] false⟩] else [⟨2, 0, .var D⟩, ⟨3, 1, .var [.own 22 gb2 0 1]⟩, ⟨22, gb2, .arr 32 [D] false⟩], c2⟩) ?_ (.inr rfl) (by cases b2 <;> simp -implicitDefEqProofs [a19, lD, tD, plains_cells pD, plains_mv pD])
  show ev Φ 3000 c19 ⟨[(0, .ro t 32 L)], [], 0⟩ = _
  unfold c19
  refine ev_seqN (s1 := ⟨[(0, .ro t 32 L), (2, .ptr 2 0 0)], [⟨2, 0, .var z29⟩], 1⟩) (by simp) ?_
  refine ev_seqK (s1 := ⟨[(0, .ro t 32 L), (2, .ptr 2 0 0)], [⟨2, 0, .var z29⟩], 1⟩) (by simp -implicitDefEqProofs [hl, n0, i0, St.keep]) ?_
  refine ev_seqN (s1 := ⟨[(0, .ro t 32 L), (2, .ptr 2 0 0), (3, .ptr 3 1 0)], [⟨2, 0, .var z29⟩, ⟨3, 1, .var [.nilS]⟩], 2⟩) (by simp) ?_
  refine ev_seqN (s1 := ⟨[(0, .ro t 32 L), (2, .ptr 2 0 0), (3, .ptr 3 1 0), (4, .fn 30 [.ptr 3 1 0]), (11, .fn 30 [.ptr 3 1 0])], [⟨2, 0, .var z29⟩, ⟨3, 1, .var [.nilS]⟩], 2⟩) (by simp) ?_
  refine ev_seqK (s1 := ⟨[(2, .ptr 2 0 0), (3, .ptr 3 1 0), (4, .fn 30 [.ptr 3 1 0])], HT b1 gb1 W, c1⟩) ?_ ?_
  · rw [ev_seqN (s1 := ⟨[(0, .ro t 32 L), (2, .ptr 2 0 0), (3, .ptr 3 1 0), (4, .fn 30 [.ptr 3 1 0]), (11, .fn 30 [.ptr 3 1 0]), (12, .ro t 32 L), (13, .int .i64 len), (14, .int .i64 0)], [⟨2, 0, .var z29⟩, ⟨3, 1, .var [.nilS]⟩], 2⟩) (by simp -implicitDefEqProofs [hl]) (ev_blockL (by simp [St.keep, HN]) l1)]
    show some (Ex.normal, (⟨envOnly [2, 3, 4] E1, _, c1⟩ : St)) = _
    rw [e1]
    unfold HT
    cases b1 <;> simp
  · refine ev_seqK (s1 := ⟨[(2, .ptr 2 0 0), (3, .ptr 3 1 0)], HT b2 gb2 [D], c2⟩) ?_ ?_
    · rw [ev_blockX (by rw [ev]; exact l2)]
      show some (Ex.normal, (⟨envOnly [2, 3] E2, _, c2⟩ : St)) = _
      rw [e2]
      unfold HT
      cases b2 <;> simp
    · unfold HT
      cases b2 <;> simp -implicitDefEqProofs [lD, tD, z1, zd, plains_cells pD]
theorem root19 (n : Nat) (v : AV) (L : List Dg) (hv : LD L v) (hL : All32 L) (hb : L.length ≤ 500) : E (n + 8) 19 [v] = some (.agg (u8s (rootR (ofL 0 [] L))), []) := by
  rw [e19]
  by_cases h0 : L = []
  · subst h0
    exact root19_nil (Q (n + 7)) _ _ _ _ (q21 (n + 6)) v hv.val hv.cell hv.len _ (empty12 (n + 1)) (by rw [u8s_len]; exact sha_len []) (u8s_plain _)
  · obtain ⟨t, rfl⟩ : ∃ t, v = .ro t 32 (dr L) := by rcases hv with ⟨_, h⟩ | ⟨_, h⟩ | h; exact absurd h h0; exact absurd h h0; exact h
    have hpos : 0 < L.length := List.length_pos_iff.2 h0
    obtain ⟨E1, b1, gb1, c1, l1, e1⟩ := loop19o n t L hL hb L.length 0 3000 2 0 none [] (by omega) (by omega) (fun d hd => by cases hd) (by rw [pop_zero]; rfl) (fun _ => rfl) (.inl hpos)
    rw [List.drop_zero, show ((0 : Nat) : Int) = 0 from rfl] at l1
    have h32 := ofL_32 L 0 (P := []) (fun d hd => by cases hd) hL
    have hpl := ofL_len L 0 (P := []) (by rw [pop_zero]; rfl)
    rw [Nat.zero_add] at hpl
    have hle := pop_le 12 L.length (by omega)
    have hne : 0 < pop L.length := by
      have := tz_pop (L.length - 1 + 1) (L.length - 1) (by omega)
      rw [show L.length - 1 + 1 = L.length by omega] at this
      omega
    obtain ⟨E2, b2, gb2, c2, l2, e2⟩ := loop19e n (pop L.length - 1) 3000 b1 gb1 c1 (ofL 0 [] L) (by omega) (by omega) h32 (by omega)
    exact root19_of (Q (n + 7)) t (dr L) L.length (dr_len L) hpos hb _ _ (by rw [u8s_len, rootR_len h32]) (u8s_plain _) b1 gb1 c1 E1 l1 e1 b2 gb2 c2 E2 l2 e2
end Go.Abs.Tryd

namespace Go.Abs.Tryd
open Go Go.Abs Go.Abs.Sha
set_option maxHeartbeats 16000000
set_option maxRecDepth 100000
set_option linter.unusedSimpArgs false
set_option linter.unusedVariables false
/- the plain law of FrontGrows -/
theorem ofL_snoc : ∀ (r : List Dg) (i : Nat) (P : List Dg) (d : Dg), ofL i P (r ++ [d]) = addL (i + r.length) d (ofL i P r)
  | [], i, P, d => rfl
  | x :: r, i, P, d => by
    rw [List.cons_append, ofL, ofL_snoc r (i + 1) (addL i x P) d, ofL, List.length_cons, show i + 1 + r.length = i + (r.length + 1) by omega]
theorem ofL_take (L : List Dg) (i : Nat) (h : i < L.length) : ofL 0 [] (L.take (i + 1)) = addL i L[i] (ofL 0 [] (L.take i)) := by
  have e : L.take (i + 1) = L.take i ++ [L[i]] := by rw [List.take_add_one, List.getElem?_eq_getElem h]; rfl
  have hl : (L.take i).length = i := by rw [List.length_take]; omega
  rw [e, ofL_snoc, hl, Nat.zero_add]
theorem okF_of (L : List Dg) (i : Nat) (h : i ≤ L.length) (hb : L.length ≤ 1000) : okF (i : Int) (ofL 0 [] (L.take i)).length = true := by
  have hl : (L.take i).length = i := by rw [List.length_take]; omega
  have := ofL_len (L.take i) 0 (P := []) (by rw [pop_zero]; rfl)
  rw [hl, Nat.zero_add] at this
  simp only [okF, Bool.and_eq_true, decide_eq_true_eq]
  exact ⟨by omega, by omega, by rw [Int.toNat_natCast]; exact this⟩
end Go.Abs.Tryd

namespace Go.Abs.Tryd
open Go Go.Abs Go.Abs.Sha
set_option maxHeartbeats 16000000
set_option maxRecDepth 100000
set_option linter.unusedSimpArgs false
set_option linter.unusedVariables false
/-- the memory of FrontGrows: the front so far -/
def H7 (g : Nat) (s : Int) : Option (Nat × List (List AV)) → AH
  | none => [⟨3, g, .var [.int .i64 s, .nilS]⟩]
  | some (gb, W) => [⟨3, g, .var [.int .i64 s, .own 28001 gb 0 W.length]⟩, ⟨28001, gb, .arr 32 W false⟩]
def lent7 : Option (Nat × List (List AV)) → AV
  | none => .nilS
  | some (_, W) => .ro true 32 W
theorem step7_of (Φ : Nat → Option FnF) (F10 F14 F15 F17 F19 : CallF) {G10 J10 Y10' G14 J14 Y14 G15 J15 Y15 G17 J17 Y17 G19 J19 Y19} (h10 : Φ 10 = some ⟨F10, G10, J10, Y10'⟩) (h14 : Φ 14 = some ⟨F14, G14, J14, Y14⟩) (h15 : Φ 15 = some ⟨F15, G15, J15, Y15⟩) (h17 : Φ 17 = some ⟨F17, G17, J17, Y17⟩) (h19 : Φ 19 = some ⟨F19, G19, J19, Y19⟩)
    (t : Bool) (L T : List (List AV)) (len i : Nat) (hl : L.length = len) (hi : i < len) (hb : len ≤ 70) (y : List AV) (r1 : L[i]? = some y) (ly : y.length = 32) (py : y.all AV.plain = true) (hT : L.take (i + 1) = T)
    (g c k : Nat) (o : Option (Nat × List (List AV))) (ho : ∀ p, o = some p → p.1 < c) (W : List (List AV)) (s s1 : Int) (hs : (i : Int) = s) (w1 : IntKind.i64.wrap (s + 1) = s1) (e1 : s1 = ((i + 1 : Nat) : Int)) (d : List AV) (ld : d.length = 32) (pd : d.all AV.plain = true) (kd : aeqCells k32 d d = some true)
    (c17 : F17 [.agg [.int .i64 s, lent7 o], .agg y] = some (.tup [.agg [.int .i64 s1, .fr 32 W], .int .i64 0], [])) (c15 : F15 [.ro t 32 T] = some (.tup [.agg [.int .i64 s1, .fr 32 W], .int .i64 0], [])) (c14 : F14 [.ro true 32 W, .ro true 32 W] = some (.bool true, []))
    (c10 : F10 [.agg [.int .i64 s1, .ro true 32 W]] = some (.tup [.agg d, .int .i64 0], [])) (c19 : F19 [.ro t 32 T] = some (.agg d, [])) :
    iter (ev Φ 3000 b7_0) [0, 3, 4] [3, 28001, 100000] (k + 1) ⟨[(0, .ro t 32 L), (3, .ptr 3 g 0), (4, .int .i64 s)], H7 g s o, c⟩ = iter (ev Φ 3000 b7_0) [0, 3, 4] [3, 28001, 100000] k ⟨[(0, .ro t 32 L), (3, .ptr 3 g 0), (4, .int .i64 s1)], H7 g s1 (some (c, W)), c + 5⟩ := by
  have ty : y.take 32 = y := List.take_of_length_le (by omega)
  have td : d.take 32 = d := List.take_of_length_le (by omega)
  have dd : d.drop 32 = [] := List.drop_of_length_le (by omega)
  have z1 : z29.length = 32 := rfl
  have zd : z29.drop 32 = [] := rfl
  have r1' := (List.getElem?_eq_some_iff.1 r1).2
  have il : i < L.length := by omega
  have i1 : s < (len : Int) := by omega
  have i0 : 0 ≤ s := by omega
  have sn : s.toNat = i := by omega
  have s0 : 0 ≤ s1 := by omega
  have s2 : s1.toNat = i + 1 := by omega
  have s3 : s1 ≤ (len : Int) := by omega
  have s4 : i + 1 ≤ L.length := by omega
  have tw : W.take W.length = W := List.take_length
  apply iter_norm
  rcases o with _ | ⟨gb, W0⟩ <;> simp only [lent7] at c17 <;> unfold H7
  · subst hs
    simp -implicitDefEqProofs (maxSteps := 5000000) [b7_0, St.keep, h10, h14, h15, h17, h19, c10, c14, c15, c17, c19, hl, r1, r1', il, i1, i0, s0, s3, s2, s4, w1, ty, td, dd, ly, ld, kd, z1, zd, z25, tw, hT, plains_low py, plains_cells py, plains_in py, plains_lend py, plains_cells pd, plains_in pd, plains_low pd]
  · have tw0 : W0.take W0.length = W0 := List.take_length
    have hgb : gb < c := ho _ rfl
    subst hs
    simp -implicitDefEqProofs (maxSteps := 5000000) [b7_0, St.keep, h10, h14, h15, h17, h19, c10, c14, c15, c17, c19, hl, r1, r1', il, i1, i0, s0, s3, s2, s4, w1, ty, td, dd, ly, ld, kd, z1, zd, z25, tw, tw0, hgb, hT, plains_low py, plains_cells py, plains_in py, plains_lend py, plains_cells pd, plains_in pd, plains_low pd]
end Go.Abs.Tryd

namespace Go.Abs.Tryd
open Go Go.Abs Go.Abs.Sha
set_option maxHeartbeats 16000000
set_option maxRecDepth 100000
set_option linter.unusedSimpArgs false
set_option linter.unusedVariables false
theorem addF_ok {L : List Dg} {i : Nat} (h : i < L.length) (hb : L.length ≤ 70) : addF (i : Int) (ofL 0 [] (L.take i)) L[i] = .tup [.agg [.int .i64 ((i + 1 : Nat) : Int), .fr 32 (dr (ofL 0 [] (L.take (i + 1))))], .int .i64 0] := by
  unfold addF
  rw [if_pos (okF_of L i (by omega) (by omega)), if_neg (by omega), ofL_take L i h, Int.toNat_natCast]
theorem frD_ne {P : List Dg} (h : P ≠ []) : frD P = .fr 32 (dr P) := by unfold frD; rw [if_neg h]
theorem addL_ne (i : Nat) (d : Dg) (P : List Dg) (hP : P.length = pop i) : addL i d P ≠ [] := by
  intro h
  have h1 := addL_len (leaf := d) hP
  have h2 := tz_pop (i + 1) i (by omega)
  rw [h] at h1
  rw [List.length_nil] at h1
  omega
def mem7 (L : List Dg) (i gb : Nat) : Option (Nat × List (List AV)) := if i = 0 then none else some (gb, dr (ofL 0 [] (L.take i)))
theorem mem7_lt {L : List Dg} {i gb c : Nat} (hg : i ≠ 0 → gb < c) : ∀ p, mem7 L i gb = some p → p.1 < c := by
  intro p hp
  unfold mem7 at hp
  by_cases h : i = 0
  · rw [if_pos h] at hp; cases hp
  · rw [if_neg h] at hp
    obtain rfl := Option.some.inj hp
    exact hg h
theorem loop7 (n : Nat) (t : Bool) (L : List Dg) (hL : All32 L) (hb : L.length ≤ 70) (g : Nat) : ∀ (d i k c gb : Nat), i + d = L.length → d < k → (i ≠ 0 → gb < c) →
    ∃ E' gb' c', iter (ev (Q (n + 8)) 3000 b7_0) [0, 3, 4] [3, 28001, 100000] k ⟨[(0, .ro t 32 (dr L)), (3, .ptr 3 g 0), (4, .int .i64 i)], H7 g i (mem7 L i gb), c⟩ = some (.exit 0, ⟨E', H7 g L.length (mem7 L L.length gb'), c'⟩) ∧ envOnly [0, 3] E' = [(0, .ro t 32 (dr L)), (3, .ptr 3 g 0)]
  | d, i, 0, c, gb, hi, hk, hg => by omega
  | 0, i, k + 1, c, gb, hi, hk, hg => by
    obtain rfl : i = L.length := by omega
    have la := dr_len L
    generalize hM : H7 g L.length (mem7 L L.length gb) = M
    have n1 : ¬ ((L.length : Int) < L.length) := by omega
    refine ⟨[(0, .ro t 32 (dr L)), (3, .ptr 3 g 0), (4, .int .i64 L.length), (15, .int .i64 L.length), (16, .ro t 32 (dr L)), (17, .int .i64 L.length), (18, .bool false)], gb, c, ?_, by simp⟩
    rw [hM]
    have hk : M.only [3, 28001, 100000] = M := by
      rw [← hM]; unfold mem7
      by_cases h0 : L.length = 0 <;> simp [h0, H7]
    rw [iter_succ]
    simp -implicitDefEqProofs [b7_0, la, hk]
  | d + 1, i, k + 1, c, gb, hi, hk, hg => by
    have hil : i < L.length := by omega
    obtain ⟨E', gb', c', e1, e2⟩ := loop7 n t L hL hb g d (i + 1) k (c + 5) c (by omega) (by omega) (by omega)
    refine ⟨E', gb', c', ?_, e2⟩
    rw [← e1]
    have hTi : All32 (L.take i) := fun x hx => hL x (List.mem_of_mem_take hx)
    have hT1 : All32 (L.take (i + 1)) := fun x hx => hL x (List.mem_of_mem_take hx)
    have hP := ofL_32 (L.take i) 0 (P := []) (fun d hd => by cases hd) hTi
    have hP1 := ofL_32 (L.take (i + 1)) 0 (P := []) (fun d hd => by cases hd) hT1
    have hli : (L.take i).length = i := by rw [List.length_take]; omega
    have hl1 : (L.take (i + 1)).length = i + 1 := by rw [List.length_take]; omega
    have hpi := ofL_len (L.take i) 0 (P := []) (by rw [pop_zero]; rfl)
    have hp1 := ofL_len (L.take (i + 1)) 0 (P := []) (by rw [pop_zero]; rfl)
    rw [hli, Nat.zero_add] at hpi
    rw [hl1, Nat.zero_add] at hp1
    have hle := pop_le 17 i (by omega)
    have hle1 := pop_le 17 (i + 1) (by omega)
    have hd := hL L[i] (List.getElem_mem _)
    have h32 := u8s_len L[i]
    rw [hd] at h32
    have hne : ofL 0 [] (L.take (i + 1)) ≠ [] := by rw [ofL_take L i hil]; exact addL_ne _ _ _ hpi
    have hlent : LD (ofL 0 [] (L.take i)) (lent7 (mem7 L i gb)) := by
      unfold mem7
      by_cases h0 : i = 0
      · subst h0; rw [if_pos rfl]; exact .inl ⟨rfl, rfl⟩
      · rw [if_neg h0]; exact .inr (.inr ⟨true, rfl⟩)
    have c17 := front17 n (i : Int) (lent7 (mem7 L i gb)) (ofL 0 [] (L.take i)) hlent hP (by omega) L[i] hd
    rw [addF_ok hil hb] at c17
    have c15 := of15 n (.ro t 32 (dr (L.take (i + 1)))) (L.take (i + 1)) (.inr (.inr ⟨t, rfl⟩)) hT1 (by omega)
    rw [hl1, frD_ne hne] at c15
    have c14 := digests14 (n + 7) (.ro true 32 (dr (ofL 0 [] (L.take (i + 1))))) (.ro true 32 (dr (ofL 0 [] (L.take (i + 1))))) _ _ hP1 hP1 (.inr (.inr ⟨true, rfl⟩)) (.inr (.inr ⟨true, rfl⟩)) (by omega)
    rw [decide_eq_true rfl] at c14
    have c10 := root10 n ((i + 1 : Nat) : Int) (.ro true 32 (dr (ofL 0 [] (L.take (i + 1))))) (ofL 0 [] (L.take (i + 1))) (.inr (.inr ⟨true, rfl⟩)) hP1 (by omega)
    have hok := okF_of L (i + 1) (by omega) (by omega)
    unfold rootF at c10
    rw [if_pos hok] at c10
    have c19 := root19 n (.ro t 32 (dr (L.take (i + 1)))) (L.take (i + 1)) (.inr (.inr ⟨t, rfl⟩)) hT1 (by omega)
    have hr := rootR_len hP1
    have hmem : mem7 L (i + 1) c = some (c, dr (ofL 0 [] (L.take (i + 1)))) := by unfold mem7; rw [if_neg (by omega)]
    rw [hmem]
    exact step7_of (Q (n + 8)) _ _ _ _ _ (q10 (n + 7)) (q14 (n + 7)) (q15 (n + 7)) (q17 (n + 7)) (q19 (n + 7)) t (dr L) (dr (L.take (i + 1))) L.length i (dr_len L) hil hb (u8s L[i]) (by simp [dr, hil]) h32 (u8s_plain _) (by simp [dr, List.map_take]) g c k (mem7 L i gb) (mem7_lt hg) (dr (ofL 0 [] (L.take (i + 1)))) i ((i + 1 : Nat) : Int) rfl (by rw [wrap_i64 _ (by omega) (by omega)]; omega) rfl (u8s (rootR (ofL 0 [] (L.take (i + 1))))) (by rw [u8s_len, hr]) (u8s_plain _) (self32 _ hr) c17 c15 c14 c10 c19
end Go.Abs.Tryd

namespace Go.Abs.Tryd
open Go Go.Abs Go.Abs.Sha
set_option maxHeartbeats 16000000
set_option maxRecDepth 100000
set_option linter.unusedSimpArgs false
set_option linter.unusedVariables false
theorem law7_long (Φ : Nat → Option FnF) (v : AV) (L : List Dg) (hv : LD L v) (hn : 70 < L.length) : evFun Φ 3000 a7 [v] = some (.bool true, []) := by
  have hl := hv.len
  have n1 : (70 : Int) < L.length := by omega
  simp -implicitDefEqProofs [a7, c7, hl, n1, hn, hv.cell, hv.val]
theorem law7_of (Φ : Nat → Option FnF) (F13 : CallF) {G13 J13 Y13} (h13 : Φ 13 = some ⟨F13, G13, J13, Y13⟩) (c13 : F13 [] = some (.bool true, [])) (v : AV) (L : List Dg) (hv : LD L v) (hb : L.length ≤ 70) (E' : Env) (c' : Nat) (M : Option (Nat × List (List AV)))
    (lp : iter (ev Φ 3000 b7_0) [0, 3, 4] [3, 28001, 100000] 3000 ⟨[(0, v), (3, .ptr 3 0 0), (4, .int .i64 0)], [⟨3, 0, .var [.int .i64 0, .nilS]⟩], 1⟩ = some (.exit 0, ⟨E', H7 0 L.length M, c'⟩)) (e2 : envOnly [0, 3] E' = [(0, v), (3, .ptr 3 0 0)]) :
    evFun Φ 3000 a7 [v] = some (.bool true, []) := by
  have hl := hv.len
  have n1 : ¬ (70 : Int) < L.length := by omega
  simp -implicitDefEqProofs [a7, c7, h13, c13, hl, n1, z25, hv.cell, hv.val, hv.cb, hv.cells1, hv.ld, hv.ldc, hv.mv]
  rw [iter_keep]
  simp -implicitDefEqProofs
  rw [lp]
  rcases M with _ | ⟨gb, W⟩ <;> simp -implicitDefEqProofs [H7, e2, h13, c13, hl]
theorem law7 (x0 : AV) (o0 : okRow [.sl (List.replicate 32 (.int .u8))] [x0]) : E 10 7 [x0] = some (.bool true, []) := by
  obtain ⟨L, hL, hv, _⟩ := ok_peaks o0
  rw [e7]
  by_cases hn : 70 < L.length
  · exact law7_long (Q 9) x0 L hv hn
  · have hb : L.length ≤ 70 := by omega
    have c13 := rows13 0
    by_cases h0 : L = []
    · subst h0
      have hl := hv.len
      exact law7_of (Q 9) _ (q13 8) c13 x0 [] hv hb _ _ none (by
        rw [iter_succ]
        simp -implicitDefEqProofs [b7_0, hl, H7]
        exact ⟨rfl, rfl⟩) (by simp)
    · obtain ⟨t, rfl⟩ : ∃ t, x0 = .ro t 32 (dr L) := by rcases hv with ⟨_, h⟩ | ⟨_, h⟩ | h; exact absurd h h0; exact absurd h h0; exact h
      obtain ⟨E', gb', c', e1, e2⟩ := loop7 1 t L hL hb 0 L.length 0 3000 1 0 (by omega) (by omega) (by omega)
      exact law7_of (Q 9) _ (q13 8) c13 _ L hv hb E' c' _ e1 e2
theorem ref7 : Refines Go.Proofs.Tryd.prog 7 (E 10 7) := ref 10 7 (q7 9)
end Go.Abs.Tryd
