/- Part 1 of FD: what our evaluation of a function's code says, the machine's run does; no condition of its own. -/
import Derived.Test.YteeganhogbbpnaaDoorFBB
set_option linter.unusedVariables false
set_option linter.unusedSimpArgs false
set_option linter.unusedSectionVars false
namespace Go.Abs.Tryd
open Go Go.Abs Go.Abs.Sha
set_option maxHeartbeats 16000000
set_option maxRecDepth 100000
set_option linter.unusedSimpArgs false
set_option linter.unusedVariables false
/- The plain law of FrontLists: leaves that come one by one make the peaks of the list. -/
/-- the root of a whole tree of 2^j leaves -/
def perf : Nat → List Dg → Dg
  | 0, l => l.getD 0 []
  | j + 1, l => Kn (perf j (l.take (2 ^ j))) (perf j (l.drop (2 ^ j)))
/-- the peaks of a list of less than 2^j leaves -/
def pk : Nat → List Dg → List Dg
  | 0, l => []
  | j + 1, l => if 2 ^ j ≤ l.length then perf j (l.take (2 ^ j)) :: pk j (l.drop (2 ^ j)) else pk j l
theorem mrg_cons {x : Dg} {Q : List Dg} (h : 2 ≤ Q.length) : mrg (x :: Q) = x :: mrg Q := by
  obtain ⟨q, hq⟩ : ∃ q, Q.length = q + 2 := ⟨Q.length - 2, by omega⟩
  unfold mrg
  rw [List.length_cons, hq, show q + 2 + 1 - 2 = q + 1 by omega, show q + 2 + 1 - 1 = q + 1 + 1 by omega, show q + 2 - 2 = q by omega, show q + 2 - 1 = q + 1 by omega]
  rfl
theorem mrgN_cons : ∀ (m : Nat) {x : Dg} {Q : List Dg}, m + 1 ≤ Q.length → mrgN m (x :: Q) = x :: mrgN m Q
  | 0, x, Q, h => rfl
  | m + 1, x, Q, h => by
    rw [mrgN, mrgN, mrg_cons (by omega), mrgN_cons m (by rw [mrg_len (by omega)]; omega)]
theorem mrgN_add : ∀ (a b : Nat) (P : List Dg), mrgN (a + b) P = mrgN b (mrgN a P)
  | 0, b, P => by rw [Nat.zero_add]; rfl
  | a + 1, b, P => by rw [show a + 1 + b = (a + b) + 1 by omega, mrgN, mrgN, mrgN_add a b]
theorem tz_pow : ∀ J : Nat, tz (2 ^ J) = J
  | 0 => tz_odd rfl
  | J + 1 => by
    have h0 : 2 ^ J ≠ 0 := Nat.pos_iff_ne_zero.1 (Nat.pow_pos (by omega))
    rw [Nat.pow_succ, tz_even (by omega) (by omega), show 2 ^ J * 2 / 2 = 2 ^ J by omega, tz_pow J, Nat.add_comm]
theorem tz_add : ∀ (J m : Nat), 0 < m → m < 2 ^ J → tz (2 ^ J + m) = tz m
  | 0, m, h0, h => by omega
  | J + 1, m, h0, h => by
    rw [Nat.pow_succ] at *
    by_cases he : m % 2 = 1
    · rw [tz_odd he, tz_odd (by omega)]
    · rw [tz_even (n := m) (by omega) (by omega), tz_even (by omega) (by omega), show (2 ^ J * 2 + m) / 2 = 2 ^ J + m / 2 by omega, tz_add J (m / 2) (by omega) (by omega)]
theorem pop_add : ∀ (J m : Nat), m < 2 ^ J → pop (2 ^ J + m) = pop m + 1
  | 0, m, h => by
    obtain rfl : m = 0 := by omega
    rw [pop_zero, pop_pos (by omega)]
    show 1 + pop 0 = _
    rw [pop_zero]
  | J + 1, m, h => by
    rw [Nat.pow_succ] at *
    have h0 : 0 < 2 ^ J := Nat.pow_pos (by omega)
    rw [pop_pos (by omega), show (2 ^ J * 2 + m) / 2 = 2 ^ J + m / 2 by omega, pop_add J (m / 2) (by omega), show (2 ^ J * 2 + m) % 2 = m % 2 by omega]
    by_cases hm : m = 0
    · subst hm; rw [pop_zero]
    · rw [pop_pos hm]; omega
theorem pk_len : ∀ (J : Nat) (l : List Dg), l.length < 2 ^ J → (pk J l).length = pop l.length
  | 0, l, h => by
    rw [show l.length = 0 by omega, pop_zero]; rfl
  | J + 1, l, h => by
    rw [Nat.pow_succ] at h
    unfold pk
    split
    · next h1 =>
      rw [List.length_cons, pk_len J _ (by rw [List.length_drop]; omega), List.length_drop]
      have := pop_add J (l.length - 2 ^ J) (by omega)
      rw [show 2 ^ J + (l.length - 2 ^ J) = l.length by omega] at this
      omega
    · exact pk_len J l (by omega)
theorem pk_nil : ∀ J : Nat, pk J [] = []
  | 0 => rfl
  | J + 1 => by
    have h0 : 0 < 2 ^ J := Nat.pow_pos (by omega)
    unfold pk
    rw [if_neg (by simp), pk_nil J]
/-- one more leaf -/
theorem pk_add : ∀ (J : Nat) (l : List Dg) (d : Dg), (l.length + 1 < 2 ^ J → mrgN (tz (l.length + 1)) (pk J l ++ [d]) = pk J (l ++ [d])) ∧ (l.length + 1 = 2 ^ J → mrgN J (pk J l ++ [d]) = [perf J (l ++ [d])])
  | 0, l, d => by
    refine ⟨fun h => by simp at h, fun h => ?_⟩
    obtain rfl : l = [] := List.length_eq_zero_iff.1 (by simp at h; exact List.length_eq_zero_iff.2 h)
    rfl
  | J + 1, l, d => by
    have hp : 0 < 2 ^ J := Nat.pow_pos (by omega)
    have e2 : 2 ^ (J + 1) = 2 ^ J * 2 := Nat.pow_succ ..
    have hld : (l ++ [d]).length = l.length + 1 := by simp
    by_cases hs : l.length < 2 ^ J
    · have p1 : pk (J + 1) l = pk J l := by rw [pk, if_neg (by omega)]
      obtain ⟨i1, i2⟩ := pk_add J l d
      refine ⟨fun h => ?_, fun h => by omega⟩
      rw [p1]
      by_cases hc : l.length + 1 = 2 ^ J
      · rw [hc, tz_pow, i2 hc, pk, if_pos (by rw [hld]; omega), List.take_of_length_le (by rw [hld]; omega), List.drop_of_length_le (by rw [hld]; omega), pk_nil]
      · rw [i1 (by omega), pk, if_neg (by rw [hld]; omega)]
    · have hlen : (l.drop (2 ^ J)).length = l.length - 2 ^ J := List.length_drop
      have p1 : pk (J + 1) l = perf J (l.take (2 ^ J)) :: pk J (l.drop (2 ^ J)) := by rw [pk, if_pos (by omega)]
      have t1 : (l ++ [d]).take (2 ^ J) = l.take (2 ^ J) := List.take_append_of_le_length (by omega)
      have t2 : (l ++ [d]).drop (2 ^ J) = l.drop (2 ^ J) ++ [d] := List.drop_append_of_le_length (by omega)
      obtain ⟨i1, i2⟩ := pk_add J (l.drop (2 ^ J)) d
      rw [hlen] at i1 i2
      refine ⟨fun h => ?_, fun h => ?_⟩
      · have hq : (pk J (l.drop (2 ^ J)) ++ [d]).length = pop (l.length - 2 ^ J) + 1 := by
          rw [List.length_append, pk_len J _ (by omega), hlen]; rfl
        obtain ⟨tp, _⟩ := tz_pop (l.length - 2 ^ J + 1) (l.length - 2 ^ J) (by omega)
        have ht := tz_add J (l.length - 2 ^ J + 1) (by omega) (by omega)
        rw [show 2 ^ J + (l.length - 2 ^ J + 1) = l.length + 1 by omega] at ht
        rw [p1, ht, List.cons_append, mrgN_cons _ (by rw [hq]; omega), i1 (by omega), pk, if_pos (by rw [hld]; omega), t1, t2]
      · have hq : (pk J (l.drop (2 ^ J)) ++ [d]).length = pop (l.length - 2 ^ J) + 1 := by
          rw [List.length_append, pk_len J _ (by omega), hlen]; rfl
        obtain ⟨tp, _⟩ := tz_pop (l.length - 2 ^ J + 1) (l.length - 2 ^ J) (by omega)
        rw [show l.length - 2 ^ J + 1 = 2 ^ J by omega, tz_pow] at tp
        rw [p1, mrgN_add, List.cons_append, mrgN_cons _ (by rw [hq]; omega), i2 (by omega), perf, t1, t2]
        rfl
theorem ofL_pk (J : Nat) : ∀ (r l : List Dg), (l ++ r).length < 2 ^ J → ofL l.length (pk J l) r = pk J (l ++ r)
  | [], l, h => by rw [List.append_nil]; rfl
  | d :: r, l, h => by
    have h1 := (pk_add J l d).1 (by simp at h; omega)
    rw [ofL, addL, h1]
    have := ofL_pk J r (l ++ [d]) (by simpa using h)
    rw [List.length_append, List.length_singleton] at this
    rw [this]; simp
end Go.Abs.Tryd

namespace Go.Abs.Tryd
open Go Go.Abs Go.Abs.Sha
set_option maxHeartbeats 16000000
set_option maxRecDepth 100000
set_option linter.unusedSimpArgs false
set_option linter.unusedVariables false
theorem step39 (Φ : Nat → Option FnF) (K : Nat) (n k k2 : Int) (c j : Nat) (w1 : IntKind.i64.wrap (n - k) = n - k) (h : k < n - k) (w2 : IntKind.i64.wrap (2 * k) = k2) :
    iter (ev Φ K b39_0) [0, 3] [] (j + 1) ⟨[(0, .int .i64 n), (3, .int .i64 k)], [], c⟩ = iter (ev Φ K b39_0) [0, 3] [] j ⟨[(0, .int .i64 n), (3, .int .i64 k2)], [], c⟩ := by
  apply iter_norm
  simp -implicitDefEqProofs [b39_0, St.keep, w1, w2, h]
theorem loop39 (Φ : Nat → Option FnF) (K c j : Nat) (hj : j ≤ 20) : ∀ (d i k : Nat), i + d = j → d < k →
    ∃ E', iter (ev Φ K b39_0) [0, 3] [] k ⟨[(0, .int .i64 ((2 ^ (j + 1) : Nat) : Int)), (3, .int .i64 ((2 ^ i : Nat) : Int))], [], c⟩ = some (.exit 0, ⟨E', [], c⟩) ∧ envOnly [3] E' = [(3, .int .i64 ((2 ^ j : Nat) : Int))]
  | d, i, 0, hi, hk => by omega
  | 0, i, k + 1, hi, hk => by
    obtain rfl : i = j := by omega
    have e : 2 ^ (i + 1) = 2 * 2 ^ i := by rw [Nat.pow_succ]; omega
    have hb : 2 ^ i ≤ 2 ^ 20 := Nat.pow_le_pow_right (by omega) hj
    rw [e]
    generalize 2 ^ i = p at *
    have w1 : IntKind.i64.wrap (((2 * p : Nat) : Int) - p) = p := by rw [wrap_i64 _ (by omega) (by omega)]; omega
    generalize ((2 * p : Nat) : Int) = q at *
    generalize (p : Int) = p' at *
    refine ⟨[(0, .int .i64 q), (3, .int .i64 p'), (6, .int .i64 p'), (7, .int .i64 q), (8, .int .i64 p'), (9, .int .i64 p'), (10, .bool false)], ?_, by simp⟩
    rw [iter_succ]
    simp -implicitDefEqProofs [b39_0, w1]
  | d + 1, i, k + 1, hi, hk => by
    obtain ⟨E', e, e2⟩ := loop39 Φ K c j hj d (i + 1) k (by omega) (by omega)
    refine ⟨E', ?_, e2⟩
    rw [← e]
    have hb : 2 ^ (j + 1) ≤ 2 ^ 21 := Nat.pow_le_pow_right (by omega) (by omega)
    have hb2 : 2 ^ (i + 1) ≤ 2 ^ j := Nat.pow_le_pow_right (by omega) (by omega)
    have e3 : 2 ^ (j + 1) = 2 * 2 ^ j := by rw [Nat.pow_succ]; omega
    have e4 : 2 ^ (i + 1) = 2 * 2 ^ i := by rw [Nat.pow_succ]; omega
    have hp : 0 < 2 ^ i := Nat.pow_pos (by omega)
    have hb3 : (2 : Nat) ^ 21 = 2097152 := rfl
    exact step39 Φ K _ _ _ c k (wrap_i64 _ (by omega) (by omega)) (by omega) (by rw [wrap_i64 _ (by omega) (by omega)]; omega)
theorem split39 (n j : Nat) (hj : j ≤ 20) : E (n + 1) 39 [.int .i64 ((2 ^ (j + 1) : Nat) : Int)] = some (.int .i64 ((2 ^ j : Nat) : Int), []) := by
  rw [e39]
  obtain ⟨E', e, e2⟩ := loop39 (Q n) 3000 0 j hj j 0 3000 (by omega) (by omega)
  rw [show ((2 ^ 0 : Nat) : Int) = 1 from rfl] at e
  have hp : 0 < 2 ^ j := Nat.pow_pos (by omega)
  have e3 : 2 ^ (j + 1) = 2 * 2 ^ j := by rw [Nat.pow_succ]; omega
  have h2 : ¬ ((2 ^ (j + 1) : Nat) : Int) < 2 := by omega
  refine fun_of (q := ([.int .i64 ((2 ^ (j + 1) : Nat) : Int)], [], 0)) (by simp [a39]) (by simp) (e := .ret) (s' := ⟨[(2, .int .i64 ((2 ^ j : Nat) : Int)), (3, .int .i64 ((2 ^ j : Nat) : Int)), (13, .int .i64 ((2 ^ j : Nat) : Int))], [], 0⟩) ?_ (.inr rfl) (by simp [a39])
  show ev (Q n) 3000 c39 ⟨[(0, .int .i64 ((2 ^ (j + 1) : Nat) : Int))], [], 0⟩ = _
  generalize ((2 ^ (j + 1) : Nat) : Int) = N at *
  generalize ((2 ^ j : Nat) : Int) = M at *
  unfold c39
  refine ev_seqN (s1 := ⟨[(0, .int .i64 N), (2, .int .i64 0)], [], 0⟩) (by simp) ?_
  refine ev_seqN (s1 := ⟨[(0, .int .i64 N), (2, .int .i64 0), (4, .int .i64 N), (5, .bool false)], [], 0⟩) (by simp [h2]) ?_
  refine ev_seqN (s1 := ⟨[(0, .int .i64 N), (2, .int .i64 0), (3, .int .i64 1), (4, .int .i64 N), (5, .bool false)], [], 0⟩) (by simp) ?_
  refine ev_seqN (ev_blockL (by simp [St.keep]) e) ?_
  refine ev_keepN ?_
  rw [e2]
  simp
theorem root28_one (Φ : Nat → Option FnF) (K : Nat) (t : Bool) (y : List AV) (ly : y.length = 32) (py : y.all AV.plain = true) : evFun Φ K a28 [.ro t 32 [y]] = some (.agg y, []) := by
  have ty : y.take 32 = y := List.take_of_length_le (by omega)
  have z1 : z29.length = 32 := rfl
  have zd : z29.drop 32 = [] := rfl
  simp -implicitDefEqProofs [a28, c28, ly, ty, z1, zd, plains_cells py, plains_mv py]
theorem root28_of (Φ : Nat → Option FnF) (K : Nat) (F26 F28 F39 : CallF) {G26 J26 Y26 G28 J28 Y28 G39 J39 Y39} (h26 : Φ 26 = some ⟨F26, G26, J26, Y26⟩) (h28 : Φ 28 = some ⟨F28, G28, J28, Y28⟩) (h39 : Φ 39 = some ⟨F39, G39, J39, Y39⟩) (t : Bool) (R : List (List AV)) (k len : Nat) (hl : R.length = len) (h2 : 2 ≤ len) (hk : k ≤ len)
    (A B D : List AV) (c39 : F39 [.int .i64 len] = some (.int .i64 k, [])) (c1 : F28 [.ro t 32 (R.take k)] = some (.agg A, [])) (c2 : F28 [.ro t 32 (R.drop k)] = some (.agg B, [])) (c26 : F26 [.agg A, .agg B] = some (.agg D, []))
    (pA : A.all AV.plain = true) (pB : B.all AV.plain = true) (pD : D.all AV.plain = true) (lD : D.length = 32) : evFun Φ K a28 [.ro t 32 R] = some (.agg D, []) := by
  have tD : D.take 32 = D := List.take_of_length_le (by omega)
  have z1 : z29.length = 32 := rfl
  have zd : z29.drop 32 = [] := rfl
  have n0 : ¬ len = 0 := by omega
  have n1 : ¬ len = 1 := by omega
  have i0 : ((len : Int) == 0) = false := by rw [beq_eq_false_iff_ne]; omega
  have i1 : ((len : Int) == 1) = false := by rw [beq_eq_false_iff_ne]; omega
  have k1 : (k : Int) ≤ len := by omega
  have tR : R.take len = R := List.take_of_length_le (by omega)
  simp -implicitDefEqProofs [a28, c28, h26, h28, h39, c39, c1, c2, c26, hl, n0, n1, i0, i1, k1, hk, tR, tD, lD, z1, zd, plains_cells pA, plains_in pA, plains_lend pA, plains_low pA, plains_cells pB, plains_in pB, plains_lend pB, plains_low pB, plains_cells pD, plains_in pD, plains_low pD, plains_mv pD]
end Go.Abs.Tryd

namespace Go.Abs.Tryd
open Go Go.Abs Go.Abs.Sha
set_option maxHeartbeats 16000000
set_option maxRecDepth 100000
set_option linter.unusedSimpArgs false
set_option linter.unusedVariables false
theorem perf_len : ∀ (j : Nat) {l : List Dg}, All32 l → l.length = 2 ^ j → (perf j l).length = 32
  | 0, l, h, hl => by
    unfold perf
    rw [List.getD_eq_getElem?_getD, List.getElem?_eq_getElem (show 0 < l.length by rw [hl]; decide)]; exact h _ (List.getElem_mem _)
  | j + 1, l, h, hl => Kn_len _ _
theorem dr_take (k : Nat) (l : List Dg) : (dr l).take k = dr (l.take k) := by simp [dr]
theorem dr_drop (k : Nat) (l : List Dg) : (dr l).drop k = dr (l.drop k) := by simp [dr]
theorem all_take {P : List Dg} (h : All32 P) (j : Nat) : All32 (P.take j) := fun d hd => h d (List.mem_of_mem_take hd)
theorem root28 (n : Nat) : ∀ (j : Nat) (t : Bool) (l : List Dg), j ≤ 8 → l.length = 2 ^ j → All32 l → E (n + 6 + j) 28 [.ro t 32 (dr l)] = some (.agg (u8s (perf j l)), [])
  | 0, t, l, hj, hl, h => by
    rw [show n + 6 + 0 = n + 5 + 1 by omega, e28]
    obtain ⟨d, rfl⟩ := List.length_eq_one_iff.1 hl
    have hd := h d List.mem_cons_self
    exact root28_one _ _ t (u8s d) (by rw [u8s_len, hd]) (u8s_plain _)
  | j + 1, t, l, hj, hl, h => by
    have e2 : 2 ^ (j + 1) = 2 * 2 ^ j := by rw [Nat.pow_succ]; omega
    have hp : 0 < 2 ^ j := Nat.pow_pos (by omega)
    have l1 : (l.take (2 ^ j)).length = 2 ^ j := by rw [List.length_take]; omega
    have l2 : (l.drop (2 ^ j)).length = 2 ^ j := by rw [List.length_drop]; omega
    have r1 := root28 n j t (l.take (2 ^ j)) (by omega) l1 (all_take h _)
    have r2 := root28 n j t (l.drop (2 ^ j)) (by omega) l2 (all_drop h _)
    have p1 := perf_len j (all_take h (2 ^ j)) l1
    have p2 := perf_len j (all_drop h (2 ^ j)) l2
    have s := split39 (n + 5 + j) j (by omega)
    have kn := knot26 (n + 1 + j) _ _ p1 p2
    rw [← dr_take] at r1
    rw [← dr_drop] at r2
    rw [show n + 6 + (j + 1) = n + 6 + j + 1 by omega, e28]
    rw [show n + 5 + j + 1 = n + 6 + j by omega] at s
    rw [show n + 1 + j + 5 = n + 6 + j by omega] at kn
    exact root28_of (Q (n + 6 + j)) 3000 _ _ _ (by rw [show n + 6 + j = n + 5 + j + 1 by omega]; exact q26 _) (by rw [show n + 6 + j = n + 5 + j + 1 by omega]; exact q28 _) (by rw [show n + 6 + j = n + 5 + j + 1 by omega]; exact q39 _) t (dr l) (2 ^ j) (2 ^ (j + 1)) (by rw [dr_len, hl]) (by omega) (by omega) (u8s (perf j (l.take (2 ^ j)))) (u8s (perf j (l.drop (2 ^ j)))) _ s r1 r2 kn (u8s_plain _) (u8s_plain _) (u8s_plain _) (by rw [u8s_len]; exact Kn_len _ _)
/-- the greatest power that a list has -/
theorem loop16i (Φ : Nat → Option FnF) (K c : Nat) (t : Bool) (R : List (List AV)) (out : AV) (H : AH) (hH : H.only [21, 100000] = H) (j : Nat) (hj : j ≤ 20) (h1 : 2 ^ j ≤ R.length) (h2 : R.length < 2 ^ (j + 1)) : ∀ (d i k : Nat), i + d = j → d < k →
    ∃ E', iter (ev Φ K b16_0) [0, 3, 4] [21, 100000] k ⟨[(0, .ro t 32 R), (3, out), (4, .int .i64 ((2 ^ i : Nat) : Int))], H, c⟩ = some (.exit 2, ⟨E', H, c⟩) ∧ envOnly [0, 3, 4] E' = [(0, .ro t 32 R), (3, out), (4, .int .i64 ((2 ^ j : Nat) : Int))]
  | d, i, 0, hi, hk => by omega
  | 0, i, k + 1, hi, hk => by
    obtain rfl : i = j := by omega
    have e : 2 ^ (i + 1) = 2 * 2 ^ i := by rw [Nat.pow_succ]; omega
    have hb : 2 ^ i ≤ 2 ^ 20 := Nat.pow_le_pow_right (by omega) hj
    have hb3 : (2 : Nat) ^ 20 = 1048576 := rfl
    generalize 2 ^ i = p at *
    have w1 : IntKind.i64.wrap (2 * (p : Int)) = 2 * p := wrap_i64 _ (by omega) (by omega)
    have n1 : ¬ (2 * (p : Int) ≤ R.length) := by omega
    generalize (p : Int) = p' at *
    refine ⟨[(0, .ro t 32 R), (3, out), (4, .int .i64 p'), (8, .int .i64 p'), (9, .int .i64 (2 * p')), (10, .ro t 32 R), (11, .int .i64 R.length), (12, .bool false)], ?_, by simp⟩
    rw [iter_succ]
    simp -implicitDefEqProofs [b16_0, w1, n1, hH]
  | d + 1, i, k + 1, hi, hk => by
    obtain ⟨E', e, e2⟩ := loop16i Φ K c t R out H hH j hj h1 h2 d (i + 1) k (by omega) (by omega)
    refine ⟨E', ?_, e2⟩
    rw [← e]
    have hb : 2 ^ j ≤ 2 ^ 20 := Nat.pow_le_pow_right (by omega) hj
    have hb3 : (2 : Nat) ^ 20 = 1048576 := rfl
    have hb2 : 2 ^ (i + 1) ≤ 2 ^ j := Nat.pow_le_pow_right (by omega) (by omega)
    have e4 : 2 ^ (i + 1) = 2 * 2 ^ i := by rw [Nat.pow_succ]; omega
    rw [e4] at hb2 ⊢
    generalize 2 ^ i = p at *
    have w1 : IntKind.i64.wrap (2 * (p : Int)) = ((2 * p : Nat) : Int) := by rw [wrap_i64 _ (by omega) (by omega)]; omega
    have n1 : ((2 * p : Nat) : Int) ≤ R.length := by omega
    generalize ((2 * p : Nat) : Int) = q at *
    generalize (p : Int) = p' at *
    apply iter_norm
    simp -implicitDefEqProofs [b16_0, St.keep, w1, n1, hH]
theorem pk_top : ∀ (J j : Nat) (l : List Dg), j + 1 ≤ J → 2 ^ j ≤ l.length → l.length < 2 ^ (j + 1) → pk J l = perf j (l.take (2 ^ j)) :: pk j (l.drop (2 ^ j))
  | 0, j, l, hj, h1, h2 => by omega
  | J + 1, j, l, hj, h1, h2 => by
    by_cases e : j = J
    · subst e; rw [pk, if_pos h1]
    · have : 2 ^ (j + 1) ≤ 2 ^ J := Nat.pow_le_pow_right (by omega) (by omega)
      rw [pk, if_neg (by omega), pk_top J j l (by omega) h1 h2]
/-- what came out till now -/
def HQ (b : Bool) (gb : Nat) (R : List (List AV)) : AH := if b then [⟨21, gb, .arr 32 R false⟩] else []
def vQ (b : Bool) (gb : Nat) (R : List (List AV)) : AV := if b then .own 21 gb 0 R.length else .nilS
theorem step16 (Φ : Nat → Option FnF) (F : CallF) (G J Y) (h28 : Φ 28 = some ⟨F, G, J, Y⟩) (t : Bool) (R O : List (List AV)) (b : Bool) (hb : b = false → O = []) (gb c k p : Nat) (hp : p ≤ R.length) (hO : O.length ≤ 1000) (hR : R.length ≤ 1000) (D : List AV) (lD : D.length = 32) (pD : D.all AV.plain = true) (h0 : 0 < R.length)
    (f : F [.ro t 32 (R.take p)] = some (.agg D, []))
    (li : ∃ E', iter (ev Φ 3000 b16_0) [0, 3, 4] [21, 100000] 3000 ⟨[(0, .ro t 32 R), (3, vQ b gb O), (4, .int .i64 1)], HQ b gb O, c⟩ = some (.exit 2, ⟨E', HQ b gb O, c⟩) ∧ envOnly [0, 3, 4] E' = [(0, .ro t 32 R), (3, vQ b gb O), (4, .int .i64 p)]) :
    iter (ev Φ 3000 b16_1) [0, 3] [21, 100000] (k + 1) ⟨[(0, .ro t 32 R), (3, vQ b gb O)], HQ b gb O, c⟩ =
    iter (ev Φ 3000 b16_1) [0, 3] [21, 100000] k ⟨[(0, .ro t 32 (R.drop p)), (3, vQ true (c + 1) (O ++ [D]))], HQ true (c + 1) (O ++ [D]), c + 2⟩ := by
  obtain ⟨E', e1, e2⟩ := li
  have tD : D.take 32 = D := List.take_of_length_le (by omega)
  have z1 : z29.length = 32 := rfl
  have i0 : (0 : Int) < R.length := by omega
  have k1 : (p : Int) ≤ R.length := by omega
  have tR : R.take R.length = R := List.take_length
  have tO : O.take O.length = O := List.take_length
  have l9 : ¬ O.length + 1 ≤ O.length := by omega
  have m1 : (O.length + 1) * 32 ≤ maxBytes := by simp only [maxBytes]; omega
  have m0 : 32 ≤ maxBytes := by simp only [maxBytes]; omega
  apply iter_norm
  cases b
  · obtain rfl := hb rfl
    simp only [HQ, vQ, Bool.false_eq_true, if_false] at e1 e2 ⊢
    simp -implicitDefEqProofs [b16_1, St.keep, i0, h0]
    rw [iter_keep]
    simp
    rw [e1]
    simp -implicitDefEqProofs [e2, h28, f, k1, hp, tR, tD, lD, z1, m0, aappend, plains_in pD, plains_fz pD]
    exact ⟨_, _, ⟨rfl, rfl⟩, rfl, by simp, by simp, rfl⟩
  · simp only [HQ, vQ, ↓reduceIte] at e1 e2 ⊢
    simp -implicitDefEqProofs [b16_1, St.keep, i0, h0]
    rw [iter_keep]
    simp
    rw [e1]
    simp -implicitDefEqProofs [e2, h28, f, k1, hp, tR, tO, tD, lD, z1, l9, m1, aappend, plains_in pD, plains_fz pD]
    exact ⟨_, _, ⟨rfl, rfl⟩, rfl, by simp, by simp, rfl⟩
end Go.Abs.Tryd

namespace Go.Abs.Tryd
open Go Go.Abs Go.Abs.Sha
set_option maxHeartbeats 16000000
set_option maxRecDepth 100000
set_option linter.unusedSimpArgs false
set_option linter.unusedVariables false
theorem end16 (Φ : Nat → Option FnF) (v : AV) (hv : alen v = some 0) (O : List (List AV)) (b : Bool) (gb c k : Nat) :
    ∃ E', iter (ev Φ 3000 b16_1) [0, 3] [21, 100000] (k + 1) ⟨[(0, v), (3, vQ b gb O)], HQ b gb O, c⟩ = some (.exit 0, ⟨E', HQ b gb O, c⟩) ∧ envOnly [3] E' = [(3, vQ b gb O)] := by
  refine ⟨[(0, v), (3, vQ b gb O), (5, v), (6, .int .i64 0), (7, .bool false)], ?_, by simp⟩
  rw [iter_succ]
  cases b <;> simp -implicitDefEqProofs [b16_1, HQ, vQ, hv]
theorem loop16 (n : Nat) (t : Bool) : ∀ (J : Nat) (l : List Dg) (O : List Dg) (b : Bool) (gb c k : Nat), J ≤ 8 → l.length < 2 ^ J → J < k → All32 l → (b = false → O = []) → O.length + J ≤ 900 →
    ∃ E' b' gb' c', iter (ev (Q (n + 15)) 3000 b16_1) [0, 3] [21, 100000] k ⟨[(0, .ro t 32 (dr l)), (3, vQ b gb (dr O))], HQ b gb (dr O), c⟩ = some (.exit 0, ⟨E', HQ b' gb' (dr (O ++ pk J l)), c'⟩) ∧ envOnly [3] E' = [(3, vQ b' gb' (dr (O ++ pk J l)))] ∧ (b' = false → O ++ pk J l = [])
  | J, l, O, b, gb, c, 0, hJ, hl, hk, h, hb, hO => by omega
  | 0, l, O, b, gb, c, k + 1, hJ, hl, hk, h, hb, hO => by
    obtain rfl : l = [] := List.length_eq_zero_iff.1 (by simp at hl; exact List.length_eq_zero_iff.2 hl)
    obtain ⟨E', e1, e2⟩ := end16 (Q (n + 15)) (.ro t 32 (dr [])) rfl (dr O) b gb c k
    rw [pk_nil, List.append_nil]
    exact ⟨E', b, gb, c, e1, e2, hb⟩
  | J + 1, l, O, b, gb, c, k + 1, hJ, hl, hk, h, hb, hO => by
    have e2 : 2 ^ (J + 1) = 2 * 2 ^ J := by rw [Nat.pow_succ]; omega
    have hp : 0 < 2 ^ J := Nat.pow_pos (by omega)
    by_cases hs : 2 ^ J ≤ l.length
    · have hlt : (l.take (2 ^ J)).length = 2 ^ J := by rw [List.length_take]; omega
      have hr := root28 (n + 9 - J) J t (l.take (2 ^ J)) (by omega) hlt (all_take h _)
      rw [show n + 9 - J + 6 + J = n + 15 by omega, ← dr_take] at hr
      have hb8 : 2 ^ (J + 1) ≤ 2 ^ 8 := Nat.pow_le_pow_right (by omega) hJ
      have hb9 : (2 : Nat) ^ 8 = 256 := rfl
      have li := loop16i (Q (n + 15)) 3000 c t (dr l) (vQ b gb (dr O)) (HQ b gb (dr O)) (by cases b <;> simp [HQ]) J (by omega) (by rw [dr_len]; exact hs) (by rw [dr_len]; exact hl) J 0 3000 (by omega) (by omega)
      rw [show ((2 ^ 0 : Nat) : Int) = 1 from rfl] at li
      obtain ⟨E', l1, l2⟩ := li
      have st := step16 (Q (n + 15)) _ _ _ _ (q28 (n + 14)) t (dr l) (dr O) b (fun hb' => by rw [hb hb']; rfl) gb c k (2 ^ J) (by rw [dr_len]; exact hs) (by rw [dr_len]; omega) (by rw [dr_len]; omega) (u8s (perf J (l.take (2 ^ J)))) (by rw [u8s_len]; exact perf_len J (all_take h _) hlt) (u8s_plain _) (by rw [dr_len]; omega) hr ⟨E', l1, l2⟩
      have ed : dr O ++ [u8s (perf J (l.take (2 ^ J)))] = dr (O ++ [perf J (l.take (2 ^ J))]) := by simp [dr]
      rw [dr_drop, ed] at st
      obtain ⟨E2, b', gb', c', r1, r2, r3⟩ := loop16 n t J (l.drop (2 ^ J)) (O ++ [perf J (l.take (2 ^ J))]) true (c + 1) (c + 2) k (by omega) (by rw [List.length_drop]; omega) (by omega) (all_drop h _) (fun h => by cases h) (by rw [List.length_append, List.length_singleton]; omega)
      have ep : O ++ [perf J (l.take (2 ^ J))] ++ pk J (l.drop (2 ^ J)) = O ++ pk (J + 1) l := by
        rw [pk, if_pos hs]; simp
      rw [ep] at r1 r2 r3
      exact ⟨E2, b', gb', c', by rw [st]; exact r1, r2, r3⟩
    · have ep : pk (J + 1) l = pk J l := by rw [pk, if_neg hs]
      rw [ep]
      exact loop16 n t J l O b gb c (k + 1) (by omega) (by omega) (by omega) h hb (by omega)
theorem of16_of (Φ : Nat → Option FnF) (v : AV) (L : List Dg) (hv : LD L v) (O : List (List AV)) (b : Bool) (gb c' : Nat) (E' : Env) (e : iter (ev Φ 3000 b16_1) [0, 3] [21, 100000] 3000 ⟨[(0, v), (3, .nilS)], [], 0⟩ = some (.exit 0, ⟨E', HQ b gb O, c'⟩)) (e2 : envOnly [3] E' = [(3, vQ b gb O)]) :
    evFun Φ 3000 a16 [v] = some (if b then .fr 32 O else .nilS, []) := by
  have tO : O.take O.length = O := List.take_length
  refine fun_of (q := ([v], [], 0)) (by simp [a16]) (by simp -implicitDefEqProofs [hv.cell, hv.val]) (e := .ret) (s' := ⟨[(2, vQ b gb O), (3, vQ b gb O), (25, vQ b gb O)], HQ b gb O, c'⟩) ?_ (.inr rfl) (by cases b <;> simp -implicitDefEqProofs [a16, HQ, vQ, tO])
  show ev Φ 3000 c16 ⟨[(0, v)], [], 0⟩ = _
  unfold c16
  refine ev_seqN (s1 := ⟨[(0, v), (2, .nilS)], [], 0⟩) (by simp) ?_
  refine ev_seqN (s1 := ⟨[(0, v), (2, .nilS), (3, .nilS)], [], 0⟩) (by simp) ?_
  refine ev_seqN (ev_blockL (by simp [St.keep]) e) ?_
  refine ev_keepN ?_
  rw [e2]
  cases b <;> simp [HQ, vQ]
theorem of16 (n : Nat) (v : AV) (L : List Dg) (hv : LD L v) (hL : All32 L) (hb : L.length ≤ 200) : E (n + 16) 16 [v] = some (frD (pk 8 L), []) := by
  rw [e16]
  by_cases h0 : L = []
  · subst h0
    obtain ⟨E', e1, e2⟩ := end16 (Q (n + 15)) v hv.len [] false 0 0 2999
    have := of16_of (Q (n + 15)) v [] hv [] false 0 0 E' e1 e2
    rw [this, pk_nil]; rfl
  · obtain ⟨t, rfl⟩ : ∃ t, v = .ro t 32 (dr L) := by rcases hv with ⟨_, h⟩ | ⟨_, h⟩ | h; exact absurd h h0; exact absurd h h0; exact h
    obtain ⟨E', b', gb', c', r1, r2, r3⟩ := loop16 n t 8 L [] false 0 0 3000 (Nat.le_refl _) (by omega) (by omega) hL (fun _ => rfl) (by simp)
    rw [List.nil_append] at r1 r2 r3
    have := of16_of (Q (n + 15)) (.ro t 32 (dr L)) L hv (dr (pk 8 L)) b' gb' c' E' r1 r2
    rw [this]
    unfold frD
    cases b'
    · rw [r3 rfl]; rfl
    · by_cases hp : pk 8 L = []
      · have hl := pk_len 8 L (by omega)
        rw [hp] at hl
        have : ∀ (k y : Nat), y < 2 ^ k → y ≠ 0 → pop y ≠ 0 := by
          intro k
          induction k with
          | zero => intro y h1 h2; omega
          | succ k ih =>
            intro y h1 h2 h3
            rw [pop_pos h2] at h3
            rw [Nat.pow_succ] at h1
            by_cases h4 : y / 2 = 0
            · omega
            · exact ih (y / 2) (by omega) h4 (by omega)
        exact absurd hl.symm (this 8 L.length (by omega) (fun h => h0 (List.length_eq_zero_iff.1 h)))
      · rw [if_neg hp]; rfl
theorem law4_long (Φ : Nat → Option FnF) (v : AV) (P : List Dg) (hv : LD P v) (hn : 200 < P.length) : evFun Φ 3000 a4 [v] = some (.bool true, []) := by
  have hl := hv.len
  have n1 : (200 : Int) < P.length := by omega
  simp -implicitDefEqProofs [a4, c4, hl, n1, hn, hv.cell, hv.val]
theorem law4_of (Φ : Nat → Option FnF) (F8 F13 F14 F15 F16 : CallF) {G8 J8 Y8 G13 J13 Y13 G14 J14 Y14 G15 J15 Y15 G16 J16 Y16} (h8 : Φ 8 = some ⟨F8, G8, J8, Y8⟩) (h13 : Φ 13 = some ⟨F13, G13, J13, Y13⟩) (h14 : Φ 14 = some ⟨F14, G14, J14, Y14⟩) (h15 : Φ 15 = some ⟨F15, G15, J15, Y15⟩) (h16 : Φ 16 = some ⟨F16, G16, J16, Y16⟩)
    (v own w x y : AV) (P : List Dg) (hv : LD P v) (hn : P.length ≤ 200) (R O : List (List AV)) (how : (own = .nilS ∧ w = .nilS) ∨ (own = .fr 32 R ∧ w = .ro true 32 R)) (hox : (x = .nilS ∧ y = .nilS) ∨ (x = .fr 32 O ∧ y = .ro true 32 O))
    (c8 : F8 [v] = some (own, [])) (c15 : F15 [v] = some (.tup [.agg [.int .i64 P.length, x], .int .i64 0], [])) (c16 : F16 [w] = some (x, [])) (c13 : F13 [] = some (.bool true, [])) (c14 : F14 [y, y] = some (.bool true, [])) (c14' : F14 [v, w] = some (.bool true, [])) :
    evFun Φ 3000 a4 [v] = some (.bool true, []) := by
  have hl := hv.len
  have n1 : ¬ (200 : Int) < P.length := by omega
  have tk : R.take R.length = R := List.take_length
  have tO : O.take O.length = O := List.take_length
  rcases how with ⟨rfl, rfl⟩ | ⟨rfl, rfl⟩ <;> rcases hox with ⟨rfl, rfl⟩ | ⟨rfl, rfl⟩ <;>
  simp -implicitDefEqProofs [a4, c4, h8, h13, h14, h15, h16, c8, c13, c14, c14', c15, c16, hl, n1, tk, tO, z25, hv.cell, hv.val, hv.cb, hv.cells1, hv.ld, hv.ldc, hv.mv, hv.low1, hv.low]
theorem law4 (x0 : AV) (o0 : okRow [.sl (List.replicate 32 (.int .u8))] [x0]) : E 17 4 [x0] = some (.bool true, []) := by
  obtain ⟨P, hP, hv, _⟩ := ok_peaks o0
  rw [e4]
  by_cases hn : 200 < P.length
  · exact law4_long (Q 16) x0 P hv hn
  · have hn' : P.length ≤ 200 := by omega
    obtain ⟨w, hw, how⟩ := frD_lent P
    have eq := ofL_pk 8 P [] (by simp; omega)
    rw [pk_nil, List.nil_append, List.length_nil] at eq
    have c15 := of15 8 x0 P hv hP (by omega)
    rw [eq] at c15
    have c16 := of16 0 w P hw hP hn'
    have h32 : All32 (pk 8 P) := by rw [← eq]; exact ofL_32 P 0 (fun d hd => by cases hd) hP
    obtain ⟨y, hy, hxy⟩ := frD_lent (pk 8 P)
    have hpl : (pk 8 P).length ≤ 12 := by rw [pk_len 8 P (by omega)]; exact pop_le 12 _ (by omega)
    have c14 := digests14 15 y y _ _ h32 h32 hy hy (by omega)
    rw [decide_eq_true rfl] at c14
    have c14' := digests14 15 x0 w P P hP hP hv hw (by omega)
    rw [decide_eq_true rfl] at c14'
    exact law4_of (Q 16) _ _ _ _ _ (q8 15) (q13 15) (q14 15) (q15 15) (q16 15) x0 (frD P) w (frD (pk 8 P)) y P hv hn' (dr P) (dr (pk 8 P)) how hxy (own8 15 x0 P hv (by omega)) c15 c16 (rows13 7) c14 c14'
theorem ref4 : Refines Go.Proofs.Tryd.prog 4 (E 17 4) := ref 17 4 (q4 16)
end Go.Abs.Tryd
