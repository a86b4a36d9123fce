/- Part 2 of Ce: what our evaluation of a function's code says, the machine's run does; no condition of its own. -/
import Derived.Test.YtaikibmgchjbdaaCeA
set_option linter.unusedVariables false
set_option linter.unusedSimpArgs false
set_option linter.unusedSectionVars false
namespace Go.Abs.Try
open Go Go.Abs
set_option maxHeartbeats 16000000
set_option maxRecDepth 100000
set_option linter.unusedSimpArgs false
set_option linter.unusedVariables false
def posFrom (a : Ad) (L : List Ad) : Nat → Nat → Option Nat
  | _, 0 => none
  | i, d + 1 => if lt2 a (gA L i) then some i else posFrom a L (i + 1) d
theorem pos_lt {a : Ad} {L : List Ad} : ∀ {d i j : Nat}, posFrom a L i d = some j → j < i + d
  | 0, i, j, h => by simp [posFrom] at h
  | d + 1, i, j, h => by
    unfold posFrom at h
    split at h
    · obtain rfl := Option.some.inj h; omega
    · have := pos_lt h; omega
/-- where a comes -/
def posA (a : Ad) (L : List Ad) : Nat := (posFrom a L 0 L.length).getD L.length
theorem posA_le (a : Ad) (L : List Ad) : posA a L ≤ L.length := by
  unfold posA
  cases h : posFrom a L 0 L.length with
  | none => simp
  | some j => have := pos_lt h; simp; omega
def H30 (g3 g5 : Nat) (a : Ad) (R : List (List AV)) : AH := [⟨3, g3, .var [.int .i64 a.1, .int .i64 a.2]⟩, ⟨9000, g5, .arr 2 R false⟩]
theorem step30 (n : Nat) (R : List (List AV)) (len i c k g3 g5 : Nat) (hl : R.length = len) (hi : i < len) (hb : len ≤ 100000) (x y : Int) (r1 : R[i]? = some [.int .i64 x, .int .i64 y]) (a : Ad) (b : Bool)
    (c31 : E (n + 1) 31 [.agg [.int .i64 x, .int .i64 y], .pv [.int .i64 a.1, .int .i64 a.2]] = some (.bool b, [[.int .i64 a.1, .int .i64 a.2]])) :
    if b then ∃ E', iter (ev (Q (n + 1)) 3000 b30i_0) [0, 1, 7, 8] kh30i_0 (k + 1) ⟨[(0, .own 9000 g5 0 len), (1, .fn 31 [.ptr 3 g3 0]), (7, .int .i64 len), (8, .int .i64 i)], H30 g3 g5 a R, c⟩ = some (.ret, ⟨E', H30 g3 g5 a R, c⟩) ∧ envGet E' 4 = some (.int .i64 i)
    else iter (ev (Q (n + 1)) 3000 b30i_0) [0, 1, 7, 8] kh30i_0 (k + 1) ⟨[(0, .own 9000 g5 0 len), (1, .fn 31 [.ptr 3 g3 0]), (7, .int .i64 len), (8, .int .i64 i)], H30 g3 g5 a R, c⟩ = iter (ev (Q (n + 1)) 3000 b30i_0) [0, 1, 7, 8] kh30i_0 k ⟨[(0, .own 9000 g5 0 len), (1, .fn 31 [.ptr 3 g3 0]), (7, .int .i64 len), (8, .int .i64 ((i + 1 : Nat) : Int))], H30 g3 g5 a R, c⟩ := by
  have i1 : (i : Int) < (len : Int) := by omega
  have il : i < R.length := by omega
  have r1' := (List.getElem?_eq_some_iff.1 r1).2
  have w1 : IntKind.i64.wrap ((i : Int) + 1) = ((i + 1 : Nat) : Int) := by rw [wrap_i64 _ (by omega) (by omega)]; omega
  generalize ((i + 1 : Nat) : Int) = j at *
  unfold H30
  cases b
  · simp only [Bool.false_eq_true, ↓reduceIte]
    apply iter_norm
    simp -implicitDefEqProofs [b30i_0, kh30i_0, St.keep, q31, c31, hi, i1, il, hl, r1, r1', w1]
  · simp only [↓reduceIte]
    rw [iter_succ]
    simp -implicitDefEqProofs [b30i_0, kh30i_0, q31, c31, hi, i1, il, hl, r1, r1', w1]
theorem loop30 (n : Nat) (L : List Ad) (hb : L.length ≤ 2900) (a : Ad) (c g3 g5 : Nat) : ∀ (d i k : Nat), i + d = L.length → d < k →
    ∃ E', match posFrom a L i d with
      | some j => iter (ev (Q (n + 3)) 3000 b30i_0) [0, 1, 7, 8] kh30i_0 k ⟨[(0, .own 9000 g5 0 L.length), (1, .fn 31 [.ptr 3 g3 0]), (7, .int .i64 L.length), (8, .int .i64 i)], H30 g3 g5 a (ar L), c⟩ = some (.ret, ⟨E', H30 g3 g5 a (ar L), c⟩) ∧ envGet E' 4 = some (.int .i64 j)
      | none => iter (ev (Q (n + 3)) 3000 b30i_0) [0, 1, 7, 8] kh30i_0 k ⟨[(0, .own 9000 g5 0 L.length), (1, .fn 31 [.ptr 3 g3 0]), (7, .int .i64 L.length), (8, .int .i64 i)], H30 g3 g5 a (ar L), c⟩ = some (.exit 0, ⟨E', H30 g3 g5 a (ar L), c⟩)
  | d, i, 0, hi, hk => by omega
  | 0, i, k + 1, hi, hk => by
    have n1 : ¬ ((i : Int) < (L.length : Int)) := by omega
    simp only [posFrom]
    unfold H30
    rw [iter_succ]
    simp -implicitDefEqProofs [b30i_0, kh30i_0, n1]
  | d + 1, i, k + 1, hi, hk => by
    have hil : i < L.length := by omega
    obtain ⟨E', ih⟩ := loop30 n L hb a c g3 g5 d (i + 1) k (by omega) (by omega)
    have st := step30 (n + 2) (ar L) L.length i c k g3 g5 (ar_len L) hil (by omega) (gA L i).1 (gA L i).2 (ar_get hil) a _ (close31 n (gA L i) a)
    rw [posFrom]
    cases hh : lt2 a (gA L i)
    · rw [hh] at st
      simp only [Bool.false_eq_true, ↓reduceIte] at st ⊢
      rw [st]
      exact ⟨E', ih⟩
    · rw [hh] at st
      simp only [↓reduceIte] at st ⊢
      exact st
def idxP : Option Nat → Int
  | some j => j
  | none => -1
theorem inl30 (n : Nat) (L : List Ad) (hb : L.length ≤ 2900) (a : Ad) (c g3 g5 : Nat) :
    I (n + 4) 30 (H30 g3 g5 a (ar L)) c [.own 9000 g5 0 L.length, .fn 31 [.ptr 3 g3 0]] = some (.int .i64 (idxP (posFrom a L 0 L.length)), H30 g3 g5 a (ar L), c) := by
  rw [i30]
  obtain ⟨E', lp⟩ := loop30 n L hb a c g3 g5 L.length 0 3000 (by omega) (by omega)
  rw [show ((0 : Nat) : Int) = 0 from rfl] at lp
  have hk : (H30 g3 g5 a (ar L)).only kh30i_0 = H30 g3 g5 a (ar L) := by simp [H30, kh30i_0]
  generalize hH : H30 g3 g5 a (ar L) = HH at *
  cases hf : posFrom a L 0 L.length with
  | some j =>
    rw [hf] at lp
    obtain ⟨e1, e2⟩ := lp
    simp -implicitDefEqProofs [a30i, c30i, hk, evInl, idxP]
    rw [iter_keep]; simp -implicitDefEqProofs [hk]
    rw [e1]; simp -implicitDefEqProofs [e2]
  | none =>
    rw [hf] at lp
    simp -implicitDefEqProofs [a30i, c30i, hk, evInl, idxP]
    rw [iter_keep]; simp -implicitDefEqProofs [hk]
    rw [lp]; simp -implicitDefEqProofs [hk]
theorem inl30_nil (n : Nat) (u : AV) (hu : alen u = some 0) (H : AH) (hH : H.only kh30i_0 = H) (c : Nat) (f : AV) : I (n + 1) 30 H c [u, f] = some (.int .i64 (-1), H, c) := by
  rw [i30]
  simp -implicitDefEqProofs [a30i, c30i, hu, hH, evInl]
  rw [iter_succ]
  simp -implicitDefEqProofs [b30i_0, hH]
/-- a row with one more -/
def addA (a : Ad) (L : List Ad) : List Ad := if a ∈ L then L else L.take (posA a L) ++ a :: L.drop (posA a L)
theorem add10_in (Φ : Nat → Option FnF) (F28 F29 : CallF) {G28 J28 Y28 G29 J29 Y29} (h28 : Φ 28 = some ⟨F28, G28, J28, Y28⟩) (h29 : Φ 29 = some ⟨F29, G29, J29, Y29⟩) (t : Bool) (R : List (List AV)) (x y : Int)
    (c28 : F28 [.ro t 2 R] = some (.fr 2 R, [])) (c29 : F29 [.ro t 2 R, .agg [.int .i64 x, .int .i64 y]] = some (.bool true, [])) : evFun Φ 3000 a10 [.ro t 2 R, .agg [.int .i64 x, .int .i64 y]] = some (.fr 2 R, []) := by
  have tR : R.take R.length = R := List.take_length
  simp -implicitDefEqProofs [a10, c10, h28, h29, c28, c29, tR]
theorem add10_nil (Φ : Nat → Option FnF) (F28 F29 F30 F34 : CallF) {G28 J28 Y28 G29 J29 Y29} {G30 : InlF} {J30 Y30 G34 J34 Y34} (h28 : Φ 28 = some ⟨F28, G28, J28, Y28⟩) (h29 : Φ 29 = some ⟨F29, G29, J29, Y29⟩) (h30 : Φ 30 = some ⟨F30, G30, J30, Y30⟩) (h34 : Φ 34 = some ⟨F34, G34, J34, Y34⟩)
    (v u : AV) (hv : LS 2 [] v) (hu : u = .nilS ∨ u = .emp) (x y : Int) (W : List (List AV))
    (c28 : F28 [v] = some (u, [])) (c29 : F29 [v, .agg [.int .i64 x, .int .i64 y]] = some (.bool false, [])) (c30 : ∀ H c f, AH.only kh30i_0 H = H → G30 H c [u, f] = some (.int .i64 (-1), H, c)) (c34 : F34 [u, .int .i64 0, .fr 2 [[.int .i64 x, .int .i64 y]]] = some (.fr 2 W, [])) :
    evFun Φ 3000 a10 [v, .agg [.int .i64 x, .int .i64 y]] = some (.fr 2 W, []) := by
  have tW : W.take W.length = W := List.take_length
  have z1 : z24.length = 2 := rfl
  have c30' := c30 [⟨3, 0, .var [.int .i64 x, .int .i64 y]⟩] 1 (.fn 31 [.ptr 3 0 0]) (by simp [kh30i_0])
  rcases hu with rfl | rfl <;>
  simp -implicitDefEqProofs [a10, c10, h28, h29, h30, h34, c28, c29, c30', c34, tW, hv.cell, hv.val, hv.cb, hv.ld, hv.ldc, hv.mv, z24]
theorem add10_new (Φ : Nat → Option FnF) (F28 F29 F30 F34 : CallF) {G28 J28 Y28 G29 J29 Y29} {G30 : InlF} {J30 Y30 G34 J34 Y34} (h28 : Φ 28 = some ⟨F28, G28, J28, Y28⟩) (h29 : Φ 29 = some ⟨F29, G29, J29, Y29⟩) (h30 : Φ 30 = some ⟨F30, G30, J30, Y30⟩) (h34 : Φ 34 = some ⟨F34, G34, J34, Y34⟩)
    (t : Bool) (R : List (List AV)) (hb : R.length ≤ 100000) (a : Ad) (o : Option Nat) (W : List (List AV))
    (c28 : F28 [.ro t 2 R] = some (.fr 2 R, [])) (c29 : F29 [.ro t 2 R, .agg [.int .i64 a.1, .int .i64 a.2]] = some (.bool false, [])) (c30 : G30 (H30 0 1 a R) 2 [.own 9000 1 0 R.length, .fn 31 [.ptr 3 0 0]] = some (.int .i64 (idxP o), H30 0 1 a R, 2))
    (c34 : F34 [.fr 2 R, .int .i64 ((o.getD R.length : Nat) : Int), .fr 2 [[.int .i64 a.1, .int .i64 a.2]]] = some (.fr 2 W, [])) :
    evFun Φ 3000 a10 [.ro t 2 R, .agg [.int .i64 a.1, .int .i64 a.2]] = some (.fr 2 W, []) := by
  have tW : W.take W.length = W := List.take_length
  have tR : R.take R.length = R := List.take_length
  unfold H30 at c30
  cases o with
  | none =>
    simp only [idxP, Option.getD_none] at c30 c34
    simp -implicitDefEqProofs [a10, c10, h28, h29, h30, h34, c28, c29, c30, c34, tW, tR, z24]
  | some j =>
    simp only [idxP, Option.getD_some] at c30 c34
    have n1 : ¬ ((j : Int) < 0) := by omega
    simp -implicitDefEqProofs [a10, c10, h28, h29, h30, h34, c28, c29, c30, c34, n1, tW, tR, z24]
end Go.Abs.Try

namespace Go.Abs.Try
open Go Go.Abs
set_option maxHeartbeats 16000000
set_option maxRecDepth 100000
set_option linter.unusedSimpArgs false
set_option linter.unusedVariables false
theorem ar_ins (a : Ad) (L : List Ad) (p : Nat) : (ar L).take p ++ av a :: (ar L).drop p = ar (L.take p ++ a :: L.drop p) := by
  unfold ar
  rw [List.map_append, List.map_cons, List.map_take, List.map_drop]
theorem add10 (n : Nat) (v : AV) (L : List Ad) (hv : LS 2 (ar L) v) (hb : L.length ≤ 2900) (a : Ad) : E (n + 6) 10 [v, .agg (av a)] = some (.fr 2 (ar (addA a L)), []) := by
  rw [e10]
  have c28 := clone28 (n + 4) v L hv (by omega)
  have c29 := contains29 (n + 3) v L hv hb a
  unfold addA
  by_cases h0 : L = []
  · subst h0
    rw [if_neg (by simp)]
    refine add10_nil (Q (n + 5)) _ _ _ _ (q28 (n + 4)) (q29 (n + 4)) (q30 (n + 4)) (q34 (n + 4)) v (clA v []) hv ?_ a.1 a.2 _ c28 (by rw [decide_eq_false (by simp)] at c29; exact c29) ?_ ?_
    · rcases hv with ⟨rfl, _⟩ | ⟨rfl, _⟩ | ⟨t, rfl⟩
      · exact .inl rfl
      · exact .inr rfl
      · exact .inr rfl
    · intro H c f hH
      refine inl30_nil (n + 4) _ ?_ H hH c f
      rcases hv with ⟨rfl, _⟩ | ⟨rfl, _⟩ | ⟨t, rfl⟩ <;> rfl
    · show insF 2 [clA v [], .int .i64 0, .fr 2 [av a]] = _
      rcases hv with ⟨rfl, _⟩ | ⟨rfl, _⟩ | ⟨t, rfl⟩ <;> simp [insF, clA, ar]
  · obtain ⟨t, rfl⟩ := hv.ro (by simpa [ar] using h0)
    have c28 : E (n + 5) 28 [.ro t 2 (ar L)] = some (.fr 2 (ar L), []) := by rw [c28]; simp [clA, h0]
    by_cases hm : a ∈ L
    · rw [if_pos hm]
      rw [decide_eq_true hm] at c29
      exact add10_in (Q (n + 5)) _ _ (q28 (n + 4)) (q29 (n + 4)) t (ar L) a.1 a.2 c28 c29
    · rw [if_neg hm]
      rw [decide_eq_false hm] at c29
      have hp := posA_le a L
      have hc : insF 2 [.fr 2 (ar L), .int .i64 (((posFrom a L 0 L.length).getD (ar L).length : Nat) : Int), .fr 2 [[.int .i64 a.1, .int .i64 a.2]]] = some (.fr 2 (ar (L.take (posA a L) ++ a :: L.drop (posA a L))), []) := by
        rw [← ar_ins]
        have e : (posFrom a L 0 L.length).getD (ar L).length = posA a L := by rw [ar_len]; rfl
        rw [e]
        have h1 : posA a L ≤ (ar L).length := by rw [ar_len]; exact hp
        have h2 : (ar L).length ≤ 100000 := by rw [ar_len]; omega
        simp [insF, h1, h2, av]
      have c30 := inl30 (n + 1) L hb a 2 0 1
      rw [← ar_len L] at c30
      rw [ar_len] at c30
      exact add10_new (Q (n + 5)) _ _ _ _ (q28 (n + 4)) (q29 (n + 4)) (q30 (n + 4)) (q34 (n + 4)) t (ar L) (by rw [ar_len]; omega) a (posFrom a L 0 L.length) _ c28 c29 (by rw [ar_len]; exact c30) hc
theorem step11 (Φ : Nat → Option FnF) (ta tb : Bool) (R S : List (List AV)) (i c k len : Nat) (hl : R.length = len) (hm : S.length = len) (hi : i < len) (hb : len ≤ 100000) (x y u v : Int) (r1 : R[i]? = some [.int .i64 x, .int .i64 y]) (r2 : S[i]? = some [.int .i64 u, .int .i64 v]) :
    if decide ((x, y) = (u, v)) then iter (ev Φ 3000 b11_0) [0, 1, 5] [100000, 100200] (k + 1) ⟨[(0, .ro ta 2 R), (1, .ro tb 2 S), (5, .int .i64 i)], [], c⟩ = iter (ev Φ 3000 b11_0) [0, 1, 5] [100000, 100200] k ⟨[(0, .ro ta 2 R), (1, .ro tb 2 S), (5, .int .i64 ((i + 1 : Nat) : Int))], [], c⟩
    else ∃ E', iter (ev Φ 3000 b11_0) [0, 1, 5] [100000, 100200] (k + 1) ⟨[(0, .ro ta 2 R), (1, .ro tb 2 S), (5, .int .i64 i)], [], c⟩ = some (.ret, ⟨E', [], c⟩) ∧ envGet E' 4 = some (.bool false) := by
  have i1 : (i : Int) < (len : Int) := by omega
  have il : i < R.length := by omega
  have il2 : i < S.length := by omega
  have r1' := (List.getElem?_eq_some_iff.1 r1).2
  have r2' := (List.getElem?_eq_some_iff.1 r2).2
  have w1 : IntKind.i64.wrap ((i : Int) + 1) = ((i + 1 : Nat) : Int) := by rw [wrap_i64 _ (by omega) (by omega)]; omega
  have hq := aeq2 x y u v
  generalize ((i + 1 : Nat) : Int) = j at *
  cases hb2 : decide ((x, y) = (u, v))
  · rw [hb2] at hq
    simp only [Bool.false_eq_true, ↓reduceIte]
    rw [iter_succ]
    simp -implicitDefEqProofs [-aeqCells, b11_0, hi, i1, il, il2, hl, hm, r1, r1', r2, r2', w1, hq]
  · rw [hb2] at hq
    simp only [↓reduceIte]
    apply iter_norm
    simp -implicitDefEqProofs [-aeqCells, b11_0, St.keep, hi, i1, il, il2, hl, hm, r1, r1', r2, r2', w1, hq]
theorem loop11 (Φ : Nat → Option FnF) (ta tb : Bool) (A B : List Ad) (hl : A.length = B.length) (hb : A.length ≤ 2900) (c : Nat) : ∀ (d i k : Nat), i + d = A.length → d < k →
    if A.drop i = B.drop i then ∃ E', iter (ev Φ 3000 b11_0) [0, 1, 5] [100000, 100200] k ⟨[(0, .ro ta 2 (ar A)), (1, .ro tb 2 (ar B)), (5, .int .i64 i)], [], c⟩ = some (.exit 0, ⟨E', [], c⟩)
    else ∃ E', iter (ev Φ 3000 b11_0) [0, 1, 5] [100000, 100200] k ⟨[(0, .ro ta 2 (ar A)), (1, .ro tb 2 (ar B)), (5, .int .i64 i)], [], c⟩ = some (.ret, ⟨E', [], c⟩) ∧ envGet E' 4 = some (.bool false)
  | d, i, 0, hi, hk => by omega
  | 0, i, k + 1, hi, hk => by
    have n1 : ¬ ((i : Int) < (A.length : Int)) := by omega
    have n2 : ¬ (i < A.length) := by omega
    have la := ar_len A
    rw [if_pos (by rw [List.drop_of_length_le (by omega), List.drop_of_length_le (by omega)]), iter_succ]
    simp -implicitDefEqProofs [b11_0, n1, n2, la]
  | d + 1, i, k + 1, hi, hk => by
    have ia : i < A.length := by omega
    have ib : i < B.length := by omega
    have ih := loop11 Φ ta tb A B hl hb c d (i + 1) k (by omega) (by omega)
    have st := step11 Φ ta tb (ar A) (ar B) i c k A.length (ar_len A) (by rw [ar_len, hl]) ia (by omega) _ _ _ _ (ar_get ia) (ar_get ib)
    have da : A.drop i = gA A i :: A.drop (i + 1) := by rw [gA_of ia]; exact List.drop_eq_getElem_cons ia
    have db : B.drop i = gA B i :: B.drop (i + 1) := by rw [gA_of ib]; exact List.drop_eq_getElem_cons ib
    by_cases he : gA A i = gA B i
    · rw [he] at st
      simp only [decide_true, ↓reduceIte] at st
      rw [st]
      have hcond : (A.drop i = B.drop i) = (A.drop (i + 1) = B.drop (i + 1)) := by rw [da, db, he, List.cons.injEq]; exact propext ⟨fun h => h.2, fun h => ⟨rfl, h⟩⟩
      simp only [hcond]
      exact ih
    · have he2 : ¬ (((gA A i).1, (gA A i).2) = ((gA B i).1, (gA B i).2)) := he
      simp only [he2, decide_false, Bool.false_eq_true, ↓reduceIte] at st
      rw [if_neg (by rw [da, db, List.cons.injEq]; exact fun h => he h.1)]
      exact st
theorem addrs11 (n : Nat) (a b : AV) (A B : List Ad) (ha : LS 2 (ar A) a) (hb : LS 2 (ar B) b) (hn : A.length ≤ 2900) : E (n + 1) 11 [a, b] = some (.bool (decide (A = B)), []) := by
  rw [e11]
  have la := ha.len
  have lb := hb.len
  rw [ar_len] at la lb
  by_cases hl : A.length = B.length
  · by_cases h0 : A = []
    · subst h0
      have h1 : B = [] := by cases B with | nil => rfl | cons x r => simp at hl
      subst h1
      have la : alen a = some 0 := la
      have lb : alen b = some 0 := lb
      simp -implicitDefEqProofs [a11, c11, la, lb, ha.cell, ha.val, hb.cell, hb.val]
      rw [iter_succ]
      simp -implicitDefEqProofs [b11_0, la]
    · have h1 : B ≠ [] := by rintro rfl; cases A with | nil => exact h0 rfl | cons x r => simp at hl
      obtain ⟨ta, rfl⟩ := ha.ro (by simpa [ar] using h0)
      obtain ⟨tb, rfl⟩ := hb.ro (by simpa [ar] using h1)
      have lp := loop11 (Q n) ta tb A B hl hn 0 A.length 0 3000 (by omega) (by omega)
      rw [show ((0 : Nat) : Int) = 0 from rfl, List.drop_zero, List.drop_zero] at lp
      have lra := ar_len A
      have lrb := ar_len B
      generalize ar A = RA at *
      generalize ar B = RB at *
      by_cases he : A = B
      · rw [if_pos he] at lp
        obtain ⟨E', e⟩ := lp
        simp -implicitDefEqProofs [a11, c11, lra, lrb, hl, he]
        rw [iter_keep]; simp -implicitDefEqProofs
        rw [e]; simp -implicitDefEqProofs
      · rw [if_neg he] at lp
        obtain ⟨E', e, e2⟩ := lp
        simp -implicitDefEqProofs [a11, c11, lra, lrb, hl, he]
        rw [iter_keep]; simp -implicitDefEqProofs
        rw [e]; simp -implicitDefEqProofs [e2]
  · have h1 : ¬ ((A.length : Int) = B.length) := by omega
    have h2 : ((A.length : Int) == B.length) = false := by rw [beq_eq_false_iff_ne]; exact h1
    have h3 : ((A.length : Int) != B.length) = true := by simp only [bne, h2, Bool.not_false]
    have h4 : ¬ A = B := by rintro rfl; exact hl rfl
    simp -implicitDefEqProofs [a11, c11, la, lb, h1, h2, h3, h4, ha.val, ha.cell, hb.val, hb.cell]
end Go.Abs.Try

namespace Go.Abs.Try
open Go Go.Abs
set_option maxHeartbeats 16000000
set_option maxRecDepth 100000
set_option linter.unusedSimpArgs false
set_option linter.unusedVariables false
theorem step17 (Φ : Nat → Option FnF) (t : Bool) (R : List (List AV)) (len i c k : Nat) (hl : R.length = len) (h1 : 1 ≤ i) (hi : i < len) (hb : len ≤ 100000) (x y u v : Int) (r1 : R[i - 1]? = some [.int .i64 x, .int .i64 y]) (r2 : R[i]? = some [.int .i64 u, .int .i64 v]) :
    if lt2 (x, y) (u, v) then iter (ev Φ 3000 b17_0) [0, 3] [100000] (k + 1) ⟨[(0, .ro t 2 R), (3, .int .i64 i)], [], c⟩ = iter (ev Φ 3000 b17_0) [0, 3] [100000] k ⟨[(0, .ro t 2 R), (3, .int .i64 ((i + 1 : Nat) : Int))], [], c⟩
    else ∃ E', iter (ev Φ 3000 b17_0) [0, 3] [100000] (k + 1) ⟨[(0, .ro t 2 R), (3, .int .i64 i)], [], c⟩ = some (.ret, ⟨E', [], c⟩) ∧ envGet E' 2 = some (.bool false) := by
  have i1 : (i : Int) < (len : Int) := by omega
  have il : i < R.length := by omega
  have il2 : i - 1 < R.length := by omega
  have r1' := (List.getElem?_eq_some_iff.1 r1).2
  have r2' := (List.getElem?_eq_some_iff.1 r2).2
  have w1 : IntKind.i64.wrap ((i : Int) + 1) = ((i + 1 : Nat) : Int) := by rw [wrap_i64 _ (by omega) (by omega)]; omega
  have w2 : IntKind.i64.wrap ((i : Int) - 1) = ((i - 1 : Nat) : Int) := by rw [wrap_i64 _ (by omega) (by omega)]; omega
  generalize ((i + 1 : Nat) : Int) = j at *
  unfold lt2
  by_cases a1 : x < u
  · have a2 : ¬ u < x := by omega
    have a3 : ¬ x = u := by omega
    have a4 : (x == u) = false := by simpa using a3
    simp only [a1, decide_true, Bool.true_or, ↓reduceIte]
    apply iter_norm
    simp -implicitDefEqProofs [b17_0, St.keep, hi, i1, il, il2, hl, r1, r1', r2, r2', w1, w2, a1, a2, a3, a4]
  · by_cases a2 : u < x
    · have a3 : ¬ x = u := by omega
      simp only [a1, a3, decide_false, Bool.false_or, Bool.false_and, Bool.false_eq_true, ↓reduceIte]
      rw [iter_succ]
      simp -implicitDefEqProofs [b17_0, hi, i1, il, il2, hl, r1, r1', r2, r2', w1, w2, a1, a2, a3]
    · obtain rfl : x = u := by omega
      by_cases b1 : y < v
      · have b2 : ¬ v ≤ y := by omega
        simp only [a1, b1, decide_false, decide_true, Bool.false_or, Bool.true_and, ↓reduceIte]
        apply iter_norm
        simp -implicitDefEqProofs [b17_0, St.keep, hi, i1, il, il2, hl, r1, r1', r2, r2', w1, w2, a1, b2]
      · have b2 : v ≤ y := by omega
        simp only [a1, b1, decide_false, Bool.false_or, Bool.and_false, Bool.false_eq_true, ↓reduceIte]
        rw [iter_succ]
        simp -implicitDefEqProofs [b17_0, hi, i1, il, il2, hl, r1, r1', r2, r2', w1, w2, a1, b2]
def riseFrom (L : List Ad) : Nat → Nat → Bool
  | _, 0 => true
  | i, d + 1 => lt2 (gA L (i - 1)) (gA L i) && riseFrom L (i + 1) d
def rise (L : List Ad) : Bool := riseFrom L 1 (L.length - 1)
theorem loop17 (Φ : Nat → Option FnF) (t : Bool) (L : List Ad) (hb : L.length ≤ 2900) (c : Nat) : ∀ (d i k : Nat), 1 ≤ i → i + d = max L.length 1 → d < k →
    if riseFrom L i d then ∃ E', iter (ev Φ 3000 b17_0) [0, 3] [100000] k ⟨[(0, .ro t 2 (ar L)), (3, .int .i64 i)], [], c⟩ = some (.exit 0, ⟨E', [], c⟩)
    else ∃ E', iter (ev Φ 3000 b17_0) [0, 3] [100000] k ⟨[(0, .ro t 2 (ar L)), (3, .int .i64 i)], [], c⟩ = some (.ret, ⟨E', [], c⟩) ∧ envGet E' 2 = some (.bool false)
  | d, i, 0, h1, hi, hk => by omega
  | 0, i, k + 1, h1, hi, hk => by
    have n1 : ¬ ((i : Int) < (L.length : Int)) := by omega
    have n2 : ¬ (i < L.length) := by omega
    have la := ar_len L
    rw [riseFrom, if_pos rfl, iter_succ]
    simp -implicitDefEqProofs [b17_0, n1, n2, la]
  | d + 1, i, k + 1, h1, hi, hk => by
    have hil : i < L.length := by omega
    have ih := loop17 Φ t L hb c d (i + 1) k (by omega) (by omega) (by omega)
    have st := step17 Φ t (ar L) L.length i c k (ar_len L) h1 hil (by omega) _ _ _ _ (ar_get (by omega : i - 1 < L.length)) (ar_get hil)
    rw [riseFrom]
    cases hh : lt2 (gA L (i - 1)) (gA L i)
    · have hh' : lt2 ((gA L (i - 1)).1, (gA L (i - 1)).2) ((gA L i).1, (gA L i).2) = false := hh
      rw [hh'] at st
      simp only [Bool.false_and, Bool.false_eq_true, ↓reduceIte] at st ⊢
      exact st
    · have hh' : lt2 ((gA L (i - 1)).1, (gA L (i - 1)).2) ((gA L i).1, (gA L i).2) = true := hh
      rw [hh'] at st
      simp only [Bool.true_and, ↓reduceIte] at st ⊢
      rw [st]
      exact ih
theorem rise17 (n : Nat) (v : AV) (L : List Ad) (hv : LS 2 (ar L) v) (hb : L.length ≤ 2900) : E (n + 1) 17 [v] = some (.bool (rise L), []) := by
  rw [e17]
  have hl := hv.len
  rw [ar_len] at hl
  by_cases h0 : L = []
  · subst h0
    have hl : alen v = some 0 := hl
    simp -implicitDefEqProofs [a17, c17, hl, hv.cell, hv.val, rise, riseFrom]
    rw [iter_succ]
    simp -implicitDefEqProofs [b17_0, hl]
  · obtain ⟨t, rfl⟩ := hv.ro (by simpa [ar] using h0)
    have hpos : 0 < L.length := List.length_pos_iff.2 h0
    have lp := loop17 (Q n) t L hb 0 (L.length - 1) 1 3000 (by omega) (by omega) (by omega)
    rw [show ((1 : Nat) : Int) = 1 from rfl] at lp
    unfold rise
    have la := ar_len L
    generalize ar L = RL at *
    cases hok : riseFrom L 1 (L.length - 1)
    · rw [hok] at lp
      simp only [Bool.false_eq_true, ↓reduceIte] at lp
      obtain ⟨E', e1, e2⟩ := lp
      simp -implicitDefEqProofs [a17, c17, la]
      rw [iter_keep]; simp -implicitDefEqProofs
      rw [e1]; simp -implicitDefEqProofs [e2]
    · rw [hok] at lp
      simp only [↓reduceIte] at lp
      obtain ⟨E', e1⟩ := lp
      simp -implicitDefEqProofs [a17, c17, la]
      rw [iter_keep]; simp -implicitDefEqProofs
      rw [e1]; simp -implicitDefEqProofs
theorem lt2_iff (a b : Ad) : lt2 a b = true ↔ a.1 < b.1 ∨ (a.1 = b.1 ∧ a.2 < b.2) := by unfold lt2; simp
theorem lt2_trans {a b c : Ad} (h1 : lt2 a b = true) (h2 : lt2 b c = true) : lt2 a c = true := by
  rw [lt2_iff] at *; omega
theorem lt2_flip {a b : Ad} (h : lt2 a b = false) (hn : a ≠ b) : lt2 b a = true := by
  have h' : ¬ lt2 a b = true := by rw [h]; simp
  rw [lt2_iff] at *
  have : ¬ (a.1 = b.1 ∧ a.2 = b.2) := fun e => hn (Prod.ext e.1 e.2)
  omega
theorem riseFrom_iff (L : List Ad) : ∀ (d i : Nat), riseFrom L i d = true ↔ ∀ j, i ≤ j → j < i + d → lt2 (gA L (j - 1)) (gA L j) = true
  | 0, i => by simp [riseFrom]; omega
  | d + 1, i => by
    rw [riseFrom, Bool.and_eq_true, riseFrom_iff L d (i + 1)]
    constructor
    · intro ⟨h1, h2⟩ j hj hj2
      by_cases h : j = i
      · subst h; exact h1
      · exact h2 j (by omega) (by omega)
    · intro h
      exact ⟨h i (by omega) (by omega), fun j hj hj2 => h j (by omega) (by omega)⟩
theorem rise_iff (L : List Ad) : rise L = true ↔ L.Pairwise (fun a b => lt2 a b = true) := by
  unfold rise
  rw [riseFrom_iff, List.pairwise_iff_getElem]
  constructor
  · intro h
    have adj : ∀ i, i + 1 < L.length → lt2 (gA L i) (gA L (i + 1)) = true := fun i hi => h (i + 1) (by omega) (by omega)
    have all : ∀ d i, i + d + 1 < L.length → lt2 (gA L i) (gA L (i + d + 1)) = true := by
      intro d
      induction d with
      | zero => intro i hi; exact adj i hi
      | succ d ih => intro i hi; exact lt2_trans (ih i (by omega)) (adj (i + d + 1) (by omega))
    intro i j hi hj hij
    rw [← gA_of hi, ← gA_of hj]
    have := all (j - i - 1) i (by omega)
    rw [show i + (j - i - 1) + 1 = j by omega] at this
    exact this
  · intro h j h1 h2
    have := h (j - 1) j (by omega) (by omega) (by omega)
    rw [gA_of (by omega), gA_of (by omega)]
    exact this
theorem pos_first {a : Ad} {L : List Ad} : ∀ {d i : Nat}, (∀ j, posFrom a L i d = some j → i ≤ j ∧ lt2 a (gA L j) = true ∧ ∀ k, i ≤ k → k < j → lt2 a (gA L k) = false) ∧ (posFrom a L i d = none → ∀ k, i ≤ k → k < i + d → lt2 a (gA L k) = false)
  | 0, i => by simp [posFrom]; omega
  | d + 1, i => by
    have ih := pos_first (a := a) (L := L) (d := d) (i := i + 1)
    unfold posFrom
    cases h : lt2 a (gA L i)
    · simp only [Bool.false_eq_true, ↓reduceIte]
      refine ⟨fun j hj => ?_, fun hn k h1 h2 => ?_⟩
      · obtain ⟨x1, x2, x3⟩ := ih.1 j hj
        exact ⟨by omega, x2, fun k h1 h2 => by
          by_cases e : k = i
          · subst e; exact h
          · exact x3 k (by omega) h2⟩
      · by_cases e : k = i
        · subst e; exact h
        · exact ih.2 hn k (by omega) (by omega)
    · simp only [↓reduceIte]
      refine ⟨fun j hj => ?_, fun hn => by cases hn⟩
      obtain rfl := Option.some.inj hj
      exact ⟨Nat.le_refl _, h, fun k h1 h2 => by omega⟩
theorem posA_lo {a : Ad} {L : List Ad} {k : Nat} (hk : k < posA a L) : lt2 a (gA L k) = false := by
  unfold posA at hk
  have := pos_first (a := a) (L := L) (d := L.length) (i := 0)
  cases h : posFrom a L 0 L.length with
  | none => rw [h] at hk; simp at hk; exact this.2 h k (by omega) (by omega)
  | some j => rw [h] at hk; simp at hk; exact (this.1 j h).2.2 k (by omega) hk
theorem posA_hi {a : Ad} {L : List Ad} (hk : posA a L < L.length) : lt2 a (gA L (posA a L)) = true := by
  unfold posA at hk ⊢
  have := pos_first (a := a) (L := L) (d := L.length) (i := 0)
  cases h : posFrom a L 0 L.length with
  | none => rw [h] at hk; simp at hk
  | some j => exact (this.1 j h).2.1
theorem rise_add (a : Ad) (L : List Ad) (h : rise L = true) : rise (addA a L) = true := by
  unfold addA
  by_cases hm : a ∈ L
  · rw [if_pos hm]; exact h
  · rw [if_neg hm]
    rw [rise_iff] at h ⊢
    have hp := posA_le a L
    have lo : ∀ b ∈ L.take (posA a L), lt2 b a = true := by
      intro b hb
      have hbm := List.mem_of_mem_take hb
      obtain ⟨i, hi, rfl⟩ := List.getElem_of_mem hb
      rw [List.length_take] at hi
      rw [List.getElem_take] at hbm ⊢
      have := posA_lo (a := a) (L := L) (k := i) (by omega)
      rw [gA_of (by omega)] at this
      exact lt2_flip this (fun e => hm (by rw [e]; exact hbm))
    have hi : ∀ b ∈ L.drop (posA a L), lt2 a b = true := by
      intro b hb
      obtain ⟨i, hi, rfl⟩ := List.getElem_of_mem hb
      rw [List.length_drop] at hi
      rw [List.getElem_drop]
      have h4 := posA_hi (a := a) (L := L) (by omega)
      rw [gA_of (by omega)] at h4
      by_cases e : i = 0
      · subst e; exact h4
      · rw [List.pairwise_iff_getElem] at h
        exact lt2_trans h4 (h (posA a L) (posA a L + i) (by omega) (by omega) (by omega))
    have e : L.take (posA a L) ++ L.drop (posA a L) = L := List.take_append_drop _ L
    rw [← e, List.pairwise_append] at h
    rw [List.pairwise_append, List.pairwise_cons]
    refine ⟨h.1, ⟨hi, h.2.1⟩, fun x hx b hb => ?_⟩
    rcases List.mem_cons.1 hb with h5 | h5
    · subst h5; exact lo x hx
    · exact h.2.2 x hx b h5
theorem add_mem (a : Ad) (L : List Ad) : a ∈ addA a L ∧ ∀ b ∈ L, b ∈ addA a L := by
  unfold addA
  by_cases hm : a ∈ L
  · rw [if_pos hm]; exact ⟨hm, fun _ h => h⟩
  · rw [if_neg hm]
    refine ⟨List.mem_append_right _ List.mem_cons_self, fun c hc => ?_⟩
    rw [← List.take_append_drop (posA a L) L] at hc
    rcases List.mem_append.1 hc with h | h
    · exact List.mem_append_left _ h
    · exact List.mem_append_right _ (List.mem_cons_of_mem _ h)
theorem add_len (a : Ad) (L : List Ad) : L.length ≤ (addA a L).length ∧ (addA a L).length ≤ L.length + 1 := by
  unfold addA
  by_cases hm : a ∈ L
  · rw [if_pos hm]; omega
  · rw [if_neg hm, List.length_append, List.length_cons, List.length_take, List.length_drop]; omega
theorem addA_in {a : Ad} {L : List Ad} (h : a ∈ L) : addA a L = L := by unfold addA; rw [if_pos h]
theorem add_again (a : Ad) (L : List Ad) : addA a (addA a L) = addA a L := addA_in (add_mem a L).1
end Go.Abs.Try

namespace Go.Abs.Try
open Go Go.Abs
set_option maxHeartbeats 16000000
set_option maxRecDepth 100000
set_option linter.unusedSimpArgs false
set_option linter.unusedVariables false
def H6 (g3 g5 g6 : Nat) (a : Ad) (M : List (List AV)) : AH := [⟨3, g3, .var [.int .i64 a.1, .int .i64 a.2]⟩, ⟨21000, g5, .arr 2 M false⟩, ⟨24000, g6, .arr 2 M false⟩]
theorem step6 (Φ : Nat → Option FnF) (v : AV) (M : List (List AV)) (len i c k g3 g5 g6 : Nat) (h3 : g3 < c) (h5 : g5 < c) (hl : M.length = len) (hi : i < len) (hb : len ≤ 100000) (x y : Int) (r1 : M[i]? = some [.int .i64 x, .int .i64 y]) (a : Ad) (b : Bool) :
    iter (ev Φ 3000 b6_0) [0, 3, 5, 6, 7, 8] [3, 21000, 24000, 100000] (k + 1) ⟨[(0, v), (3, .ptr 3 g3 0), (5, .own 21000 g5 0 len), (6, .own 24000 g6 0 len), (7, .bool b), (8, .int .i64 i)], H6 g3 g5 g6 a M, c⟩ =
      iter (ev Φ 3000 b6_0) [0, 3, 5, 6, 7, 8] [3, 21000, 24000, 100000] k ⟨[(0, v), (3, .ptr 3 g3 0), (5, .own 21000 g5 0 len), (6, .own 24000 g6 0 len), (7, .bool (b || decide ((x, y) = (a.1, a.2)))), (8, .int .i64 ((i + 1 : Nat) : Int))], H6 g3 g5 g6 a M, c⟩ := by
  have i1 : (i : Int) < (len : Int) := by omega
  have il : i < M.length := by omega
  have r1' := (List.getElem?_eq_some_iff.1 r1).2
  have w1 : IntKind.i64.wrap ((i : Int) + 1) = ((i + 1 : Nat) : Int) := by rw [wrap_i64 _ (by omega) (by omega)]; omega
  have hq := aeq2 x y a.1 a.2
  generalize ((i + 1 : Nat) : Int) = j at *
  generalize decide ((x, y) = (a.1, a.2)) = q at *
  unfold H6
  apply iter_norm
  cases b <;> simp -implicitDefEqProofs [-aeqCells, b6_0, St.keep, h3, h5, hi, i1, il, hl, r1, r1', w1, hq]
theorem loop6 (Φ : Nat → Option FnF) (v : AV) (L : List Ad) (hb : L.length ≤ 2900) (a : Ad) (c g3 g5 g6 : Nat) (h3 : g3 < c) (h5 : g5 < c) : ∀ (d i k : Nat) (b : Bool), i + d = L.length → d < k →
    ∃ E', iter (ev Φ 3000 b6_0) [0, 3, 5, 6, 7, 8] [3, 21000, 24000, 100000] k ⟨[(0, v), (3, .ptr 3 g3 0), (5, .own 21000 g5 0 L.length), (6, .own 24000 g6 0 L.length), (7, .bool b), (8, .int .i64 i)], H6 g3 g5 g6 a (ar L), c⟩ = some (.exit 0, ⟨E', H6 g3 g5 g6 a (ar L), c⟩) ∧
      envOnly [0, 5, 6, 7] E' = [(0, v), (5, .own 21000 g5 0 L.length), (6, .own 24000 g6 0 L.length), (7, .bool (b || decide (a ∈ L.drop i)))]
  | d, i, 0, b, hi, hk => by omega
  | 0, i, k + 1, b, hi, hk => by
    have n1 : ¬ ((i : Int) < (L.length : Int)) := by omega
    have n2 : ¬ (i < L.length) := by omega
    rw [List.drop_of_length_le (by omega)]
    refine ⟨[(0, v), (3, .ptr 3 g3 0), (5, .own 21000 g5 0 L.length), (6, .own 24000 g6 0 L.length), (7, .bool b), (8, .int .i64 i), (24, .int .i64 i), (25, .own 21000 g5 0 L.length), (26, .int .i64 L.length), (27, .bool false)], ?_, by simp⟩
    unfold H6
    rw [iter_succ]
    simp -implicitDefEqProofs [b6_0, n1, n2]
  | d + 1, i, k + 1, b, hi, hk => by
    have hil : i < L.length := by omega
    obtain ⟨E', e1, e2⟩ := loop6 Φ v L hb a c g3 g5 g6 h3 h5 d (i + 1) k (b || decide (((gA L i).1, (gA L i).2) = (a.1, a.2))) (by omega) (by omega)
    have st := step6 Φ v (ar L) L.length i c k g3 g5 g6 h3 h5 (ar_len L) hil (by omega) _ _ (ar_get hil) a b
    rw [st]
    refine ⟨E', e1, ?_⟩
    rw [e2, memD a hil, Bool.or_assoc]
theorem law6_long (Φ : Nat → Option FnF) (F13 : CallF) {G13 J13 Y13} (h13 : Φ 13 = some ⟨F13, G13, J13, Y13⟩) (c13 : F13 [] = some (.bool true, [])) (v : AV) (R : List (List AV)) (hv : LS 2 R v) (hn : 200 < R.length) (x y : Int) : evFun Φ 3000 a6 [v, .agg [.int .i64 x, .int .i64 y]] = some (.bool true, []) := by
  have hl := hv.len
  have n1 : (200 : Int) < R.length := by omega
  simp -implicitDefEqProofs [a6, c6, h13, c13, hl, n1, hn, hv.cell, hv.val]
theorem law6_no (Φ : Nat → Option FnF) (F13 F17 : CallF) {G13 J13 Y13 G17 J17 Y17} (h13 : Φ 13 = some ⟨F13, G13, J13, Y13⟩) (h17 : Φ 17 = some ⟨F17, G17, J17, Y17⟩) (c13 : F13 [] = some (.bool true, [])) (v : AV) (R : List (List AV)) (hv : LS 2 R v) (hn : R.length ≤ 200) (x y : Int) (c17 : F17 [v] = some (.bool false, [])) : evFun Φ 3000 a6 [v, .agg [.int .i64 x, .int .i64 y]] = some (.bool true, []) := by
  have hl := hv.len
  have n1 : ¬ (200 : Int) < R.length := by omega
  have n2 : ¬ 200 < R.length := by omega
  simp -implicitDefEqProofs [a6, c6, h13, h17, c13, c17, hl, n1, n2, hv.cell, hv.val, hv.cb, hv.ld, hv.ldc, hv.mv]
theorem law6_yes (Φ : Nat → Option FnF) (F10 F11 F13 F17 : CallF) {G10 J10 Y10 G11 J11 Y11 G13 J13 Y13 G17 J17 Y17} (h10 : Φ 10 = some ⟨F10, G10, J10, Y10⟩) (h11 : Φ 11 = some ⟨F11, G11, J11, Y11⟩) (h13 : Φ 13 = some ⟨F13, G13, J13, Y13⟩) (h17 : Φ 17 = some ⟨F17, G17, J17, Y17⟩)
    (v : AV) (R M : List (List AV)) (hv : LS 2 R v) (hn : R.length ≤ 200) (hw1 : R.length ≤ M.length) (hw2 : M.length ≤ R.length + 1) (a : Ad) (c13 : F13 [] = some (.bool true, [])) (c17 : F17 [v] = some (.bool true, [])) (c17' : F17 [.ro true 2 M] = some (.bool true, []))
    (c10 : F10 [v, .agg [.int .i64 a.1, .int .i64 a.2]] = some (.fr 2 M, [])) (c10' : F10 [.ro true 2 M, .agg [.int .i64 a.1, .int .i64 a.2]] = some (.fr 2 M, [])) (c11 : F11 [.ro true 2 M, .ro true 2 M] = some (.bool true, [])) (E' : Env)
    (lp : iter (ev Φ 3000 b6_0) [0, 3, 5, 6, 7, 8] [3, 21000, 24000, 100000] 3000 ⟨[(0, v), (3, .ptr 3 0 0), (5, .own 21000 1 0 M.length), (6, .own 24000 2 0 M.length), (7, .bool false), (8, .int .i64 0)], H6 0 1 2 a M, 3⟩ = some (.exit 0, ⟨E', H6 0 1 2 a M, 3⟩))
    (e2 : envOnly [0, 5, 6, 7] E' = [(0, v), (5, .own 21000 1 0 M.length), (6, .own 24000 2 0 M.length), (7, .bool true)]) : evFun Φ 3000 a6 [v, .agg [.int .i64 a.1, .int .i64 a.2]] = some (.bool true, []) := by
  have hl := hv.len
  have n1 : ¬ (200 : Int) < R.length := by omega
  have n2 : ¬ 200 < R.length := by omega
  have tM : M.take M.length = M := List.take_length
  have w1 : IntKind.i64.wrap ((M.length : Int) - (R.length : Int)) = (M.length : Int) - (R.length : Int) := wrap_i64 _ (by omega) (by omega)
  have g1 : (0 : Int) ≤ (M.length : Int) - (R.length : Int) := by omega
  have g2 : (M.length : Int) - (R.length : Int) ≤ 1 := by omega
  unfold H6 at lp
  simp -implicitDefEqProofs [a6, c6, h10, h11, h13, h17, c10, c10', c11, c13, c17, c17', hl, n1, n2, tM, hv.cell, hv.val, hv.cb, hv.ld, hv.ldc, hv.mv]
  rw [iter_keep]; simp -implicitDefEqProofs
  rw [lp]
  simp -implicitDefEqProofs [e2, h11, h13, h17, c11, c13, c17', hl, tM, w1, g1, g2, hw1]
def shA : List CSh := [.int .i64, .int .i64]
theorem ok_addr {cs : List AV} (h : okRow shA cs) : ∃ a : Ad, cs = av a := by
  unfold shA at h
  obtain ⟨a, cs, rfl, _, h⟩ := h.int
  obtain ⟨b, cs, rfl, _, h⟩ := h.int
  have := h.nil_inv
  subst this
  exact ⟨(a, b), rfl⟩
theorem ok_addrs : ∀ (rows : List (List AV)), (∀ r, r ∈ rows → okRow shA r) → ∃ D : List Ad, rows = ar D
  | [], _ => ⟨[], rfl⟩
  | r :: rs, h => by
    obtain ⟨d, rfl⟩ := ok_addr (h r List.mem_cons_self)
    obtain ⟨P, rfl⟩ := ok_addrs rs (fun x hx => h x (List.mem_cons_of_mem _ hx))
    exact ⟨d :: P, rfl⟩
theorem ok_alist {x : AV} (h : okRow [.sl shA] [x]) : ∃ D : List Ad, LS 2 (ar D) x := by
  obtain ⟨v, _, e, hv, _⟩ := h.sl
  obtain ⟨rfl, _⟩ : x = v ∧ _ := by simpa using e
  rcases hv with rfl | ⟨rows, rfl, hl, hr⟩
  · exact ⟨[], .inl ⟨rfl, rfl⟩⟩
  · obtain ⟨P, rfl⟩ := ok_addrs rows hr
    exact ⟨P, .inr (.inr ⟨false, rfl⟩)⟩
theorem law6 (x0 x1 : AV) (o0 : okRow [.sl shA] [x0]) (o1 : ∃ cs, x1 = .agg cs ∧ okRow shA cs) : E 10 6 [x0, x1] = some (.bool true, []) := by
  obtain ⟨L, hv⟩ := ok_alist o0
  obtain ⟨cs, rfl, oc⟩ := o1
  obtain ⟨a, rfl⟩ := ok_addr oc
  rw [e6]
  by_cases hn : 200 < L.length
  · exact law6_long (Q 9) _ (q13 8) rows13 x0 (ar L) hv (by rw [ar_len]; exact hn) a.1 a.2
  · have c17 := rise17 8 x0 L hv (by omega)
    cases hr : rise L
    · rw [hr] at c17
      exact law6_no (Q 9) _ _ (q13 8) (q17 8) rows13 x0 (ar L) hv (by rw [ar_len]; omega) a.1 a.2 c17
    · rw [hr] at c17
      have hlen := add_len a L
      have c10 := add10 3 x0 L hv (by omega) a
      have hM : LS 2 (ar (addA a L)) (.ro true 2 (ar (addA a L))) := .inr (.inr ⟨true, rfl⟩)
      have c10' := add10 3 _ _ hM (by omega) a
      rw [add_again] at c10'
      have c17' := rise17 8 _ _ hM (by omega)
      rw [rise_add a L hr] at c17'
      have c11 := addrs11 8 _ _ _ _ hM hM (by omega)
      rw [decide_eq_true rfl] at c11
      obtain ⟨E', e1, e2⟩ := loop6 (Q 9) x0 (addA a L) (by omega) a 3 0 1 2 (by omega) (by omega) (addA a L).length 0 3000 false (by omega) (by omega)
      rw [List.drop_zero, decide_eq_true (add_mem a L).1] at e2
      rw [← ar_len (addA a L)] at e1 e2
      exact law6_yes (Q 9) _ _ _ _ (q10 8) (q11 8) (q13 8) (q17 8) x0 (ar L) (ar (addA a L)) hv (by rw [ar_len]; omega) (by rw [ar_len, ar_len]; omega) (by rw [ar_len, ar_len]; omega) a rows13 c17 c17' c10 c10' c11 E' e1 e2
theorem ref6 : Refines Go.Proofs.Try.prog 6 (E 10 6) := ref 10 6 (q6 9)
end Go.Abs.Try

namespace Go.Abs.Try
open Go Go.Abs
set_option maxHeartbeats 16000000
set_option maxRecDepth 100000
set_option linter.unusedSimpArgs false
set_option linter.unusedVariables false
/-- the map of a row: each address once -/
def mr (M : List Ad) : List (List AV) := M.map fun a => [.bool true, .int .i64 a.1, .int .i64 a.2]
theorem pos_mr (a : Ad) : ∀ (M : List Ad) (i : Nat), (a ∈ M → ∃ j, mapPos [0, 0] [.int .i64 a.1, .int .i64 a.2] (mr M) i = some (some (i + j)) ∧ M[j]? = some a) ∧ (a ∉ M → mapPos [0, 0] [.int .i64 a.1, .int .i64 a.2] (mr M) i = some none)
  | [], i => ⟨fun h => by simp at h, fun _ => rfl⟩
  | x :: M, i => by
    have hq := aeq2 a.1 a.2 x.1 x.2
    have e : mr (x :: M) = [.bool true, .int .i64 x.1, .int .i64 x.2] :: mr M := rfl
    obtain ⟨h1, h2⟩ := pos_mr a M (i + 1)
    have hlen : ([AV.bool true, AV.int IntKind.i64 x.1, AV.int IntKind.i64 x.2].tail).length = ([0, 0] : List Nat).length := rfl
    rw [e, mapPos, if_pos hlen, List.tail_cons, hq]
    by_cases hx : (a.1, a.2) = (x.1, x.2)
    · have hx' : a = x := hx
      rw [decide_eq_true hx]
      exact ⟨fun _ => ⟨0, by simp, by simp [hx']⟩, fun h => absurd (by rw [hx']; exact List.mem_cons_self) h⟩
    · rw [decide_eq_false hx]
      have hx' : a ≠ x := fun h => hx (by rw [h])
      refine ⟨fun h => ?_, fun h => h2 (fun hm => h (List.mem_cons_of_mem _ hm))⟩
      obtain ⟨j, e1, e2⟩ := h1 ((List.mem_cons.1 h).resolve_left hx')
      exact ⟨j + 1, by simp only [e1]; congr 2; omega, by simpa using e2⟩
theorem set_mr (a : Ad) (M : List Ad) : mapSet [0, 0] [.int .i64 a.1, .int .i64 a.2] (.bool true) (mr M) = some (mr (if a ∈ M then M else M ++ [a])) := by
  obtain ⟨h1, h2⟩ := pos_mr a M 0
  unfold mapSet
  by_cases hm : a ∈ M
  · obtain ⟨j, e1, e2⟩ := h1 hm
    rw [e1, if_pos hm]
    simp only [Nat.zero_add]
    congr 1
    apply List.ext_getElem?
    intro k
    rw [List.getElem?_set]
    by_cases hk : j = k
    · subst hk
      have hj := (List.getElem?_eq_some_iff.1 e2).1
      have : (mr M)[j]? = some [.bool true, .int .i64 a.1, .int .i64 a.2] := by unfold mr; rw [List.getElem?_map, e2]; rfl
      rw [this]
      simp [mr, hj]
    · simp [hk]
  · rw [h2 hm, if_neg hm]
    simp [mr]
theorem get_mr (a : Ad) (M : List Ad) : mapGet [0, 0] [.int .i64 a.1, .int .i64 a.2] (.bool false) (mr M) = some (.bool (decide (a ∈ M))) := by
  obtain ⟨h1, h2⟩ := pos_mr a M 0
  unfold mapGet
  by_cases hm : a ∈ M
  · obtain ⟨j, e1, e2⟩ := h1 hm
    rw [e1, decide_eq_true hm]
    simp only [Nat.zero_add]
    have : (mr M)[j]? = some [.bool true, .int .i64 a.1, .int .i64 a.2] := by unfold mr; rw [List.getElem?_map, e2]; rfl
    rw [this]; rfl
  · rw [h2 hm, decide_eq_false hm]
theorem step14a (Φ : Nat → Option FnF) (t : Bool) (R rows rows' : List (List AV)) (len i c k g : Nat) (rs rg : Int) (hl : R.length = len) (hi : i < len) (hb : len ≤ 100000) (x y : Int) (r1 : R[i]? = some [.int .i64 x, .int .i64 y]) (hs : mapSet [0, 0] [.int .i64 x, .int .i64 y] (.bool true) rows = some rows') :
    iter (ev Φ 3000 b14_2) [0, 1, 7, 30, 31, 32] [29, 100400] (k + 1) ⟨[(0, .int .i64 rs), (1, .int .i64 rg), (7, .mp 29 g), (30, .ro t 2 R), (31, .int .i64 len), (32, .int .i64 i)], [⟨29, g, .mpb rows⟩], c⟩ =
      iter (ev Φ 3000 b14_2) [0, 1, 7, 30, 31, 32] [29, 100400] k ⟨[(0, .int .i64 rs), (1, .int .i64 rg), (7, .mp 29 g), (30, .ro t 2 R), (31, .int .i64 len), (32, .int .i64 ((i + 1 : Nat) : Int))], [⟨29, g, .mpb rows'⟩], c + 1⟩ := by
  have i1 : (i : Int) < (len : Int) := by omega
  have il : i < R.length := by omega
  have r1' := (List.getElem?_eq_some_iff.1 r1).2
  have w1 : IntKind.i64.wrap ((i : Int) + 1) = ((i + 1 : Nat) : Int) := by rw [wrap_i64 _ (by omega) (by omega)]; omega
  generalize ((i + 1 : Nat) : Int) = j at *
  apply iter_norm
  simp -implicitDefEqProofs [b14_2, St.keep, hi, i1, il, hl, r1, r1', w1, hs, z24, AV.isInt, AV.isIB]
theorem step14b (Φ : Nat → Option FnF) (rows : List (List AV)) (c k g : Nat) (rs rg hv s n : Int) (j : Nat) (hj : j < 3) (hn0 : 0 ≤ n) (hn : n ≤ 10) (b : Bool) (hg : mapGet [0, 0] [.int .i64 s, .int .i64 ((j : Int) + 1)] (.bool false) rows = some (.bool b)) :
    iter (ev Φ 3000 b14_0) [0, 1, 7, 10, 11, 12, 44] [29] (k + 1) ⟨[(0, .int .i64 rs), (1, .int .i64 rg), (7, .mp 29 g), (10, .int .i64 hv), (11, .int .i64 s), (12, .int .i64 n), (44, .int .i64 j)], [⟨29, g, .mpb rows⟩], c⟩ =
      iter (ev Φ 3000 b14_0) [0, 1, 7, 10, 11, 12, 44] [29] k ⟨[(0, .int .i64 rs), (1, .int .i64 rg), (7, .mp 29 g), (10, .int .i64 hv), (11, .int .i64 s), (12, .int .i64 (if b then n + 1 else n)), (44, .int .i64 ((j + 1 : Nat) : Int))], [⟨29, g, .mpb rows⟩], c⟩ := by
  have j1 : (j : Int) < 3 := by omega
  have w1 : IntKind.i64.wrap ((j : Int) + 1) = (j : Int) + 1 := wrap_i64 _ (by omega) (by omega)
  have w2 : IntKind.i64.wrap (n + 1) = n + 1 := wrap_i64 _ (by omega) (by omega)
  have e : ((j + 1 : Nat) : Int) = (j : Int) + 1 := by omega
  rw [e]
  apply iter_norm
  cases b <;> simp -implicitDefEqProofs [b14_0, St.keep, j1, hj, w1, w2, hg, z24, AV.isInt]
/-- how many of a region's three nodes are there -/
def cnt (M : List Ad) (s : Int) : Int := (if (s, 1) ∈ M then 1 else 0) + (if (s, 2) ∈ M then 1 else 0) + (if (s, 3) ∈ M then 1 else 0)
theorem loop14b (Φ : Nat → Option FnF) (M : List Ad) (c k g : Nat) (rs rg hv s : Int) : ∃ E', iter (ev Φ 3000 b14_0) [0, 1, 7, 10, 11, 12, 44] [29] (k + 4) ⟨[(0, .int .i64 rs), (1, .int .i64 rg), (7, .mp 29 g), (10, .int .i64 hv), (11, .int .i64 s), (12, .int .i64 0), (44, .int .i64 0)], [⟨29, g, .mpb (mr M)⟩], c⟩ =
    some (.exit 4, ⟨E', [⟨29, g, .mpb (mr M)⟩], c⟩) ∧ envOnly [0, 1, 7, 10, 11, 12] E' = [(0, .int .i64 rs), (1, .int .i64 rg), (7, .mp 29 g), (10, .int .i64 hv), (11, .int .i64 s), (12, .int .i64 (cnt M s))] := by
  have g1 := get_mr (s, 1) M
  have g2 := get_mr (s, 2) M
  have g3 := get_mr (s, 3) M
  have s1 := step14b Φ (mr M) c (k + 3) g rs rg hv s 0 0 (by omega) (by omega) (by omega) _ g1
  have e0 : ((0 : Nat) : Int) = 0 := rfl
  rw [e0] at s1
  rw [s1]
  have s2 := step14b Φ (mr M) c (k + 2) g rs rg hv s (if decide ((s, 1) ∈ M) = true then 0 + 1 else 0) 1 (by omega) (by split <;> omega) (by split <;> omega) _ g2
  rw [show ((0 + 1 : Nat) : Int) = ((1 : Nat) : Int) from rfl, s2]
  have s3 := step14b Φ (mr M) c (k + 1) g rs rg hv s (if decide ((s, 2) ∈ M) = true then (if decide ((s, 1) ∈ M) = true then 0 + 1 else 0) + 1 else (if decide ((s, 1) ∈ M) = true then 0 + 1 else 0)) 2 (by omega) (by split <;> split <;> omega) (by split <;> split <;> omega) _ g3
  rw [show ((1 + 1 : Nat) : Int) = ((2 : Nat) : Int) from rfl, s3]
  have hn : (if decide ((s, 3) ∈ M) = true then (if decide ((s, 2) ∈ M) = true then (if decide ((s, 1) ∈ M) = true then (0 : Int) + 1 else 0) + 1 else (if decide ((s, 1) ∈ M) = true then 0 + 1 else 0)) + 1 else (if decide ((s, 2) ∈ M) = true then (if decide ((s, 1) ∈ M) = true then 0 + 1 else 0) + 1 else (if decide ((s, 1) ∈ M) = true then 0 + 1 else 0))) = cnt M s := by
    unfold cnt
    simp only [decide_eq_true_eq]
    split <;> split <;> split <;> omega
  rw [hn]
  generalize cnt M s = n
  refine ⟨[(0, .int .i64 rs), (1, .int .i64 rg), (7, .mp 29 g), (10, .int .i64 hv), (11, .int .i64 s), (12, .int .i64 n), (44, .int .i64 3), (45, .bool false)], ?_, by simp⟩
  rw [iter_succ]
  simp -implicitDefEqProofs [b14_0]
theorem cnt_le (M : List Ad) (s : Int) : 0 ≤ cnt M s ∧ cnt M s ≤ 3 := by unfold cnt; split <;> split <;> split <;> omega
/-- one region -/
def hv1 (M : List Ad) (rg s : Int) : Int := if s ≠ rg ∧ cnt M s > 1 then 1 else 0
theorem step14c (Φ : Nat → Option FnF) (M : List Ad) (c k g : Nat) (rs rg hv s : Int) (h1 : 1 ≤ s) (h2 : s ≤ rs) (h3 : rs ≤ 5) (hv0 : 0 ≤ hv) (hv5 : hv ≤ 5) :
    iter (ev Φ 3000 b14_1) [0, 1, 7, 10, 11] [29] (k + 1) ⟨[(0, .int .i64 rs), (1, .int .i64 rg), (7, .mp 29 g), (10, .int .i64 hv), (11, .int .i64 s)], [⟨29, g, .mpb (mr M)⟩], c⟩ =
      iter (ev Φ 3000 b14_1) [0, 1, 7, 10, 11] [29] k ⟨[(0, .int .i64 rs), (1, .int .i64 rg), (7, .mp 29 g), (10, .int .i64 (hv + hv1 M rg s)), (11, .int .i64 (s + 1))], [⟨29, g, .mpb (mr M)⟩], c⟩ := by
  obtain ⟨E', e1, e2⟩ := loop14b Φ M c 2996 g rs rg hv s
  rw [show (2996 : Nat) + 4 = 3000 from rfl] at e1
  have w1 : IntKind.i64.wrap (s + 1) = s + 1 := wrap_i64 _ (by omega) (by omega)
  have w2 : IntKind.i64.wrap (hv + 1) = hv + 1 := wrap_i64 _ (by omega) (by omega)
  unfold hv1
  generalize mr M = rows at *
  generalize cnt M s = n at *
  apply iter_norm
  by_cases a1 : s = rg
  · subst a1
    rw [if_neg (by simp)]
    simp -implicitDefEqProofs [b14_1, St.keep, h2]
    rw [iter_keep]; simp -implicitDefEqProofs
    rw [e1]
    simp -implicitDefEqProofs [e2, w1]
    exact ⟨_, _, ⟨rfl, rfl⟩, rfl, by simp, by simp, rfl⟩
  · have a2 : (s != rg) = true := by simpa using a1
    by_cases a3 : n > 1
    · have a3' : 1 < n := a3
      rw [if_pos ⟨a1, a3⟩]
      simp -implicitDefEqProofs [b14_1, St.keep, h2]
      rw [iter_keep]; simp -implicitDefEqProofs
      rw [e1]
      simp -implicitDefEqProofs [e2, w1, w2, a2, a3']
      exact ⟨_, _, ⟨rfl, rfl⟩, rfl, by simp, by simp, rfl⟩
    · have a3' : ¬ 1 < n := a3
      rw [if_neg (fun h => a3 h.2)]
      simp -implicitDefEqProofs [b14_1, St.keep, h2]
      rw [iter_keep]; simp -implicitDefEqProofs
      rw [e1]
      simp -implicitDefEqProofs [e2, w1, w2, a2, a3']
      exact ⟨_, _, ⟨rfl, rfl⟩, rfl, by simp, by simp, rfl⟩
def hvFrom (M : List Ad) (rg : Int) : Int → Nat → Int
  | _, 0 => 0
  | s, d + 1 => hv1 M rg s + hvFrom M rg (s + 1) d
theorem hv1_le (M : List Ad) (rg s : Int) : 0 ≤ hv1 M rg s ∧ hv1 M rg s ≤ 1 := by unfold hv1; split <;> omega
theorem loop14c (Φ : Nat → Option FnF) (M : List Ad) (c g : Nat) (rs rg : Int) (h3 : rs ≤ 5) : ∀ (d k : Nat) (s hv : Int), 1 ≤ s → s + d = rs + 1 → d < k → 0 ≤ hv → hv + d ≤ 5 →
    ∃ E', iter (ev Φ 3000 b14_1) [0, 1, 7, 10, 11] [29] k ⟨[(0, .int .i64 rs), (1, .int .i64 rg), (7, .mp 29 g), (10, .int .i64 hv), (11, .int .i64 s)], [⟨29, g, .mpb (mr M)⟩], c⟩ = some (.exit 2, ⟨E', [⟨29, g, .mpb (mr M)⟩], c⟩) ∧ envOnly [0, 10] E' = [(0, .int .i64 rs), (10, .int .i64 (hv + hvFrom M rg s d))]
  | d, 0, s, hv, h1, h2, hk, hv0, hv5 => by omega
  | 0, k + 1, s, hv, h1, h2, hk, hv0, hv5 => by
    have n1 : ¬ s ≤ rs := by omega
    generalize mr M = rows
    refine ⟨[(0, .int .i64 rs), (1, .int .i64 rg), (7, .mp 29 g), (10, .int .i64 hv), (11, .int .i64 s), (39, .int .i64 s), (40, .int .i64 rs), (41, .bool false)], ?_, by simp [hvFrom]⟩
    rw [iter_succ]
    simp -implicitDefEqProofs [b14_1, n1]
  | d + 1, k + 1, s, hv, h1, h2, hk, hv0, hv5 => by
    have hl := hv1_le M rg s
    have st := step14c Φ M c k g rs rg hv s h1 (by omega) h3 hv0 (by omega)
    obtain ⟨E', e1, e2⟩ := loop14c Φ M c g rs rg h3 d k (s + 1) (hv + hv1 M rg s) (by omega) (by omega) (by omega) (by omega) (by omega)
    exact ⟨E', by rw [st]; exact e1, by rw [e2, hvFrom, Int.add_assoc]⟩
end Go.Abs.Try

namespace Go.Abs.Try
open Go Go.Abs
set_option maxHeartbeats 16000000
set_option maxRecDepth 100000
set_option linter.unusedSimpArgs false
set_option linter.unusedVariables false
theorem loop14a (Φ : Nat → Option FnF) (t : Bool) (L : List Ad) (hb : L.length ≤ 2900) (g : Nat) (rs rg : Int) : ∀ (d i k c : Nat) (M : List Ad), i + d = L.length → d < k →
    ∃ E' c' M', iter (ev Φ 3000 b14_2) [0, 1, 7, 30, 31, 32] [29, 100400] k ⟨[(0, .int .i64 rs), (1, .int .i64 rg), (7, .mp 29 g), (30, .ro t 2 (ar L)), (31, .int .i64 L.length), (32, .int .i64 i)], [⟨29, g, .mpb (mr M)⟩], c⟩ = some (.exit 0, ⟨E', [⟨29, g, .mpb (mr M')⟩], c'⟩) ∧
      envOnly [0, 1, 7] E' = [(0, .int .i64 rs), (1, .int .i64 rg), (7, .mp 29 g)] ∧ ∀ a, a ∈ M' ↔ a ∈ M ∨ a ∈ L.drop i
  | d, i, 0, c, M, hi, hk => by omega
  | 0, i, k + 1, c, M, hi, hk => by
    have n1 : ¬ ((i : Int) < (L.length : Int)) := by omega
    refine ⟨[(0, .int .i64 rs), (1, .int .i64 rg), (7, .mp 29 g), (30, .ro t 2 (ar L)), (31, .int .i64 L.length), (32, .int .i64 i), (33, .bool false)], c, M, ?_, by simp, ?_⟩
    · rw [iter_succ]
      simp -implicitDefEqProofs [b14_2, n1]
    · intro a; rw [List.drop_of_length_le (by omega)]; simp
  | d + 1, i, k + 1, c, M, hi, hk => by
    have hil : i < L.length := by omega
    have da : L.drop i = gA L i :: L.drop (i + 1) := by rw [gA_of hil]; exact List.drop_eq_getElem_cons hil
    have st := step14a Φ t (ar L) (mr M) _ L.length i c k g rs rg (ar_len L) hil (by omega) _ _ (ar_get hil) (set_mr (gA L i) M)
    obtain ⟨E', c', M', e1, e2, e3⟩ := loop14a Φ t L hb g rs rg d (i + 1) k (c + 1) (if gA L i ∈ M then M else M ++ [gA L i]) (by omega) (by omega)
    refine ⟨E', c', M', by rw [st]; exact e1, e2, fun a => ?_⟩
    rw [e3, da, List.mem_cons]
    by_cases hm : gA L i ∈ M
    · rw [if_pos hm]
      constructor
      · rintro (h | h)
        · exact .inl h
        · exact .inr (.inr h)
      · rintro (h | h | h)
        · exact .inl h
        · exact .inl (h ▸ hm)
        · exact .inr h
    · rw [if_neg hm, List.mem_append, List.mem_singleton]
      constructor
      · rintro ((h | h) | h)
        · exact .inl h
        · exact .inr (.inl h)
        · exact .inr (.inr h)
      · rintro (h | h | h)
        · exact .inl (.inl h)
        · exact .inl (.inr h)
        · exact .inr h
def okR (rs rg : Int) : Bool := decide (3 ≤ rs) && decide (rs ≤ 5) && decide (1 ≤ rg) && decide (rg ≤ rs)
/-- enough? -/
def enV (rs rg : Int) (L : List Ad) : Bool := okR rs rg && decide (hvFrom L rg 1 rs.toNat > (rs - 1) / 2)
theorem cnt_congr {M L : List Ad} (h : ∀ a, a ∈ M ↔ a ∈ L) (s : Int) : cnt M s = cnt L s := by unfold cnt; simp only [h]
theorem hv_congr {M L : List Ad} (h : ∀ a, a ∈ M ↔ a ∈ L) (rg : Int) : ∀ (d : Nat) (s : Int), hvFrom M rg s d = hvFrom L rg s d
  | 0, s => rfl
  | d + 1, s => by rw [hvFrom, hvFrom, hv_congr h rg d (s + 1)]; unfold hv1; rw [cnt_congr h]
theorem enough14_no (Φ : Nat → Option FnF) (v : AV) (R : List (List AV)) (hv : LS 2 R v) (rs rg : Int) (h : okR rs rg = false) : evFun Φ 3000 a14 [.int .i64 rs, .int .i64 rg, v] = some (.bool false, []) := by
  unfold okR at h
  by_cases h1 : rs < 3
  · simp -implicitDefEqProofs [a14, c14, h1, hv.cell, hv.val]
  · by_cases h2 : 5 < rs
    · simp -implicitDefEqProofs [a14, c14, h1, h2, hv.cell, hv.val]
    · by_cases h3 : rg < 1
      · simp -implicitDefEqProofs [a14, c14, h1, h2, h3, hv.cell, hv.val]
      · by_cases h4 : rs < rg
        · simp -implicitDefEqProofs [a14, c14, h1, h2, h3, h4, hv.cell, hv.val]
        · rw [decide_eq_true (by omega), decide_eq_true (by omega), decide_eq_true (by omega), decide_eq_true (by omega)] at h
          cases h
theorem enough14_yes (Φ : Nat → Option FnF) (v : AV) (R : List (List AV)) (hv : LS 2 R v) (rs rg : Int) (h1 : 3 ≤ rs) (h2 : rs ≤ 5) (h3 : 1 ≤ rg) (h4 : rg ≤ rs) (E1 E2 : Env) (c1 : Nat) (rows : List (List AV)) (hv' : Int)
    (l1 : iter (ev Φ 3000 b14_2) [0, 1, 7, 30, 31, 32] [29, 100400] 3000 ⟨[(0, .int .i64 rs), (1, .int .i64 rg), (7, .mp 29 0), (30, v), (31, .int .i64 R.length), (32, .int .i64 0)], [⟨29, 0, .mpb []⟩], 1⟩ = some (.exit 0, ⟨E1, [⟨29, 0, .mpb rows⟩], c1⟩)) (e1 : envOnly [0, 1, 7] E1 = [(0, .int .i64 rs), (1, .int .i64 rg), (7, .mp 29 0)])
    (l2 : iter (ev Φ 3000 b14_1) [0, 1, 7, 10, 11] [29] 3000 ⟨[(0, .int .i64 rs), (1, .int .i64 rg), (7, .mp 29 0), (10, .int .i64 0), (11, .int .i64 1)], [⟨29, 0, .mpb rows⟩], c1⟩ = some (.exit 2, ⟨E2, [⟨29, 0, .mpb rows⟩], c1⟩)) (e2 : envOnly [0, 10] E2 = [(0, .int .i64 rs), (10, .int .i64 hv')]) :
    evFun Φ 3000 a14 [.int .i64 rs, .int .i64 rg, v] = some (.bool (decide (hv' > (rs - 1) / 2)), []) := by
  have hl := hv.len
  have g1 : ¬ rs < 3 := by omega
  have g2 : ¬ 5 < rs := by omega
  have g3 : ¬ rg < 1 := by omega
  have g4 : ¬ rs < rg := by omega
  have w1 : IntKind.i64.wrap (rs - 1) = rs - 1 := wrap_i64 _ (by omega) (by omega)
  have w2 : IntKind.i64.wrap ((rs - 1) / 2) = (rs - 1) / 2 := wrap_i64 _ (by omega) (by omega)
  have q1 : (rs - 1).tdiv 2 = (rs - 1) / 2 := Int.tdiv_eq_ediv_of_nonneg (by omega)
  simp -implicitDefEqProofs [a14, c14, g1, g2, g3, g4, hl, hv.cell, hv.val]
  rw [iter_keep]; simp -implicitDefEqProofs
  rw [l1]; simp -implicitDefEqProofs [e1]
  rw [l2]; simp -implicitDefEqProofs [e2, w1, w2, q1]
end Go.Abs.Try

namespace Go.Abs.Try
open Go Go.Abs
set_option maxHeartbeats 16000000
set_option maxRecDepth 100000
set_option linter.unusedSimpArgs false
set_option linter.unusedVariables false
theorem okR_true {rs rg : Int} (h : okR rs rg = true) : 3 ≤ rs ∧ rs ≤ 5 ∧ 1 ≤ rg ∧ rg ≤ rs := by
  unfold okR at h
  rw [Bool.and_eq_true, Bool.and_eq_true, Bool.and_eq_true] at h
  obtain ⟨⟨⟨h1, h2⟩, h3⟩, h4⟩ := h
  exact ⟨of_decide_eq_true h1, of_decide_eq_true h2, of_decide_eq_true h3, of_decide_eq_true h4⟩
theorem enough14 (n : Nat) (L : List Ad) (v : AV) (hv : LS 2 (ar L) v) (hb : L.length ≤ 2900) (rs rg : Int) : E (n + 1) 14 [.int .i64 rs, .int .i64 rg, v] = some (.bool (enV rs rg L), []) := by
  rw [e14]
  unfold enV
  cases hok : okR rs rg with
  | false => rw [enough14_no _ v (ar L) hv rs rg hok]; rfl
  | true =>
    obtain ⟨h1, h2, h3, h4⟩ := okR_true hok
    have hL : (ar L).length = L.length := ar_len L
    have fin : ∀ (E1 : Env) (c1 : Nat) (M : List Ad), (iter (ev (Q n) 3000 b14_2) [0, 1, 7, 30, 31, 32] [29, 100400] 3000 ⟨[(0, .int .i64 rs), (1, .int .i64 rg), (7, .mp 29 0), (30, v), (31, .int .i64 (ar L).length), (32, .int .i64 0)], [⟨29, 0, .mpb []⟩], 1⟩ = some (.exit 0, ⟨E1, [⟨29, 0, .mpb (mr M)⟩], c1⟩)) → (envOnly [0, 1, 7] E1 = [(0, .int .i64 rs), (1, .int .i64 rg), (7, .mp 29 0)]) → (∀ a, a ∈ M ↔ a ∈ L) →
        evFun (Q n) 3000 a14 [.int .i64 rs, .int .i64 rg, v] = some (.bool (true && decide (hvFrom L rg 1 rs.toNat > (rs - 1) / 2)), []) := by
      intro E1 c1 M l1 e1 hM
      obtain ⟨E2, l2, e2⟩ := loop14c (Q n) M c1 0 rs rg h2 rs.toNat 3000 1 0 (by omega) (by omega) (by omega) (by omega) (by omega)
      rw [enough14_yes (Q n) v (ar L) hv rs rg h1 h2 h3 h4 E1 E2 c1 (mr M) (0 + hvFrom M rg 1 rs.toNat) l1 e1 l2 e2, Bool.true_and, Int.zero_add, hv_congr hM]
    by_cases l0 : L = []
    · subst l0
      refine fin [(0, .int .i64 rs), (1, .int .i64 rg), (7, .mp 29 0), (30, v), (31, .int .i64 0), (32, .int .i64 0), (33, .bool false)] 1 [] ?_ (by simp) (by simp)
      rw [show (3000 : Nat) = 2999 + 1 from rfl, iter_succ]
      simp -implicitDefEqProofs [b14_2, hv.cell, hv.val, mr, ar]
    · obtain ⟨t, ht⟩ := hv.ro (fun h => l0 (List.length_eq_zero_iff.1 (by rw [← hL, h]; rfl)))
      subst ht
      obtain ⟨E', c', M', f1, f2, f3⟩ := loop14a (Q n) t L hb 0 rs rg L.length 0 3000 1 [] (by omega) (by omega)
      rw [hL] at fin
      exact fin E' c' M' f1 f2 (fun a => by rw [f3, List.drop_zero]; simp)
end Go.Abs.Try

namespace Go.Abs.Try
open Go Go.Abs
set_option maxHeartbeats 16000000
set_option maxRecDepth 100000
set_option linter.unusedSimpArgs false
set_option linter.unusedVariables false
theorem at16 (n : Nat) (x y : Int) : E (n + 1) 16 [.int .i64 x, .int .i64 y] = some (.agg [.int .i64 x, .int .i64 y], []) := by
  rw [e16]
  simp -implicitDefEqProofs [a16, c16, z24]
def O38 : Option (Nat × List (List AV)) → AV
  | none => .nilS
  | some (g, W) => .own 38 g 0 W.length
def H38 : Option (Nat × List (List AV)) → AH
  | none => []
  | some (g, W) => [⟨38, g, .arr 2 W false⟩]
def R38 : Option (Nat × List (List AV)) → List (List AV)
  | none => []
  | some (_, W) => W
theorem step51 (Φ : Nat → Option FnF) (F16 : CallF) {G16 J16 Y16} (h16 : Φ 16 = some ⟨F16, G16, J16, Y16⟩) (t : Bool) (R : List (List AV)) (len i c k : Nat) (hl : R.length = len) (hi : i < len) (hb : len ≤ 100000) (x y rs rg nd : Int) (r1 : R[i]? = some [.int .i64 x, .int .i64 y])
    (v : AV) (S : List (List AV)) (hv : LS 2 S v) (o : Option (Nat × List (List AV))) (hoL : (R38 o).length ≤ 10000) (c16 : F16 [.int .i64 x, .int .i64 nd] = some (.agg [.int .i64 x, .int .i64 nd], [])) :
    iter (ev Φ 3000 b5_1) [0, 1, 2, 3, 4, 11, 12] [38, 100400, 100600] (k + 1) ⟨[(0, .int .i64 rs), (1, .int .i64 rg), (2, .ro t 2 R), (3, v), (4, .int .i64 nd), (11, O38 o), (12, .int .i64 i)], H38 o, c⟩ =
      iter (ev Φ 3000 b5_1) [0, 1, 2, 3, 4, 11, 12] [38, 100400, 100600] k ⟨[(0, .int .i64 rs), (1, .int .i64 rg), (2, .ro t 2 R), (3, v), (4, .int .i64 nd), (11, O38 (some (c + 1, R38 o ++ [[.int .i64 x, .int .i64 nd]]))), (12, .int .i64 ((i + 1 : Nat) : Int))], H38 (some (c + 1, R38 o ++ [[.int .i64 x, .int .i64 nd]])), c + 2⟩ := by
  have i1 : (i : Int) < (len : Int) := by omega
  have il : i < R.length := by omega
  have r1' := (List.getElem?_eq_some_iff.1 r1).2
  have w1 : IntKind.i64.wrap ((i : Int) + 1) = ((i + 1 : Nat) : Int) := by rw [wrap_i64 _ (by omega) (by omega)]; omega
  have m1 : (16 : Nat) ≤ maxBytes := by simp [maxBytes]
  have m2 : (1 : Nat) * 16 ≤ maxBytes := by simp [maxBytes]
  generalize ((i + 1 : Nat) : Int) = j at *
  apply iter_norm
  rcases o with _ | ⟨gb, W⟩
  · simp -implicitDefEqProofs [b5_1, St.keep, H38, O38, R38, h16, c16, hi, i1, il, hl, r1, r1', w1, z24, m1, m2, aappend, hv.cell, hv.val, hv.cb, hv.cells1, hv.ld, hv.ldc, hv.mv, hv.low, hv.low1]
  · simp only [R38] at hoL
    have tW : W.take W.length = W := List.take_length
    have m4 : (W.length + 1) * 16 ≤ maxBytes := by unfold maxBytes; omega
    have n5 : ¬ (W.length + 1 ≤ W.length) := Nat.not_succ_le_self _
    simp -implicitDefEqProofs [b5_1, St.keep, H38, O38, R38, h16, c16, hi, i1, il, hl, r1, r1', w1, z24, m1, m2, m4, n5, tW, aappend, hv.cell, hv.val, hv.cb, hv.cells1, hv.ld, hv.ldc, hv.mv, hv.low, hv.low1]
def O52 (v : AV) : Option (Nat × List (List AV)) → AV
  | none => v
  | some (g, W) => .own 52000 g 0 W.length
def H52 : Option (Nat × List (List AV)) → AH
  | none => []
  | some (g, W) => [⟨52000, g, .arr 2 W false⟩]
def L52 (v : AV) : Option (Nat × List (List AV)) → AV
  | none => v
  | some (g, W) => .ro true 2 W
theorem step50 (Φ : Nat → Option FnF) (F10 : CallF) {G10 J10 Y10} (h10 : Φ 10 = some ⟨F10, G10, J10, Y10⟩) (t : Bool) (R : List (List AV)) (len i c k : Nat) (hl : R.length = len) (hi : i < len) (hb : len ≤ 100000) (x y rs rg : Int) (r1 : R[i]? = some [.int .i64 x, .int .i64 y])
    (v : AV) (S : List (List AV)) (hv : LS 2 S v) (o p : Option (Nat × List (List AV))) (ho : ∀ g W, o = some (g, W) → g < c) (M : List (List AV)) (c10 : F10 [L52 v p, .agg [.int .i64 x, .int .i64 y]] = some (.fr 2 M, [])) :
    iter (ev Φ 3000 b5_0) [0, 1, 2, 3, 11, 13, 14] [38, 52000, 100400, 100600] (k + 1) ⟨[(0, .int .i64 rs), (1, .int .i64 rg), (2, v), (3, .ro t 2 R), (11, O38 o), (13, O52 v p), (14, .int .i64 i)], H38 o ++ H52 p, c⟩ =
      iter (ev Φ 3000 b5_0) [0, 1, 2, 3, 11, 13, 14] [38, 52000, 100400, 100600] k ⟨[(0, .int .i64 rs), (1, .int .i64 rg), (2, v), (3, .ro t 2 R), (11, O38 o), (13, O52 v (some (c, M))), (14, .int .i64 ((i + 1 : Nat) : Int))], H38 o ++ H52 (some (c, M)), c + 1⟩ := by
  have i1 : (i : Int) < (len : Int) := by omega
  have il : i < R.length := by omega
  have r1' := (List.getElem?_eq_some_iff.1 r1).2
  have w1 : IntKind.i64.wrap ((i : Int) + 1) = ((i + 1 : Nat) : Int) := by rw [wrap_i64 _ (by omega) (by omega)]; omega
  generalize ((i + 1 : Nat) : Int) = j at *
  apply iter_norm
  have z24' := z24
  rcases o with _ | ⟨gb, W⟩ <;> rcases p with _ | ⟨gp, P⟩
  · simp only [L52] at c10
    simp -implicitDefEqProofs [b5_0, St.keep, H38, O38, H52, O52, h10, c10, hi, i1, il, hl, r1, r1', w1, hv.cell, hv.val, hv.cb, hv.cells1, hv.ld, hv.ldc, hv.mv, hv.low, hv.low1]
  · simp only [L52] at c10
    have tP : P.take P.length = P := List.take_length
    simp -implicitDefEqProofs [b5_0, St.keep, H38, O38, H52, O52, h10, c10, hi, i1, il, hl, r1, r1', w1, tP, hv.cell, hv.val, hv.cb, hv.cells1, hv.ld, hv.ldc, hv.mv, hv.low, hv.low1]
  · simp only [L52] at c10
    have hg := ho gb W rfl
    simp -implicitDefEqProofs [b5_0, St.keep, H38, O38, H52, O52, h10, c10, hi, i1, il, hl, r1, r1', w1, hg, hv.cell, hv.val, hv.cb, hv.cells1, hv.ld, hv.ldc, hv.mv, hv.low, hv.low1]
  · simp only [L52] at c10
    have hg := ho gb W rfl
    have tP : P.take P.length = P := List.take_length
    simp -implicitDefEqProofs [b5_0, St.keep, H38, O38, H52, O52, h10, c10, hi, i1, il, hl, r1, r1', w1, hg, tP, hv.cell, hv.val, hv.cb, hv.cells1, hv.ld, hv.ldc, hv.mv, hv.low, hv.low1]
end Go.Abs.Try

namespace Go.Abs.Try
open Go Go.Abs
set_option maxHeartbeats 16000000
set_option maxRecDepth 100000
set_option linter.unusedSimpArgs false
set_option linter.unusedVariables false
/-- the same regions, one node -/
def ones (nd : Int) (L : List Ad) : List Ad := L.map fun a => (a.1, nd)
theorem loop51 (Φ : Nat → Option FnF) (F16 : CallF) {G16 J16 Y16} (h16 : Φ 16 = some ⟨F16, G16, J16, Y16⟩) (t : Bool) (L : List Ad) (hb : L.length ≤ 2900) (rs rg nd : Int) (v : AV) (S : List (List AV)) (hv : LS 2 S v) (c16 : ∀ x, F16 [.int .i64 x, .int .i64 nd] = some (.agg [.int .i64 x, .int .i64 nd], [])) :
    ∀ (d i k c : Nat) (o : Option (Nat × List (List AV))), i + d = L.length → d < k → (R38 o).length = i → (∀ g W, o = some (g, W) → g < c) →
    ∃ E' c' o', iter (ev Φ 3000 b5_1) [0, 1, 2, 3, 4, 11, 12] [38, 100400, 100600] k ⟨[(0, .int .i64 rs), (1, .int .i64 rg), (2, .ro t 2 (ar L)), (3, v), (4, .int .i64 nd), (11, O38 o), (12, .int .i64 i)], H38 o, c⟩ = some (.exit 0, ⟨E', H38 o', c'⟩) ∧
      envOnly [0, 1, 2, 3, 11] E' = [(0, .int .i64 rs), (1, .int .i64 rg), (2, .ro t 2 (ar L)), (3, v), (11, O38 o')] ∧ R38 o' = R38 o ++ ar (ones nd (L.drop i)) ∧ (∀ g W, o' = some (g, W) → g < c')
  | d, i, 0, c, o, hi, hk, hr, hg => by omega
  | 0, i, k + 1, c, o, hi, hk, hr, hg => by
    have n1 : ¬ ((i : Int) < (L.length : Int)) := by omega
    have n2 : ¬ (i < L.length) := by omega
    have la := ar_len L
    rw [List.drop_of_length_le (by omega)]
    refine ⟨[(0, .int .i64 rs), (1, .int .i64 rg), (2, .ro t 2 (ar L)), (3, v), (4, .int .i64 nd), (11, O38 o), (12, .int .i64 i), (23, .int .i64 i), (24, .ro t 2 (ar L)), (25, .int .i64 L.length), (26, .bool false)], c, o, ?_, by simp, by simp [ones, ar], hg⟩
    rw [iter_succ]
    rcases o with _ | ⟨g, W⟩ <;> simp -implicitDefEqProofs [b5_1, n1, n2, la, O38, H38]
  | d + 1, i, k + 1, c, o, hi, hk, hr, hg => by
    have hil : i < L.length := by omega
    have da : L.drop i = gA L i :: L.drop (i + 1) := by rw [gA_of hil]; exact List.drop_eq_getElem_cons hil
    have st := step51 Φ F16 h16 t (ar L) L.length i c k (ar_len L) hil (by omega) (gA L i).1 (gA L i).2 rs rg nd (ar_get hil) v S hv o (by omega) (c16 _)
    obtain ⟨E', c', o', e1, e2, e3, e4⟩ := loop51 Φ F16 h16 t L hb rs rg nd v S hv c16 d (i + 1) k (c + 2) (some (c + 1, R38 o ++ [[.int .i64 (gA L i).1, .int .i64 nd]])) (by omega) (by omega) (by show (R38 o ++ [_]).length = i + 1; rw [List.length_append, hr]; rfl) (by intro g W h; cases h; omega)
    refine ⟨E', c', o', by rw [st]; exact e1, e2, ?_, e4⟩
    rw [e3, da]
    simp [R38, ones, ar, av]
theorem loop50 (Φ : Nat → Option FnF) (F10 : CallF) {G10 J10 Y10} (h10 : Φ 10 = some ⟨F10, G10, J10, Y10⟩) (t : Bool) (L : List Ad) (hb : L.length ≤ 1400) (rs rg : Int) (v : AV) (D : List Ad) (hv : LS 2 (ar D) v) (hD : D.length ≤ 200) (o : Option (Nat × List (List AV)))
    (c10 : ∀ (w : AV) (A : List Ad) (a : Ad), LS 2 (ar A) w → A.length ≤ 2900 → F10 [w, .agg (av a)] = some (.fr 2 (ar (addA a A)), [])) :
    ∀ (d i k c : Nat) (p : Option (Nat × List (List AV))) (A : List Ad), i + d = L.length → d < k → LS 2 (ar A) (L52 v p) → (∀ a ∈ D, a ∈ A) → A.length ≤ 200 + i → (∀ g W, o = some (g, W) → g < c) →
    ∃ E' c' p' A', iter (ev Φ 3000 b5_0) [0, 1, 2, 3, 11, 13, 14] [38, 52000, 100400, 100600] k ⟨[(0, .int .i64 rs), (1, .int .i64 rg), (2, v), (3, .ro t 2 (ar L)), (11, O38 o), (13, O52 v p), (14, .int .i64 i)], H38 o ++ H52 p, c⟩ = some (.exit 2, ⟨E', H38 o ++ H52 p', c'⟩) ∧
      envOnly [0, 1, 2, 11, 13] E' = [(0, .int .i64 rs), (1, .int .i64 rg), (2, v), (11, O38 o), (13, O52 v p')] ∧ LS 2 (ar A') (L52 v p') ∧ (∀ a ∈ D, a ∈ A') ∧ A'.length ≤ 2900 ∧ c ≤ c'
  | d, i, 0, c, p, A, hi, hk, hA, hm, hlen, hg => by omega
  | 0, i, k + 1, c, p, A, hi, hk, hA, hm, hlen, hg => by
    have n1 : ¬ ((i : Int) < (L.length : Int)) := by omega
    have n2 : ¬ (i < L.length) := by omega
    have la := ar_len L
    refine ⟨[(0, .int .i64 rs), (1, .int .i64 rg), (2, v), (3, .ro t 2 (ar L)), (11, O38 o), (13, O52 v p), (14, .int .i64 i), (40, .int .i64 i), (41, .ro t 2 (ar L)), (42, .int .i64 L.length), (43, .bool false)], c, p, A, ?_, by simp, hA, hm, by omega, Nat.le_refl _⟩
    rw [iter_succ]
    rcases o with _ | ⟨g, W⟩ <;> rcases p with _ | ⟨g', W'⟩ <;> simp -implicitDefEqProofs [b5_0, n1, n2, la, O38, H38, O52, H52]
  | d + 1, i, k + 1, c, p, A, hi, hk, hA, hm, hlen, hg => by
    have hil : i < L.length := by omega
    have hlA := add_len (gA L i) A
    have st := step50 Φ F10 h10 t (ar L) L.length i c k (ar_len L) hil (by omega) (gA L i).1 (gA L i).2 rs rg (ar_get hil) v (ar D) hv o p hg _ (c10 _ A (gA L i) hA (by omega))
    obtain ⟨E', c', p', A', e1, e2, e3, e4, e5, e6⟩ := loop50 Φ F10 h10 t L hb rs rg v D hv hD o c10 d (i + 1) k (c + 1) (some (c, ar (addA (gA L i) A))) (addA (gA L i) A) (by omega) (by omega) (.inr (.inr ⟨true, rfl⟩)) (fun a ha => (add_mem (gA L i) A).2 a (hm a ha)) (by omega) (fun g W h => Nat.lt_succ_of_lt (hg g W h))
    exact ⟨E', c', p', A', by rw [st]; exact e1, e2, e3, e4, e5, by omega⟩
/-- law 5, its plain part -/
theorem cnt_mono {M L : List Ad} (h : ∀ a ∈ M, a ∈ L) (s : Int) : cnt M s ≤ cnt L s := by
  have h1 := h (s, 1)
  have h2 := h (s, 2)
  have h3 := h (s, 3)
  unfold cnt
  by_cases m1 : (s, (1 : Int)) ∈ M <;> by_cases m2 : (s, (2 : Int)) ∈ M <;> by_cases m3 : (s, (3 : Int)) ∈ M <;> simp only [m1, m2, m3, ↓reduceIte] <;> simp_all only [true_implies, ↓reduceIte] <;> repeat' split
  all_goals omega
theorem hv_mono {M L : List Ad} (h : ∀ a ∈ M, a ∈ L) (rg : Int) : ∀ (d : Nat) (s : Int), hvFrom M rg s d ≤ hvFrom L rg s d
  | 0, s => Int.le_refl _
  | d + 1, s => by
    rw [hvFrom, hvFrom]
    have h1 := hv_mono h rg d (s + 1)
    have h2 : hv1 M rg s ≤ hv1 L rg s := by
      have := cnt_mono h s
      unfold hv1
      by_cases a : s ≠ rg ∧ cnt M s > 1
      · rw [if_pos a, if_pos ⟨a.1, by omega⟩]; omega
      · rw [if_neg a]; split <;> omega
    omega
theorem enV_mono {M L : List Ad} (h : ∀ a ∈ M, a ∈ L) {rs rg : Int} (he : enV rs rg M = true) : enV rs rg L = true := by
  unfold enV at he ⊢
  rw [Bool.and_eq_true, decide_eq_true_eq] at he ⊢
  have := hv_mono h rg rs.toNat 1
  exact ⟨he.1, by omega⟩
theorem cnt_ones (nd : Int) (L : List Ad) (s : Int) : cnt (ones nd L) s ≤ 1 := by
  have h : ∀ x : Int, (s, x) ∈ ones nd L → x = nd := by
    intro x hx
    unfold ones at hx
    obtain ⟨a, _, e⟩ := List.mem_map.1 hx
    exact (Prod.mk.inj e).2.symm
  have h1 := h 1
  have h2 := h 2
  have h3 := h 3
  unfold cnt
  by_cases m1 : (s, (1 : Int)) ∈ ones nd L <;> by_cases m2 : (s, (2 : Int)) ∈ ones nd L <;> by_cases m3 : (s, (3 : Int)) ∈ ones nd L <;> simp only [m1, m2, m3, ↓reduceIte] <;> simp_all only [true_implies] <;> omega
theorem hv_ones (nd : Int) (L : List Ad) (rg : Int) : ∀ (d : Nat) (s : Int), hvFrom (ones nd L) rg s d = 0
  | 0, s => rfl
  | d + 1, s => by
    rw [hvFrom, hv_ones nd L rg d (s + 1)]
    have := cnt_ones nd L s
    unfold hv1
    rw [if_neg (by omega)]; rfl
theorem enV_ones (nd : Int) (L : List Ad) (rs rg : Int) : enV rs rg (ones nd L) = false := by
  unfold enV
  rw [hv_ones]
  cases h : okR rs rg
  · rfl
  · obtain ⟨h1, h2, h3, h4⟩ := okR_true h
    rw [decide_eq_false (by omega)]; rfl
end Go.Abs.Try

namespace Go.Abs.Try
open Go Go.Abs
set_option maxHeartbeats 16000000
set_option maxRecDepth 100000
set_option linter.unusedSimpArgs false
set_option linter.unusedVariables false
def L38 : Option (Nat × List (List AV)) → AV
  | none => .nilS
  | some (_, W) => .ro true 2 W
theorem law5_long (Φ : Nat → Option FnF) (v w : AV) (R S : List (List AV)) (hv : LS 2 R v) (hw : LS 2 S w) (hn : 200 < R.length ∨ 200 < S.length) (rs rg nd : Int) : evFun Φ 3000 a5 [.int .i64 rs, .int .i64 rg, v, w, .int .i64 nd] = some (.bool true, []) := by
  have hl := hv.len
  have hlw := hw.len
  by_cases h1 : 200 < R.length
  · have n1 : (200 : Int) < R.length := by omega
    simp -implicitDefEqProofs [a5, c5, hl, n1, h1, hv.cell, hv.val, hw.cell, hw.val]
  · have h2 := hn.resolve_left h1
    have n1 : ¬ (200 : Int) < R.length := by omega
    have n2 : (200 : Int) < S.length := by omega
    simp -implicitDefEqProofs [a5, c5, hl, hlw, n1, n2, h1, h2, hv.cell, hv.val, hw.cell, hw.val]
theorem law5_of (Φ : Nat → Option FnF) (F13 F14 : CallF) {G13 J13 Y13 G14 J14 Y14} (h13 : Φ 13 = some ⟨F13, G13, J13, Y13⟩) (h14 : Φ 14 = some ⟨F14, G14, J14, Y14⟩)
    (v w : AV) (R S : List (List AV)) (hv : LS 2 R v) (hw : LS 2 S w) (hn : R.length ≤ 200) (hm : S.length ≤ 200) (rs rg nd : Int) (o p : Option (Nat × List (List AV))) (E1 E2 : Env) (c1 c2 : Nat) (ho : ∀ g W, o = some (g, W) → g < c2) (b1 b2 : Bool) (hb : b1 = false ∨ (b1 = true ∧ b2 = true))
    (c13 : F13 [] = some (.bool true, [])) (c14a : F14 [.int .i64 rs, .int .i64 rg, v] = some (.bool b1, [])) (c14b : F14 [.int .i64 rs, .int .i64 rg, L52 v p] = some (.bool b2, [])) (c14c : F14 [.int .i64 rs, .int .i64 rg, L38 o] = some (.bool false, []))
    (l1 : iter (ev Φ 3000 b5_1) [0, 1, 2, 3, 4, 11, 12] [38, 100400, 100600] 3000 ⟨[(0, .int .i64 rs), (1, .int .i64 rg), (2, v), (3, w), (4, .int .i64 nd), (11, .nilS), (12, .int .i64 0)], [], 0⟩ = some (.exit 0, ⟨E1, H38 o, c1⟩))
    (e1 : envOnly [0, 1, 2, 3, 11] E1 = [(0, .int .i64 rs), (1, .int .i64 rg), (2, v), (3, w), (11, O38 o)])
    (l2 : iter (ev Φ 3000 b5_0) [0, 1, 2, 3, 11, 13, 14] [38, 52000, 100400, 100600] 3000 ⟨[(0, .int .i64 rs), (1, .int .i64 rg), (2, v), (3, w), (11, O38 o), (13, v), (14, .int .i64 0)], H38 o, c1⟩ = some (.exit 2, ⟨E2, H38 o ++ H52 p, c2⟩))
    (e2 : envOnly [0, 1, 2, 11, 13] E2 = [(0, .int .i64 rs), (1, .int .i64 rg), (2, v), (11, O38 o), (13, O52 v p)]) :
    evFun Φ 3000 a5 [.int .i64 rs, .int .i64 rg, v, w, .int .i64 nd] = some (.bool true, []) := by
  have hl := hv.len
  have hlw := hw.len
  have n1 : ¬ (200 : Int) < R.length := by omega
  have n2 : ¬ 200 < R.length := by omega
  have n3 : ¬ (200 : Int) < S.length := by omega
  have n4 : ¬ 200 < S.length := by omega
  rcases o with _ | ⟨g, W⟩ <;> rcases p with _ | ⟨g', W'⟩ <;> simp only [O38, H38, O52, H52, L38, L52, List.nil_append, List.cons_append, List.append_nil] at l1 l2 e1 e2 c14b c14c
  · rcases hb with rfl | ⟨rfl, rfl⟩
    · simp -implicitDefEqProofs [a5, c5, h13, h14, hl, hlw, n1, n2, n3, n4, hv.cell, hv.val, hv.low, hv.low1, hw.cell, hw.val]
      rw [iter_keep]; simp -implicitDefEqProofs
      rw [l1]; simp -implicitDefEqProofs [e1, hv.cell, hv.val, hv.low, hv.low1, hw.cell, hw.val]
      rw [iter_keep]; simp -implicitDefEqProofs
      rw [l2]; simp -implicitDefEqProofs [e2, h13, h14, c13, c14a, c14b, c14c, hv.cell, hv.val, hv.cb, hv.ld, hv.ldc, hv.mv, hv.low, hv.low1]
    · simp -implicitDefEqProofs [a5, c5, h13, h14, hl, hlw, n1, n2, n3, n4, hv.cell, hv.val, hv.low, hv.low1, hw.cell, hw.val]
      rw [iter_keep]; simp -implicitDefEqProofs
      rw [l1]; simp -implicitDefEqProofs [e1, hv.cell, hv.val, hv.low, hv.low1, hw.cell, hw.val]
      rw [iter_keep]; simp -implicitDefEqProofs
      rw [l2]; simp -implicitDefEqProofs [e2, h13, h14, c13, c14a, c14b, c14c, hv.cell, hv.val, hv.cb, hv.ld, hv.ldc, hv.mv, hv.low, hv.low1]
  · have tW' : W'.take W'.length = W' := List.take_length
    rcases hb with rfl | ⟨rfl, rfl⟩
    · simp -implicitDefEqProofs [a5, c5, h13, h14, hl, hlw, n1, n2, n3, n4, hv.cell, hv.val, hv.low, hv.low1, hw.cell, hw.val]
      rw [iter_keep]; simp -implicitDefEqProofs
      rw [l1]; simp -implicitDefEqProofs [e1, hv.cell, hv.val, hv.low, hv.low1, hw.cell, hw.val]
      rw [iter_keep]; simp -implicitDefEqProofs
      rw [l2]; simp -implicitDefEqProofs [e2, h13, h14, c13, c14a, c14b, c14c, tW', hv.cell, hv.val, hv.cb, hv.ld, hv.ldc, hv.mv, hv.low, hv.low1]
    · simp -implicitDefEqProofs [a5, c5, h13, h14, hl, hlw, n1, n2, n3, n4, hv.cell, hv.val, hv.low, hv.low1, hw.cell, hw.val]
      rw [iter_keep]; simp -implicitDefEqProofs
      rw [l1]; simp -implicitDefEqProofs [e1, hv.cell, hv.val, hv.low, hv.low1, hw.cell, hw.val]
      rw [iter_keep]; simp -implicitDefEqProofs
      rw [l2]; simp -implicitDefEqProofs [e2, h13, h14, c13, c14a, c14b, c14c, tW', hv.cell, hv.val, hv.cb, hv.ld, hv.ldc, hv.mv, hv.low, hv.low1]
  · have tW : W.take W.length = W := List.take_length
    have hg := ho g W rfl
    rcases hb with rfl | ⟨rfl, rfl⟩
    · simp -implicitDefEqProofs [a5, c5, h13, h14, hl, hlw, n1, n2, n3, n4, hv.cell, hv.val, hv.low, hv.low1, hw.cell, hw.val]
      rw [iter_keep]; simp -implicitDefEqProofs
      rw [l1]; simp -implicitDefEqProofs [e1, hv.cell, hv.val, hv.low, hv.low1, hw.cell, hw.val]
      rw [iter_keep]; simp -implicitDefEqProofs
      rw [l2]; simp -implicitDefEqProofs [e2, h13, h14, c13, c14a, c14b, c14c, tW, hg, hv.cell, hv.val, hv.cb, hv.ld, hv.ldc, hv.mv, hv.low, hv.low1]
    · simp -implicitDefEqProofs [a5, c5, h13, h14, hl, hlw, n1, n2, n3, n4, hv.cell, hv.val, hv.low, hv.low1, hw.cell, hw.val]
      rw [iter_keep]; simp -implicitDefEqProofs
      rw [l1]; simp -implicitDefEqProofs [e1, hv.cell, hv.val, hv.low, hv.low1, hw.cell, hw.val]
      rw [iter_keep]; simp -implicitDefEqProofs
      rw [l2]; simp -implicitDefEqProofs [e2, h13, h14, c13, c14a, c14b, c14c, tW, hg, hv.cell, hv.val, hv.cb, hv.ld, hv.ldc, hv.mv, hv.low, hv.low1]
  · have tW : W.take W.length = W := List.take_length
    have tW' : W'.take W'.length = W' := List.take_length
    have hg := ho g W rfl
    rcases hb with rfl | ⟨rfl, rfl⟩
    · simp -implicitDefEqProofs [a5, c5, h13, h14, hl, hlw, n1, n2, n3, n4, hv.cell, hv.val, hv.low, hv.low1, hw.cell, hw.val]
      rw [iter_keep]; simp -implicitDefEqProofs
      rw [l1]; simp -implicitDefEqProofs [e1, hv.cell, hv.val, hv.low, hv.low1, hw.cell, hw.val]
      rw [iter_keep]; simp -implicitDefEqProofs
      rw [l2]; simp -implicitDefEqProofs [e2, h13, h14, c13, c14a, c14b, c14c, tW, tW', hg, hv.cell, hv.val, hv.cb, hv.ld, hv.ldc, hv.mv, hv.low, hv.low1]
    · simp -implicitDefEqProofs [a5, c5, h13, h14, hl, hlw, n1, n2, n3, n4, hv.cell, hv.val, hv.low, hv.low1, hw.cell, hw.val]
      rw [iter_keep]; simp -implicitDefEqProofs
      rw [l1]; simp -implicitDefEqProofs [e1, hv.cell, hv.val, hv.low, hv.low1, hw.cell, hw.val]
      rw [iter_keep]; simp -implicitDefEqProofs
      rw [l2]; simp -implicitDefEqProofs [e2, h13, h14, c13, c14a, c14b, c14c, tW, tW', hg, hv.cell, hv.val, hv.cb, hv.ld, hv.ldc, hv.mv, hv.low, hv.low1]
theorem loop51_nil (Φ : Nat → Option FnF) (v w : AV) (S : List (List AV)) (hv : LS 2 [] v) (hw : LS 2 S w) (rs rg nd : Int) : iter (ev Φ 3000 b5_1) [0, 1, 2, 3, 4, 11, 12] [38, 100400, 100600] 3000 ⟨[(0, .int .i64 rs), (1, .int .i64 rg), (2, v), (3, w), (4, .int .i64 nd), (11, .nilS), (12, .int .i64 0)], [], 0⟩ =
    some (.exit 0, ⟨[(0, .int .i64 rs), (1, .int .i64 rg), (2, v), (3, w), (4, .int .i64 nd), (11, .nilS), (12, .int .i64 0), (23, .int .i64 0), (24, v), (25, .int .i64 0), (26, .bool false)], [], 0⟩) := by
  have hl := hv.len
  rw [show (3000 : Nat) = 2999 + 1 from rfl, iter_succ]
  simp -implicitDefEqProofs [b5_1, hl, hv.cell, hv.val, hw.cell, hw.val]
theorem loop50_nil (Φ : Nat → Option FnF) (v w : AV) (S : List (List AV)) (hv : LS 2 S v) (hw : LS 2 [] w) (o : Option (Nat × List (List AV))) (c : Nat) (rs rg : Int) : iter (ev Φ 3000 b5_0) [0, 1, 2, 3, 11, 13, 14] [38, 52000, 100400, 100600] 3000 ⟨[(0, .int .i64 rs), (1, .int .i64 rg), (2, v), (3, w), (11, O38 o), (13, v), (14, .int .i64 0)], H38 o, c⟩ =
    some (.exit 2, ⟨[(0, .int .i64 rs), (1, .int .i64 rg), (2, v), (3, w), (11, O38 o), (13, v), (14, .int .i64 0), (40, .int .i64 0), (41, w), (42, .int .i64 0), (43, .bool false)], H38 o, c⟩) := by
  have hl := hw.len
  rw [show (3000 : Nat) = 2999 + 1 from rfl, iter_succ]
  rcases o with _ | ⟨g, W⟩ <;> simp -implicitDefEqProofs [b5_0, O38, H38, hl, hv.cell, hv.val, hw.cell, hw.val]
theorem law5 (x0 x1 x2 x3 x4 : AV) (o0 : okRow [.int .i64] [x0]) (o1 : okRow [.int .i64] [x1]) (o2 : okRow [.sl shA] [x2]) (o3 : okRow [.sl shA] [x3]) (o4 : okRow [.int .i64] [x4]) : E 10 5 [x0, x1, x2, x3, x4] = some (.bool true, []) := by
  obtain ⟨rs, _, h0, _, _⟩ := o0.int
  obtain ⟨rfl, _⟩ : x0 = _ ∧ _ := by simpa using h0
  obtain ⟨rg, _, h1, _, _⟩ := o1.int
  obtain ⟨rfl, _⟩ : x1 = _ ∧ _ := by simpa using h1
  obtain ⟨nd, _, h4, _, _⟩ := o4.int
  obtain ⟨rfl, _⟩ : x4 = _ ∧ _ := by simpa using h4
  obtain ⟨L, hv⟩ := ok_alist o2
  obtain ⟨M, hw⟩ := ok_alist o3
  rw [e5]
  by_cases hn : 200 < L.length ∨ 200 < M.length
  · exact law5_long (Q 9) x2 x3 (ar L) (ar M) hv hw (by rw [ar_len, ar_len]; exact hn) rs rg nd
  · have hL : L.length ≤ 200 := by omega
    have hM : M.length ≤ 200 := by omega
    have w1 : ∃ E' c' o', iter (ev (Q 9) 3000 b5_1) [0, 1, 2, 3, 4, 11, 12] [38, 100400, 100600] 3000 ⟨[(0, .int .i64 rs), (1, .int .i64 rg), (2, x2), (3, x3), (4, .int .i64 nd), (11, .nilS), (12, .int .i64 0)], [], 0⟩ = some (.exit 0, ⟨E', H38 o', c'⟩) ∧
        envOnly [0, 1, 2, 3, 11] E' = [(0, .int .i64 rs), (1, .int .i64 rg), (2, x2), (3, x3), (11, O38 o')] ∧ R38 o' = ar (ones nd L) ∧ (∀ g W, o' = some (g, W) → g < c') := by
      by_cases l0 : L = []
      · subst l0
        exact ⟨_, 0, none, loop51_nil (Q 9) x2 x3 (ar M) hv hw rs rg nd, by simp [O38], rfl, fun g W h => by cases h⟩
      · obtain ⟨t, rfl⟩ := hv.ro (fun h => l0 (List.length_eq_zero_iff.1 (by rw [← ar_len L, h]; rfl)))
        have := loop51 (Q 9) _ (q16 8) t L (by omega) rs rg nd x3 (ar M) hw (fun x => at16 8 x nd) L.length 0 3000 0 none (by omega) (by omega) rfl (fun g W h => by cases h)
        rw [List.drop_zero] at this
        exact this
    obtain ⟨E1, c1, o', l1, f1, r1, g1⟩ := w1
    have w2 : ∃ E' c' p' A', iter (ev (Q 9) 3000 b5_0) [0, 1, 2, 3, 11, 13, 14] [38, 52000, 100400, 100600] 3000 ⟨[(0, .int .i64 rs), (1, .int .i64 rg), (2, x2), (3, x3), (11, O38 o'), (13, x2), (14, .int .i64 0)], H38 o', c1⟩ = some (.exit 2, ⟨E', H38 o' ++ H52 p', c'⟩) ∧
        envOnly [0, 1, 2, 11, 13] E' = [(0, .int .i64 rs), (1, .int .i64 rg), (2, x2), (11, O38 o'), (13, O52 x2 p')] ∧ LS 2 (ar A') (L52 x2 p') ∧ (∀ a ∈ L, a ∈ A') ∧ A'.length ≤ 2900 ∧ c1 ≤ c' := by
      by_cases l0 : M = []
      · subst l0
        exact ⟨_, c1, none, L, by rw [show H38 o' ++ H52 none = H38 o' from List.append_nil _]; exact loop50_nil (Q 9) x2 x3 (ar L) hv hw o' c1 rs rg, by simp [O52], hv, fun _ h => h, by omega, Nat.le_refl _⟩
      · obtain ⟨t, rfl⟩ := hw.ro (fun h => l0 (List.length_eq_zero_iff.1 (by rw [← ar_len M, h]; rfl)))
        have := loop50 (Q 9) _ (q10 8) t M (by omega) rs rg x2 L hv hL o' (fun w A a hA hlA => add10 3 w A hA hlA a) M.length 0 3000 c1 none L (by omega) (by omega) hv (fun _ h => h) (by omega) g1
        obtain ⟨E', c', p', A', k1, k2, k3, k4, k5, k6⟩ := this
        refine ⟨E', c', p', A', ?_, k2, k3, k4, k5, k6⟩
        simpa [H52, O52] using k1
    obtain ⟨E2, c2, p', A', l2, f2, hA, hm, hlA, hc⟩ := w2
    have hOnes : LS 2 (ar (ones nd L)) (L38 o') := by
      rcases o' with _ | ⟨g, W⟩
      · exact .inl ⟨rfl, r1.symm⟩
      · simp only [R38] at r1
        subst r1
        exact .inr (.inr ⟨true, rfl⟩)
    have c14a := enough14 8 L x2 hv (by omega) rs rg
    have c14b := enough14 8 A' _ hA hlA rs rg
    have c14c := enough14 8 (ones nd L) _ hOnes (by unfold ones; rw [List.length_map]; omega) rs rg
    rw [enV_ones] at c14c
    exact law5_of (Q 9) _ _ (q13 8) (q14 8) x2 x3 (ar L) (ar M) hv hw (by rw [ar_len]; exact hL) (by rw [ar_len]; exact hM) rs rg nd o' p' E1 E2 c1 c2 (fun g W h => Nat.lt_of_lt_of_le (g1 g W h) hc) (enV rs rg L) (enV rs rg A') (by cases hb : enV rs rg L; exact .inl rfl; exact .inr ⟨rfl, enV_mono hm hb⟩) rows13 c14a c14b c14c l1 f1 l2 f2
theorem ref5 : Refines Go.Proofs.Try.prog 5 (E 10 5) := ref 10 5 (q5 9)
end Go.Abs.Try

namespace Go.Abs.Try
open Go Go.Abs
set_option maxHeartbeats 16000000
set_option maxRecDepth 100000
set_option linter.unusedSimpArgs false
set_option linter.unusedVariables false
/-- one address of both that counts -/
def good (rs rg : Int) (a b : Ad) : Bool := decide (a = b) && (a.1 != rg) && decide (1 ≤ a.1) && decide (a.1 ≤ rs) && decide (1 ≤ a.2) && decide (a.2 ≤ 3)
theorem stepM0_no (Φ : Nat → Option FnF) (ta tb : Bool) (R S : List (List AV)) (i j c k len lem : Nat) (hl : R.length = len) (hm : S.length = lem) (hi : i < len) (hj : j < lem) (hb : len ≤ 100000) (hb2 : lem ≤ 100000) (rs rg x y u v : Int) (r1 : R[i]? = some [.int .i64 x, .int .i64 y]) (r2 : S[j]? = some [.int .i64 u, .int .i64 v])
    (h : good rs rg (x, y) (u, v) = false) : iter (ev Φ 3000 b4_0) [0, 1, 2, 3, 9, 10] [100400, 100600] (k + 1) ⟨[(0, .int .i64 rs), (1, .int .i64 rg), (2, .ro ta 2 R), (3, .ro tb 2 S), (9, .int .i64 i), (10, .int .i64 j)], [], c⟩ =
      iter (ev Φ 3000 b4_0) [0, 1, 2, 3, 9, 10] [100400, 100600] k ⟨[(0, .int .i64 rs), (1, .int .i64 rg), (2, .ro ta 2 R), (3, .ro tb 2 S), (9, .int .i64 i), (10, .int .i64 ((j + 1 : Nat) : Int))], [], c⟩ := by
  have j1 : (j : Int) < (lem : Int) := by omega
  have il : i < R.length := by omega
  have il2 : j < S.length := by omega
  have r1' := (List.getElem?_eq_some_iff.1 r1).2
  have r2' := (List.getElem?_eq_some_iff.1 r2).2
  have w1 : IntKind.i64.wrap ((j : Int) + 1) = ((j + 1 : Nat) : Int) := by rw [wrap_i64 _ (by omega) (by omega)]; omega
  have hq := aeq2 x y u v
  generalize ((j + 1 : Nat) : Int) = jj at *
  unfold good at h
  apply iter_norm
  by_cases q0 : (x, y) = (u, v)
  · rw [decide_eq_true q0] at h hq
    by_cases q1 : x = rg
    · subst q1
      have q1' : (x != x) = false := by simp
      simp -implicitDefEqProofs [-aeqCells, b4_0, St.keep, hi, hj, j1, il, il2, hl, hm, r1, r1', r2, r2', w1, hq, q1']
    · by_cases q2 : 1 ≤ x
      · by_cases q3 : x ≤ rs
        · by_cases q4 : 1 ≤ y
          · by_cases q5 : y ≤ 3
            · simp [q1, q2, q3, q4, q5] at h
            · have q1' : (x != rg) = true := by simpa using q1
              simp -implicitDefEqProofs [-aeqCells, b4_0, St.keep, hi, hj, j1, il, il2, hl, hm, r1, r1', r2, r2', w1, hq, q1, q1', q2, q3, q4, q5]
          · have q1' : (x != rg) = true := by simpa using q1
            simp -implicitDefEqProofs [-aeqCells, b4_0, St.keep, hi, hj, j1, il, il2, hl, hm, r1, r1', r2, r2', w1, hq, q1, q1', q2, q3, q4]
        · have q1' : (x != rg) = true := by simpa using q1
          simp -implicitDefEqProofs [-aeqCells, b4_0, St.keep, hi, hj, j1, il, il2, hl, hm, r1, r1', r2, r2', w1, hq, q1, q1', q2, q3]
      · have q1' : (x != rg) = true := by simpa using q1
        simp -implicitDefEqProofs [-aeqCells, b4_0, St.keep, hi, hj, j1, il, il2, hl, hm, r1, r1', r2, r2', w1, hq, q1, q1', q2]
  · rw [decide_eq_false q0] at hq
    simp -implicitDefEqProofs [-aeqCells, b4_0, St.keep, hi, hj, j1, il, il2, hl, hm, r1, r1', r2, r2', w1, hq]
theorem stepM0_yes (Φ : Nat → Option FnF) (F13 : CallF) {G13 J13 Y13} (h13 : Φ 13 = some ⟨F13, G13, J13, Y13⟩) (c13 : F13 [] = some (.bool true, [])) (ta tb : Bool) (R S : List (List AV)) (i j c k len lem : Nat) (hl : R.length = len) (hm : S.length = lem) (hi : i < len) (hj : j < lem) (hb : len ≤ 100000) (hb2 : lem ≤ 100000) (rs rg x y u v : Int) (r1 : R[i]? = some [.int .i64 x, .int .i64 y]) (r2 : S[j]? = some [.int .i64 u, .int .i64 v])
    (h : good rs rg (x, y) (u, v) = true) : ∃ E', iter (ev Φ 3000 b4_0) [0, 1, 2, 3, 9, 10] [100400, 100600] (k + 1) ⟨[(0, .int .i64 rs), (1, .int .i64 rg), (2, .ro ta 2 R), (3, .ro tb 2 S), (9, .int .i64 i), (10, .int .i64 j)], [], c⟩ =
      some (.ret, ⟨E', [], c⟩) ∧ envGet E' 8 = some (.bool true) := by
  have j1 : (j : Int) < (lem : Int) := by omega
  have il : i < R.length := by omega
  have il2 : j < S.length := by omega
  have r1' := (List.getElem?_eq_some_iff.1 r1).2
  have r2' := (List.getElem?_eq_some_iff.1 r2).2
  have hq := aeq2 x y u v
  unfold good at h
  rw [Bool.and_eq_true, Bool.and_eq_true, Bool.and_eq_true, Bool.and_eq_true, Bool.and_eq_true] at h
  obtain ⟨⟨⟨⟨⟨q0, q1⟩, q2⟩, q3⟩, q4⟩, q5⟩ := h
  rw [q0] at hq
  have q2 := of_decide_eq_true q2
  have q3 := of_decide_eq_true q3
  have q4 := of_decide_eq_true q4
  have q5 := of_decide_eq_true q5
  simp only at q1 q2 q3 q4 q5
  have q1' : ¬ x = rg := by simpa using q1
  rw [iter_succ]
  simp -implicitDefEqProofs [-aeqCells, b4_0, h13, c13, hi, hj, j1, il, il2, hl, hm, r1, r1', r2, r2', hq, q1, q1', q2, q3, q4, q5]
theorem loopM0 (Φ : Nat → Option FnF) (F13 : CallF) {G13 J13 Y13} (h13 : Φ 13 = some ⟨F13, G13, J13, Y13⟩) (c13 : F13 [] = some (.bool true, [])) (ta tb : Bool) (A B : List Ad) (hA : A.length ≤ 2900) (hB : B.length ≤ 2900) (i c : Nat) (hi : i < A.length) (rs rg : Int) : ∀ (d j k : Nat), j + d = B.length → d < k →
    if (B.drop j).any (good rs rg (gA A i)) then ∃ E', iter (ev Φ 3000 b4_0) [0, 1, 2, 3, 9, 10] [100400, 100600] k ⟨[(0, .int .i64 rs), (1, .int .i64 rg), (2, .ro ta 2 (ar A)), (3, .ro tb 2 (ar B)), (9, .int .i64 i), (10, .int .i64 j)], [], c⟩ = some (.ret, ⟨E', [], c⟩) ∧ envGet E' 8 = some (.bool true)
    else ∃ E', iter (ev Φ 3000 b4_0) [0, 1, 2, 3, 9, 10] [100400, 100600] k ⟨[(0, .int .i64 rs), (1, .int .i64 rg), (2, .ro ta 2 (ar A)), (3, .ro tb 2 (ar B)), (9, .int .i64 i), (10, .int .i64 j)], [], c⟩ = some (.exit 2, ⟨E', [], c⟩) ∧ envOnly [0, 1, 2, 3, 9] E' = [(0, .int .i64 rs), (1, .int .i64 rg), (2, .ro ta 2 (ar A)), (3, .ro tb 2 (ar B)), (9, .int .i64 i)]
  | d, j, 0, hj, hk => by omega
  | 0, j, k + 1, hj, hk => by
    have n1 : ¬ ((j : Int) < (B.length : Int)) := by omega
    have n2 : ¬ (j < B.length) := by omega
    have la := ar_len B
    rw [List.drop_of_length_le (by omega)]
    simp only [List.any_nil, Bool.false_eq_true, ↓reduceIte]
    refine ⟨[(0, .int .i64 rs), (1, .int .i64 rg), (2, .ro ta 2 (ar A)), (3, .ro tb 2 (ar B)), (9, .int .i64 i), (10, .int .i64 j), (40, .int .i64 j), (41, .ro tb 2 (ar B)), (42, .int .i64 B.length), (43, .bool false)], ?_, by simp⟩
    rw [iter_succ]
    simp -implicitDefEqProofs [b4_0, n1, n2, la]
  | d + 1, j, k + 1, hj, hk => by
    have hjl : j < B.length := by omega
    have da : B.drop j = gA B j :: B.drop (j + 1) := by rw [gA_of hjl]; exact List.drop_eq_getElem_cons hjl
    have ih := loopM0 Φ F13 h13 c13 ta tb A B hA hB i c hi rs rg d (j + 1) k (by omega) (by omega)
    rw [da, List.any_cons]
    cases hg : good rs rg (gA A i) (gA B j) with
    | false =>
      have st := stepM0_no Φ ta tb (ar A) (ar B) i j c k A.length B.length (ar_len A) (ar_len B) hi hjl (by omega) (by omega) rs rg _ _ _ _ (ar_get hi) (ar_get hjl) hg
      rw [Bool.false_or, st]
      exact ih
    | true =>
      have st := stepM0_yes Φ F13 h13 c13 ta tb (ar A) (ar B) i j c k A.length B.length (ar_len A) (ar_len B) hi hjl (by omega) (by omega) rs rg _ _ _ _ (ar_get hi) (ar_get hjl) hg
      rw [Bool.true_or, if_pos rfl]
      exact st
theorem stepM1_no (Φ : Nat → Option FnF) (va vb : AV) (R S : List (List AV)) (ha : LS 2 R va) (hb : LS 2 S vb) (i c k len : Nat) (hl : R.length = len) (hi : i < len) (hln : len ≤ 100000) (rs rg : Int) (E1 : Env)
    (l1 : iter (ev Φ 3000 b4_0) [0, 1, 2, 3, 9, 10] [100400, 100600] 3000 ⟨[(0, .int .i64 rs), (1, .int .i64 rg), (2, va), (3, vb), (9, .int .i64 i), (10, .int .i64 0)], [], c⟩ = some (.exit 2, ⟨E1, [], c⟩))
    (e1 : envOnly [0, 1, 2, 3, 9] E1 = [(0, .int .i64 rs), (1, .int .i64 rg), (2, va), (3, vb), (9, .int .i64 i)]) :
    iter (ev Φ 3000 b4_1) [0, 1, 2, 3, 9] [100400, 100600] (k + 1) ⟨[(0, .int .i64 rs), (1, .int .i64 rg), (2, va), (3, vb), (9, .int .i64 i)], [], c⟩ =
      iter (ev Φ 3000 b4_1) [0, 1, 2, 3, 9] [100400, 100600] k ⟨[(0, .int .i64 rs), (1, .int .i64 rg), (2, va), (3, vb), (9, .int .i64 ((i + 1 : Nat) : Int))], [], c⟩ := by
  have i1 : (i : Int) < (len : Int) := by omega
  have hlv := ha.len
  have w1 : IntKind.i64.wrap ((i : Int) + 1) = ((i + 1 : Nat) : Int) := by rw [wrap_i64 _ (by omega) (by omega)]; omega
  generalize ((i + 1 : Nat) : Int) = jj at *
  apply iter_norm
  simp -implicitDefEqProofs [b4_1, St.keep, hlv, hl, hi, i1, ha.cell, ha.val, ha.low, ha.low1, hb.cell, hb.val, hb.low, hb.low1]
  rw [iter_keep]; simp -implicitDefEqProofs
  rw [l1]; simp -implicitDefEqProofs [e1, w1, ha.cell, ha.val, ha.low, ha.low1, hb.cell, hb.val, hb.low, hb.low1]
  exact ⟨_, _, ⟨rfl, rfl⟩, rfl, by simp, by simp, rfl⟩
theorem stepM1_yes (Φ : Nat → Option FnF) (va vb : AV) (R S : List (List AV)) (ha : LS 2 R va) (hb : LS 2 S vb) (i c k len : Nat) (hl : R.length = len) (hi : i < len) (hln : len ≤ 100000) (rs rg : Int) (E1 : Env)
    (l1 : iter (ev Φ 3000 b4_0) [0, 1, 2, 3, 9, 10] [100400, 100600] 3000 ⟨[(0, .int .i64 rs), (1, .int .i64 rg), (2, va), (3, vb), (9, .int .i64 i), (10, .int .i64 0)], [], c⟩ = some (.ret, ⟨E1, [], c⟩)) :
    iter (ev Φ 3000 b4_1) [0, 1, 2, 3, 9] [100400, 100600] (k + 1) ⟨[(0, .int .i64 rs), (1, .int .i64 rg), (2, va), (3, vb), (9, .int .i64 i)], [], c⟩ = some (.ret, ⟨E1, [], c⟩) := by
  have i1 : (i : Int) < (len : Int) := by omega
  have hlv := ha.len
  rw [iter_succ]
  simp -implicitDefEqProofs [b4_1, hlv, hl, hi, i1, ha.cell, ha.val, ha.low, ha.low1, hb.cell, hb.val, hb.low, hb.low1]
  rw [iter_keep]; simp -implicitDefEqProofs
  rw [l1]
end Go.Abs.Try

namespace Go.Abs.Try
open Go Go.Abs
set_option maxHeartbeats 16000000
set_option maxRecDepth 100000
set_option linter.unusedSimpArgs false
set_option linter.unusedVariables false
theorem loopM1 (Φ : Nat → Option FnF) (F13 : CallF) {G13 J13 Y13} (h13 : Φ 13 = some ⟨F13, G13, J13, Y13⟩) (c13 : F13 [] = some (.bool true, [])) (ta tb : Bool) (A B : List Ad) (hA : A.length ≤ 2900) (hB : B.length ≤ 2900) (c : Nat) (rs rg : Int) : ∀ (d i k : Nat), i + d = A.length → d < k → (∃ a ∈ A.drop i, ∃ b ∈ B, good rs rg a b = true) →
    ∃ E', iter (ev Φ 3000 b4_1) [0, 1, 2, 3, 9] [100400, 100600] k ⟨[(0, .int .i64 rs), (1, .int .i64 rg), (2, .ro ta 2 (ar A)), (3, .ro tb 2 (ar B)), (9, .int .i64 i)], [], c⟩ = some (.ret, ⟨E', [], c⟩) ∧ envGet E' 8 = some (.bool true)
  | d, i, 0, hi, hk, hx => by omega
  | 0, i, k + 1, hi, hk, hx => by
    rw [List.drop_of_length_le (by omega)] at hx
    obtain ⟨a, ha, _⟩ := hx
    cases ha
  | d + 1, i, k + 1, hi, hk, hx => by
    have hil : i < A.length := by omega
    have da : A.drop i = gA A i :: A.drop (i + 1) := by rw [gA_of hil]; exact List.drop_eq_getElem_cons hil
    have hLa : LS 2 (ar A) (.ro ta 2 (ar A)) := .inr (.inr ⟨ta, rfl⟩)
    have hLb : LS 2 (ar B) (.ro tb 2 (ar B)) := .inr (.inr ⟨tb, rfl⟩)
    have lp := loopM0 Φ F13 h13 c13 ta tb A B hA hB i c hil rs rg B.length 0 3000 (by omega) (by omega)
    rw [List.drop_zero] at lp
    cases hany : B.any (good rs rg (gA A i)) with
    | true =>
      rw [hany, if_pos rfl] at lp
      obtain ⟨E', l1, e1⟩ := lp
      exact ⟨E', stepM1_yes Φ _ _ _ _ hLa hLb i c k A.length (ar_len A) hil (by omega) rs rg E' l1, e1⟩
    | false =>
      rw [hany, if_neg Bool.false_ne_true] at lp
      obtain ⟨E', l1, e1⟩ := lp
      rw [stepM1_no Φ _ _ _ _ hLa hLb i c k A.length (ar_len A) hil (by omega) rs rg E' l1 e1]
      refine loopM1 Φ F13 h13 c13 ta tb A B hA hB c rs rg d (i + 1) k (by omega) (by omega) ?_
      obtain ⟨a, ha, b, hb, hg⟩ := hx
      rw [da, List.mem_cons] at ha
      rcases ha with rfl | ha
      · rw [List.any_eq_false] at hany
        exact absurd hg (hany b hb)
      · exact ⟨a, ha, b, hb, hg⟩
theorem law4_no (Φ : Nat → Option FnF) (F13 F14 : CallF) {G13 J13 Y13 G14 J14 Y14} (h13 : Φ 13 = some ⟨F13, G13, J13, Y13⟩) (h14 : Φ 14 = some ⟨F14, G14, J14, Y14⟩) (c13 : F13 [] = some (.bool true, []))
    (v w : AV) (R S : List (List AV)) (hv : LS 2 R v) (hw : LS 2 S w) (rs rg : Int) (b1 b2 : Bool) (c14a : R.length ≤ 200 → F14 [.int .i64 rs, .int .i64 rg, v] = some (.bool b1, [])) (c14b : S.length ≤ 200 → F14 [.int .i64 rs, .int .i64 rg, w] = some (.bool b2, []))
    (h : 200 < R.length ∨ 200 < S.length ∨ b1 = false ∨ b2 = false) : evFun Φ 3000 a4 [.int .i64 rs, .int .i64 rg, v, w] = some (.bool true, []) := by
  have hl := hv.len
  have hlw := hw.len
  by_cases q1 : 200 < R.length
  · have n1 : (200 : Int) < R.length := by omega
    simp -implicitDefEqProofs [a4, c4, h13, c13, hl, n1, q1, hv.cell, hv.val, hw.cell, hw.val]
  · have n1 : ¬ (200 : Int) < R.length := by omega
    by_cases q2 : 200 < S.length
    · have n2 : (200 : Int) < S.length := by omega
      simp -implicitDefEqProofs [a4, c4, h13, c13, hl, hlw, n1, q1, n2, q2, hv.cell, hv.val, hw.cell, hw.val]
    · have n2 : ¬ (200 : Int) < S.length := by omega
      have c14a := c14a (by omega)
      have c14b := c14b (by omega)
      cases b1
      · simp -implicitDefEqProofs [a4, c4, h13, h14, c13, c14a, hl, hlw, n1, q1, n2, q2, hv.cell, hv.val, hv.cb, hv.ld, hv.ldc, hv.mv, hw.cell, hw.val]
      · have h2 : b2 = false := by simpa [q1, q2] using h
        subst h2
        simp -implicitDefEqProofs [a4, c4, h13, h14, c13, c14a, c14b, hl, hlw, n1, q1, n2, q2, hv.cell, hv.val, hv.cb, hv.ld, hv.ldc, hv.mv, hw.cell, hw.val, hw.cb, hw.ld, hw.ldc, hw.mv]
theorem law4_yes (Φ : Nat → Option FnF) (F13 F14 : CallF) {G13 J13 Y13 G14 J14 Y14} (h13 : Φ 13 = some ⟨F13, G13, J13, Y13⟩) (h14 : Φ 14 = some ⟨F14, G14, J14, Y14⟩)
    (v w : AV) (R S : List (List AV)) (hv : LS 2 R v) (hw : LS 2 S w) (hn : R.length ≤ 200) (hm : S.length ≤ 200) (rs rg : Int) (c14a : F14 [.int .i64 rs, .int .i64 rg, v] = some (.bool true, [])) (c14b : F14 [.int .i64 rs, .int .i64 rg, w] = some (.bool true, []))
    (E1 : Env) (c1 : Nat) (l1 : iter (ev Φ 3000 b4_1) [0, 1, 2, 3, 9] [100400, 100600] 3000 ⟨[(0, .int .i64 rs), (1, .int .i64 rg), (2, v), (3, w), (9, .int .i64 0)], [], 0⟩ = some (.ret, ⟨E1, [], c1⟩)) (e1 : envGet E1 8 = some (.bool true)) :
    evFun Φ 3000 a4 [.int .i64 rs, .int .i64 rg, v, w] = some (.bool true, []) := by
  have hl := hv.len
  have hlw := hw.len
  have n1 : ¬ (200 : Int) < R.length := by omega
  have n2 : ¬ 200 < R.length := by omega
  have n3 : ¬ (200 : Int) < S.length := by omega
  have n4 : ¬ 200 < S.length := by omega
  simp -implicitDefEqProofs [a4, c4, h13, h14, c14a, c14b, hl, hlw, n1, n2, n3, n4, hv.cell, hv.val, hv.cb, hv.ld, hv.ldc, hv.mv, hv.low, hv.low1, hw.cell, hw.val, hw.cb, hw.ld, hw.ldc, hw.mv, hw.low, hw.low1]
  rw [iter_keep]; simp -implicitDefEqProofs
  rw [l1]; simp -implicitDefEqProofs [e1]
/-- the plain part: two rows with more than half of the other regions each have a region in common -/
theorem hv_two (A B : List Ad) (rg : Int) : ∀ (d : Nat) (s : Int), (∀ x : Int, s ≤ x → x < s + d → x ≠ rg → ¬ (cnt A x > 1 ∧ cnt B x > 1)) → hvFrom A rg s d + hvFrom B rg s d ≤ d - (if s ≤ rg ∧ rg < s + d then 1 else 0)
  | 0, s, h => by simp only [hvFrom]; split <;> omega
  | d + 1, s, h => by
    have ih := hv_two A B rg d (s + 1) (fun x h1 h2 => h x (by omega) (by omega))
    have h0 := h s (Int.le_refl _) (by omega)
    rw [hvFrom, hvFrom]
    have h1 : hv1 A rg s + hv1 B rg s ≤ if s = rg then 0 else 1 := by
      unfold hv1
      by_cases e : s = rg
      · rw [if_pos e, if_neg (fun k => k.1 e), if_neg (fun k => k.1 e)]; omega
      · have := h0 e
        rw [if_neg e]
        by_cases a : cnt A s > 1
        · rw [if_pos ⟨e, a⟩, if_neg (fun k => this ⟨a, k.2⟩)]; omega
        · rw [if_neg (fun k => a k.2)]; split <;> omega
    by_cases e : s = rg
    · rw [if_pos e] at h1
      rw [if_neg (by omega)] at ih
      rw [if_pos (by omega)]
      omega
    · rw [if_neg e] at h1
      by_cases f : s + 1 ≤ rg ∧ rg < s + 1 + d
      · rw [if_pos f] at ih
        rw [if_pos (by omega)]
        omega
      · rw [if_neg f] at ih
        rw [if_neg (by omega)]
        omega
theorem two_of (A B : List Ad) (s : Int) (ha : cnt A s > 1) (hb : cnt B s > 1) : ∃ n : Int, 1 ≤ n ∧ n ≤ 3 ∧ (s, n) ∈ A ∧ (s, n) ∈ B := by
  unfold cnt at ha hb
  by_cases h1 : (s, (1 : Int)) ∈ A ∧ (s, (1 : Int)) ∈ B
  · exact ⟨1, by omega, by omega, h1.1, h1.2⟩
  · by_cases h2 : (s, (2 : Int)) ∈ A ∧ (s, (2 : Int)) ∈ B
    · exact ⟨2, by omega, by omega, h2.1, h2.2⟩
    · by_cases h3 : (s, (3 : Int)) ∈ A ∧ (s, (3 : Int)) ∈ B
      · exact ⟨3, by omega, by omega, h3.1, h3.2⟩
      · exfalso
        by_cases a1 : (s, (1 : Int)) ∈ A <;> by_cases a2 : (s, (2 : Int)) ∈ A <;> by_cases a3 : (s, (3 : Int)) ∈ A <;> simp only [a1, a2, a3, ↓reduceIte, true_and, false_and, not_false_eq_true] at ha h1 h2 h3 <;> (try omega) <;> simp only [h1, h2, h3, ↓reduceIte] at hb <;> revert hb <;> (repeat' split) <;> omega
theorem meet {A B : List Ad} {rs rg : Int} (ha : enV rs rg A = true) (hb : enV rs rg B = true) : ∃ a ∈ A, ∃ b ∈ B, good rs rg a b = true := by
  unfold enV at ha hb
  rw [Bool.and_eq_true, decide_eq_true_eq] at ha hb
  obtain ⟨h1, h2, h3, h4⟩ := okR_true ha.1
  by_cases h : ∀ x : Int, 1 ≤ x → x < 1 + rs.toNat → x ≠ rg → ¬ (cnt A x > 1 ∧ cnt B x > 1)
  · exfalso
    have := hv_two A B rg rs.toNat 1 h
    rw [if_pos (by omega)] at this
    omega
  · have : ∃ x : Int, 1 ≤ x ∧ x < 1 + rs.toNat ∧ x ≠ rg ∧ cnt A x > 1 ∧ cnt B x > 1 := by
      apply Classical.byContradiction
      intro hc
      exact h (fun x q1 q2 q3 q4 => hc ⟨x, q1, q2, q3, q4.1, q4.2⟩)
    obtain ⟨x, q1, q2, q3, q4, q5⟩ := this
    obtain ⟨n, n1, n2, n3, n4⟩ := two_of A B x q4 q5
    refine ⟨(x, n), n3, (x, n), n4, ?_⟩
    unfold good
    simp only [decide_true, Bool.true_and, Bool.and_eq_true, bne_iff_ne, ne_eq, decide_eq_true_eq]
    exact ⟨⟨⟨⟨q3, q1⟩, by omega⟩, n1⟩, n2⟩
theorem law4 (x0 x1 x2 x3 : AV) (o0 : okRow [.int .i64] [x0]) (o1 : okRow [.int .i64] [x1]) (o2 : okRow [.sl shA] [x2]) (o3 : okRow [.sl shA] [x3]) : E 10 4 [x0, x1, x2, x3] = some (.bool true, []) := by
  obtain ⟨rs, _, h0, _, _⟩ := o0.int
  obtain ⟨rfl, _⟩ : x0 = _ ∧ _ := by simpa using h0
  obtain ⟨rg, _, h1, _, _⟩ := o1.int
  obtain ⟨rfl, _⟩ : x1 = _ ∧ _ := by simpa using h1
  obtain ⟨L, hv⟩ := ok_alist o2
  obtain ⟨M, hw⟩ := ok_alist o3
  rw [e4]
  have no : 200 < L.length ∨ 200 < M.length ∨ enV rs rg L = false ∨ enV rs rg M = false → evFun (Q 9) 3000 a4 [.int .i64 rs, .int .i64 rg, x2, x3] = some (.bool true, []) := fun h =>
    law4_no (Q 9) _ _ (q13 8) (q14 8) rows13 x2 x3 (ar L) (ar M) hv hw rs rg (enV rs rg L) (enV rs rg M) (fun hl => enough14 8 L x2 hv (by rw [ar_len] at hl; omega) rs rg) (fun hl => enough14 8 M x3 hw (by rw [ar_len] at hl; omega) rs rg) (by rw [ar_len, ar_len]; exact h)
  by_cases hL : 200 < L.length
  · exact no (.inl hL)
  · by_cases hM : 200 < M.length
    · exact no (.inr (.inl hM))
    · cases ha : enV rs rg L with
      | false => exact no (.inr (.inr (.inl ha)))
      | true =>
        cases hb : enV rs rg M with
        | false => exact no (.inr (.inr (.inr hb)))
        | true =>
          obtain ⟨a, ma, b, mb, hg⟩ := meet ha hb
          have c14a := enough14 8 L x2 hv (by omega) rs rg
          have c14b := enough14 8 M x3 hw (by omega) rs rg
          rw [ha] at c14a
          rw [hb] at c14b
          obtain ⟨t, rfl⟩ := hv.ro (fun h => by have := ar_len L; rw [h] at this; rw [List.length_eq_zero_iff.1 this.symm] at ma; cases ma)
          obtain ⟨t', rfl⟩ := hw.ro (fun h => by have := ar_len M; rw [h] at this; rw [List.length_eq_zero_iff.1 this.symm] at mb; cases mb)
          obtain ⟨E1, l1, e1⟩ := loopM1 (Q 9) _ (q13 8) rows13 t t' L M (by omega) (by omega) 0 rs rg L.length 0 3000 (by omega) (by omega) ⟨a, by rw [List.drop_zero]; exact ma, b, mb, hg⟩
          exact law4_yes (Q 9) _ _ (q13 8) (q14 8) _ _ (ar L) (ar M) hv hw (by rw [ar_len]; omega) (by rw [ar_len]; omega) rs rg c14a c14b E1 0 l1 e1
theorem ref4 : Refines Go.Proofs.Try.prog 4 (E 10 4) := ref 10 4 (q4 9)
end Go.Abs.Try

namespace Go.Abs.Try
open Go Go.Abs
set_option maxHeartbeats 16000000
set_option maxRecDepth 100000
set_option linter.unusedSimpArgs false
set_option linter.unusedVariables false
def B9 : Option (Nat × List (List AV) × Bool) → AH
  | none => []
  | some (g, W, f) => [⟨83000, g, .arr 36 W f⟩]
def H9 (g7 : Nat) (cells : List AV) (o : Option (Nat × List (List AV) × Bool)) : AH := ⟨7, g7, .var cells⟩ :: B9 o
/-- the cells of a claim of region 1 -/
def X9 (ep nd sz : Int) : List AV := .int .i64 1 :: .int .i64 ep :: .int .i64 nd :: .int .i64 sz :: List.drop 4 z39
theorem step94_out (Φ : Nat → Option FnF) (t : Bool) (R : List (List AV)) (len i c k g7 : Nat) (hg7 : g7 < c) (hl : R.length = len) (hi : i < len) (hb : len ≤ 100000) (nd ep sz tr tn rs e2 : Int) (r1 : R[i]? = some [.int .i64 nd, .int .i64 ep, .int .i64 sz, .int .i64 tr, .int .i64 tn])
    (cells : List AV) (o : Option (Nat × List (List AV) × Bool)) (h : ¬ (2 ≤ tr ∧ tr ≤ rs ∧ 1 ≤ tn ∧ tn ≤ 3)) :
    iter (ev Φ 3000 b9_4) [0, 1, 2, 7, 8] [7, 83000, 100200] (k + 1) ⟨[(0, .int .i64 rs), (1, .ro t 5 R), (2, .int .i64 e2), (7, .ptr 7 g7 0), (8, .int .i64 i)], H9 g7 cells o, c⟩ =
      iter (ev Φ 3000 b9_4) [0, 1, 2, 7, 8] [7, 83000, 100200] k ⟨[(0, .int .i64 rs), (1, .ro t 5 R), (2, .int .i64 e2), (7, .ptr 7 g7 0), (8, .int .i64 ((i + 1 : Nat) : Int))], H9 g7 cells o, c + 1⟩ := by
  have i1 : (i : Int) < (len : Int) := by omega
  have il : i < R.length := by omega
  have r1' := (List.getElem?_eq_some_iff.1 r1).2
  have w1 : IntKind.i64.wrap ((i : Int) + 1) = ((i + 1 : Nat) : Int) := by rw [wrap_i64 _ (by omega) (by omega)]; omega
  generalize ((i + 1 : Nat) : Int) = j at *
  unfold H9
  apply iter_norm
  rcases o with _ | ⟨g, W, f⟩
  all_goals
    by_cases q1 : tr < 2
    · simp -implicitDefEqProofs [b9_4, St.keep, B9, hi, i1, il, hl, r1, r1', w1, z56, q1]
    · by_cases q2 : rs < tr
      · simp -implicitDefEqProofs [b9_4, St.keep, B9, hi, i1, il, hl, r1, r1', w1, z56, q1, q2]
      · by_cases q3 : tn < 1
        · simp -implicitDefEqProofs [b9_4, St.keep, B9, hi, i1, il, hl, r1, r1', w1, z56, q1, q2, q3]
        · have q4 : 3 < tn := by omega
          simp -implicitDefEqProofs [b9_4, St.keep, B9, hi, i1, il, hl, r1, r1', w1, z56, q1, q2, q3, q4]
theorem step94_no (Φ : Nat → Option FnF) (F22 : CallF) {G22 J22 Y22} (h22 : Φ 22 = some ⟨F22, G22, J22, Y22⟩) (t : Bool) (R : List (List AV)) (len i c k g7 rn nn : Nat) (hg7 : g7 < c) (hl : R.length = len) (hi : i < len) (hb : len ≤ 100000) (nd ep sz rs e2 : Int) (r1 : R[i]? = some [.int .i64 nd, .int .i64 ep, .int .i64 sz, .int .i64 rn, .int .i64 nn])
    (cells : List AV) (o : Option (Nat × List (List AV) × Bool)) (a1 : 2 ≤ rn) (a2 : (rn : Int) ≤ rs) (a3 : 1 ≤ nn) (a4 : nn ≤ 3) (a5 : rn < 6) (lc : cells.length = 24) (v : AV) (S : List (List AV)) (hv : LS 36 S v) (g1 : cells[rn * 4 + nn]? = some v) (ho : ∀ g W f, o = some (g, W, f) → g < c) (e : Int) (he : (e == 0) = false)
    (c22 : F22 [v, .agg (X9 ep nd sz)] = some (.tup [.nilS, .int .i64 e], [])) :
    iter (ev Φ 3000 b9_4) [0, 1, 2, 7, 8] [7, 83000, 100200] (k + 1) ⟨[(0, .int .i64 rs), (1, .ro t 5 R), (2, .int .i64 e2), (7, .ptr 7 g7 0), (8, .int .i64 i)], H9 g7 cells o, c⟩ =
      iter (ev Φ 3000 b9_4) [0, 1, 2, 7, 8] [7, 83000, 100200] k ⟨[(0, .int .i64 rs), (1, .ro t 5 R), (2, .int .i64 e2), (7, .ptr 7 g7 0), (8, .int .i64 ((i + 1 : Nat) : Int))], H9 g7 cells o, c + 1⟩ := by
  have i1 : (i : Int) < (len : Int) := by omega
  have il : i < R.length := by omega
  have r1' := (List.getElem?_eq_some_iff.1 r1).2
  have g1' := (List.getElem?_eq_some_iff.1 g1).2
  have gl : rn * 4 + nn < cells.length := by omega
  have w1 : IntKind.i64.wrap ((i : Int) + 1) = ((i + 1 : Nat) : Int) := by rw [wrap_i64 _ (by omega) (by omega)]; omega
  have q1 : ¬ (rn : Int) < 2 := by omega
  have q2 : ¬ rs < (rn : Int) := by omega
  have q3 : ¬ (nn : Int) < 1 := by omega
  have q4 : ¬ 3 < (nn : Int) := by omega
  have q5 : nn < 4 := by omega
  have z1 : z39.length = 36 := rfl
  have hg7' : g7 < c + 1 := by omega
  have pz : (List.drop 4 z39).all AV.plain = true := rfl
  have lz : (List.drop 4 z39).length = 32 := rfl
  unfold X9 at c22
  generalize ((i + 1 : Nat) : Int) = j at *
  unfold H9
  apply iter_norm
  rcases o with _ | ⟨g, W, f⟩
  · simp -implicitDefEqProofs [b9_4, St.keep, B9, lz, plains_low pz, plains_cells pz, plains_in pz, plains_lend pz, plains_mv pz, h22, c22, he, hg7, hg7', hi, i1, il, hl, r1, r1', g1, g1', gl, lc, w1, z56, z1, q1, q2, q3, q4, q5, a5, hv.cell, hv.val, hv.cb, hv.cells1, hv.ld, hv.ldc, hv.mv, hv.low, hv.low1]
  · have hg : g < c + 1 := Nat.lt_succ_of_lt (ho g W f rfl)
    simp -implicitDefEqProofs [b9_4, hg, St.keep, B9, lz, plains_low pz, plains_cells pz, plains_in pz, plains_lend pz, plains_mv pz, h22, c22, he, hg7, hg7', hi, i1, il, hl, r1, r1', g1, g1', gl, lc, w1, z56, z1, q1, q2, q3, q4, q5, a5, hv.cell, hv.val, hv.cb, hv.cells1, hv.ld, hv.ldc, hv.mv, hv.low, hv.low1]
theorem step94_yes (Φ : Nat → Option FnF) (F22 : CallF) {G22 J22 Y22} (h22 : Φ 22 = some ⟨F22, G22, J22, Y22⟩) (t : Bool) (R : List (List AV)) (len i c k g7 rn nn : Nat) (hg7 : g7 < c) (hl : R.length = len) (hi : i < len) (hb : len ≤ 100000) (nd ep sz rs e2 : Int) (r1 : R[i]? = some [.int .i64 nd, .int .i64 ep, .int .i64 sz, .int .i64 rn, .int .i64 nn])
    (cells : List AV) (o : Option (Nat × List (List AV) × Bool)) (a1 : 2 ≤ rn) (a2 : (rn : Int) ≤ rs) (a3 : 1 ≤ nn) (a4 : nn ≤ 3) (a5 : rn < 6) (lc : cells.length = 24) (pc : cells.all AV.plain = true) (v : AV) (S : List (List AV)) (hv : LS 36 S v) (g1 : cells[rn * 4 + nn]? = some v) (ho : ∀ g W f, o = some (g, W, f) → g < c) (W1 : List (List AV))
    (c22 : F22 [v, .agg (X9 ep nd sz)] = some (.tup [.fr 36 W1, .int .i64 0], [])) :
    iter (ev Φ 3000 b9_4) [0, 1, 2, 7, 8] [7, 83000, 100200] (k + 1) ⟨[(0, .int .i64 rs), (1, .ro t 5 R), (2, .int .i64 e2), (7, .ptr 7 g7 0), (8, .int .i64 i)], H9 g7 cells o, c⟩ =
      iter (ev Φ 3000 b9_4) [0, 1, 2, 7, 8] [7, 83000, 100200] k ⟨[(0, .int .i64 rs), (1, .ro t 5 R), (2, .int .i64 e2), (7, .ptr 7 g7 0), (8, .int .i64 ((i + 1 : Nat) : Int))], H9 g7 (cells.take (rn * 4 + nn) ++ .ro false 36 W1 :: cells.drop (rn * 4 + nn + 1)) (some (c + 1, W1, true)), c + 2⟩ := by
  have i1 : (i : Int) < (len : Int) := by omega
  have il : i < R.length := by omega
  have r1' := (List.getElem?_eq_some_iff.1 r1).2
  have g1' := (List.getElem?_eq_some_iff.1 g1).2
  have gl : rn * 4 + nn < cells.length := by omega
  have w1 : IntKind.i64.wrap ((i : Int) + 1) = ((i + 1 : Nat) : Int) := by rw [wrap_i64 _ (by omega) (by omega)]; omega
  have q1 : ¬ (rn : Int) < 2 := by omega
  have q2 : ¬ rs < (rn : Int) := by omega
  have q3 : ¬ (nn : Int) < 1 := by omega
  have q4 : ¬ 3 < (nn : Int) := by omega
  have q5 : nn < 4 := by omega
  have z1 : z39.length = 36 := rfl
  have hg7' : g7 < c + 1 := by omega
  have pz : (List.drop 4 z39).all AV.plain = true := rfl
  have lz : (List.drop 4 z39).length = 32 := rfl
  unfold X9 at c22
  generalize ((i + 1 : Nat) : Int) = j at *
  have tW1 : W1.take W1.length = W1 := List.take_length
  have gl2 : rn * 4 + nn + 1 ≤ 24 := by omega
  have pc2 : (cells.take (rn * 4 + nn) ++ AV.ro false 36 W1 :: cells.drop (rn * 4 + nn + 1)).all AV.plain = true := by
    rw [List.all_eq_true] at pc ⊢
    intro x hx
    rcases List.mem_append.1 hx with h | h
    · exact pc x (List.mem_of_mem_take h)
    · rcases List.mem_cons.1 h with rfl | h
      · rfl
      · exact pc x (List.mem_of_mem_drop h)
  generalize hset : cells.take (rn * 4 + nn) ++ AV.ro false 36 W1 :: cells.drop (rn * 4 + nn + 1) = cs2 at *
  have k1 : c < c + 1 + 1 := by omega
  have k2 : g7 < c + 1 + 1 := by omega
  have k3 : c + 1 < c + 1 + 1 := by omega
  unfold H9
  apply iter_norm
  rcases o with _ | ⟨g, W, f⟩
  · simp -implicitDefEqProofs [b9_4, St.keep, B9, lz, plains_low pz, plains_cells pz, plains_in pz, plains_lend pz, plains_mv pz, h22, c22, tW1, gl2, hset, plains_low pc2, k1, k2, k3, hg7, hg7', hi, i1, il, hl, r1, r1', g1, g1', gl, lc, w1, z56, z1, q1, q2, q3, q4, q5, a5, hv.cell, hv.val, hv.cb, hv.cells1, hv.ld, hv.ldc, hv.mv, hv.low, hv.low1]
  · have hg : g < c + 1 := Nat.lt_succ_of_lt (ho g W f rfl)
    simp -implicitDefEqProofs [b9_4, hg, St.keep, B9, lz, plains_low pz, plains_cells pz, plains_in pz, plains_lend pz, plains_mv pz, h22, c22, tW1, gl2, hset, plains_low pc2, k1, k2, k3, hg7, hg7', hi, i1, il, hl, r1, r1', g1, g1', gl, lc, w1, z56, z1, q1, q2, q3, q4, q5, a5, hv.cell, hv.val, hv.cb, hv.cells1, hv.ld, hv.ldc, hv.mv, hv.low, hv.low1]
end Go.Abs.Try

namespace Go.Abs.Try
open Go Go.Abs
set_option maxHeartbeats 16000000
set_option maxRecDepth 100000
set_option linter.unusedSimpArgs false
set_option linter.unusedVariables false
/-- a claim of region 1, without a root -/
def cl9 (ep nd sz : Int) : Cl := (1, ep, nd, sz, List.replicate 32 0)
theorem X9_cv (ep nd sz : Int) : X9 ep nd sz = cv (cl9 ep nd sz) := rfl
theorem cl9_w (ep nd sz : Int) : W32 (cl9 ep nd sz) := rfl
abbrev Of := Int × Int × Int × Int × Int
def orow (o : Of) : List AV := [.int .i64 o.1, .int .i64 o.2.1, .int .i64 o.2.2.1, .int .i64 o.2.2.2.1, .int .i64 o.2.2.2.2]
def gO (L : List Of) (i : Nat) : Of := L.getD i (0, 0, 0, 0, 0)
theorem gO_of {L : List Of} {i : Nat} (h : i < L.length) : gO L i = L[i] := by unfold gO; rw [List.getD_eq_getElem?_getD, List.getElem?_eq_getElem h]; rfl
def orows (L : List Of) : List (List AV) := L.map orow
theorem orows_len (L : List Of) : (orows L).length = L.length := by simp [orows]
theorem orows_get {L : List Of} {i : Nat} (h : i < L.length) : (orows L)[i]? = some (orow (gO L i)) := by rw [gO_of h]; simp [orows, h]
/-- the tables -/
structure TB (cells : List AV) (m : Nat) : Prop where
  len : cells.length = 24
  pl : cells.all AV.plain = true
  tb : ∀ j, j < 24 → ∃ v D, cells[j]? = some v ∧ LS 36 (cr D) v ∧ AW D ∧ D.length ≤ m
theorem TB.init : TB z54 0 := ⟨rfl, rfl, fun j hj => ⟨.nilS, [], by unfold z54; rw [List.getElem?_replicate]; simp [hj], .inl ⟨rfl, rfl⟩, (fun c hc => by cases hc), Nat.le_refl _⟩⟩
theorem TB.mono {cells : List AV} {m m' : Nat} (h : TB cells m) (hm : m ≤ m') : TB cells m' := ⟨h.len, h.pl, fun j hj => by obtain ⟨v, D, h1, h2, h3, h4⟩ := h.tb j hj; exact ⟨v, D, h1, h2, h3, by omega⟩⟩
theorem TB.put {cells : List AV} {m j : Nat} (h : TB cells m) (hj : j < 24) (W : List Cl) (hW : AW W) (hl : W.length ≤ m + 1) : TB (cells.take j ++ .ro false 36 (cr W) :: cells.drop (j + 1)) (m + 1) := by
  have e : cells.take j ++ .ro false 36 (cr W) :: cells.drop (j + 1) = cells.set j (.ro false 36 (cr W)) := by
    rw [List.set_eq_take_append_cons_drop, if_pos (by rw [h.len]; exact hj)]
  rw [e]
  refine ⟨by rw [List.length_set]; exact h.len, ?_, fun q hq => ?_⟩
  · have := h.pl
    rw [List.all_eq_true] at this ⊢
    intro x hx
    rcases List.mem_or_eq_of_mem_set hx with h1 | h1
    · exact this x h1
    · rw [h1]; rfl
  · by_cases e : q = j
    · subst e
      exact ⟨_, W, by rw [List.getElem?_set, if_pos rfl, if_pos (by rw [h.len]; exact hq)], .inr (.inr ⟨false, rfl⟩), hW, hl⟩
    · obtain ⟨v, D, h1, h2, h3, h4⟩ := h.tb q hq
      exact ⟨v, D, by rw [List.getElem?_set, if_neg (fun k => e k.symm)]; exact h1, h2, h3, by omega⟩
/-- what Record answers: refused, or a row -/
theorem recV_or (v : AV) (D : List Cl) (hD : AW D) (x : Cl) (hx : W32 x) (p : Nat) : (∃ e : Int, (e == 0) = false ∧ recV v D x p = .tup [.nilS, .int .i64 e]) ∨ (∃ W, AW W ∧ W.length ≤ D.length + 1 ∧ recV v D x p = .tup [.fr 36 (cr W), .int .i64 0]) := by
  unfold recV
  split
  · split
    · split
      · exact .inr ⟨D, hD, by omega, rfl⟩
      · exact .inl ⟨111, rfl, rfl⟩
    · exact .inr ⟨_, hD.ins hx p, by rw [ins_len]; exact Nat.le_refl _, rfl⟩
  · exact .inl ⟨110, rfl, rfl⟩
theorem loop94 (t : Bool) (L : List Of) (hL : L.length ≤ 100) (rs e2 : Int) (hrs : rs ≤ 5) (g7 : Nat) : ∀ (d i k c : Nat) (cells : List AV) (o : Option (Nat × List (List AV) × Bool)), i + d = L.length → d < k → TB cells i → g7 < c → (∀ g W f, o = some (g, W, f) → g < c) →
    ∃ E' c' cells' o', iter (ev (Q 9) 3000 b9_4) [0, 1, 2, 7, 8] [7, 83000, 100200] k ⟨[(0, .int .i64 rs), (1, .ro t 5 (orows L)), (2, .int .i64 e2), (7, .ptr 7 g7 0), (8, .int .i64 i)], H9 g7 cells o, c⟩ = some (.exit 0, ⟨E', H9 g7 cells' o', c'⟩) ∧
      envOnly [0, 1, 2, 7] E' = [(0, .int .i64 rs), (1, .ro t 5 (orows L)), (2, .int .i64 e2), (7, .ptr 7 g7 0)] ∧ TB cells' L.length ∧ g7 < c' ∧ (∀ g W f, o' = some (g, W, f) → g < c')
  | d, i, 0, c, cells, o, hi, hk, hT, hg, ho => by omega
  | 0, i, k + 1, c, cells, o, hi, hk, hT, hg, ho => by
    have n1 : ¬ ((i : Int) < (L.length : Int)) := by omega
    have n2 : ¬ (i < L.length) := by omega
    have la := orows_len L
    refine ⟨[(0, .int .i64 rs), (1, .ro t 5 (orows L)), (2, .int .i64 e2), (7, .ptr 7 g7 0), (8, .int .i64 i), (32, .int .i64 i), (33, .ro t 5 (orows L)), (34, .int .i64 L.length), (35, .bool false)], c, cells, o, ?_, by simp, hT.mono (by omega), hg, ho⟩
    unfold H9
    rw [iter_succ]
    rcases o with _ | ⟨g, W, f⟩ <;> simp -implicitDefEqProofs [b9_4, B9, n1, n2, la]
  | d + 1, i, k + 1, c, cells, o, hi, hk, hT, hg, ho => by
    have hil : i < L.length := by omega
    have r1 := orows_get hil
    obtain ⟨nd, ep, sz, tr, tn, hx⟩ : ∃ nd ep sz tr tn, gO L i = (nd, ep, sz, tr, tn) := ⟨_, _, _, _, _, rfl⟩
    rw [hx] at r1
    have r1 : (orows L)[i]? = some [.int .i64 nd, .int .i64 ep, .int .i64 sz, .int .i64 tr, .int .i64 tn] := r1
    by_cases hr : 2 ≤ tr ∧ tr ≤ rs ∧ 1 ≤ tn ∧ tn ≤ 3
    · obtain ⟨b1, b2, b3, b4⟩ := hr
      obtain ⟨rn, rfl⟩ := Int.eq_ofNat_of_zero_le (show 0 ≤ tr by omega)
      obtain ⟨nn, rfl⟩ := Int.eq_ofNat_of_zero_le (show 0 ≤ tn by omega)
      obtain ⟨v, D, t1, t2, t3, t4⟩ := hT.tb (rn * 4 + nn) (by omega)
      obtain ⟨p, C⟩ := cut_of D (cl9 ep nd sz)
      have c22 := record22 4 v D t2 t3 (by omega) (cl9 ep nd sz) (cl9_w ep nd sz) p C
      rcases recV_or v D t3 (cl9 ep nd sz) (cl9_w ep nd sz) p with ⟨e, he, hq⟩ | ⟨W, hW, hWl, hq⟩
      · rw [hq, ← X9_cv] at c22
        have st := step94_no (Q 9) _ (q22 8) t (orows L) L.length i c k g7 rn nn hg (orows_len L) hil (by omega) nd ep sz rs e2 r1 cells o (by omega) b2 (by omega) (by omega) (by omega) hT.len v _ t2 t1 ho e he c22
        obtain ⟨E', c', cells', o', f1, f2, f3, f4, f5⟩ := loop94 t L hL rs e2 hrs g7 d (i + 1) k (c + 1) cells o (by omega) (by omega) (hT.mono (by omega)) (by omega) (fun g W f h => Nat.lt_succ_of_lt (ho g W f h))
        exact ⟨E', c', cells', o', by rw [st]; exact f1, f2, f3, f4, f5⟩
      · rw [hq, ← X9_cv] at c22
        have st := step94_yes (Q 9) _ (q22 8) t (orows L) L.length i c k g7 rn nn hg (orows_len L) hil (by omega) nd ep sz rs e2 r1 cells o (by omega) b2 (by omega) (by omega) (by omega) hT.len hT.pl v _ t2 t1 ho (cr W) c22
        obtain ⟨E', c', cells', o', f1, f2, f3, f4, f5⟩ := loop94 t L hL rs e2 hrs g7 d (i + 1) k (c + 2) _ (some (c + 1, cr W, true)) (by omega) (by omega) (hT.put (j := rn * 4 + nn) (by omega) W hW (by omega)) (by omega) (fun g W f h => by cases h; omega)
        exact ⟨E', c', cells', o', by rw [st]; exact f1, f2, f3, f4, f5⟩
    · have st := step94_out (Q 9) t (orows L) L.length i c k g7 hg (orows_len L) hil (by omega) nd ep sz tr tn rs e2 r1 cells o hr
      obtain ⟨E', c', cells', o', f1, f2, f3, f4, f5⟩ := loop94 t L hL rs e2 hrs g7 d (i + 1) k (c + 1) cells o (by omega) (by omega) (hT.mono (by omega)) (by omega) (fun g W f h => Nat.lt_succ_of_lt (ho g W f h))
      exact ⟨E', c', cells', o', by rw [st]; exact f1, f2, f3, f4, f5⟩
end Go.Abs.Try

namespace Go.Abs.Try
open Go Go.Abs
set_option maxHeartbeats 16000000
set_option maxRecDepth 100000
set_option linter.unusedSimpArgs false
set_option linter.unusedVariables false
def O1 : Option (Nat × List (List AV)) → AV
  | none => .nilS
  | some (g, W) => .own 144 g 0 W.length
def B1 : Option (Nat × List (List AV)) → AH
  | none => []
  | some (g, W) => [⟨144, g, .arr 2 W false⟩]
/-- what stands behind in the memory: names above 144 -/
structure Rst (rest : AH) : Prop where
  p18 : ∀ g b, AH.put rest 18 g b = ⟨18, g, b⟩ :: rest
  p143 : ∀ g b, AH.put rest 143 g b = ⟨143, g, b⟩ :: rest
  p144 : ∀ g b, AH.put rest 144 g b = ⟨144, g, b⟩ :: rest
  o1 : AH.only [7, 14, 144, 151, 83000, 100200] rest = rest
  o2 : AH.only [7, 14, 18, 144, 151, 83000, 100200] rest = rest
theorem step91_no (Φ : Nat → Option FnF) (F20 : CallF) {G20 J20 Y20} (h20 : Φ 20 = some ⟨F20, G20, J20, Y20⟩) (t : Bool) (R : List (List AV)) (wv : AV) (hwv : wv.cellb = true) (i c k g7 g14 rn nn : Nat) (rs e2 : Int) (hg7 : g7 < c) (hg14 : g14 < c) (cells X : List AV) (rest : AH) (hr : Rst rest) (ol : Option (Nat × List (List AV)))
    (a3 : nn ≤ 3) (a5 : rn < 6) (lc : cells.length = 24) (v : AV) (S : List (List AV)) (hv : LS 36 S v) (g1 : cells[rn * 4 + nn]? = some v) (Y : List AV) (lY : Y.length = 36) (pY : Y.all AV.plain = true) (lX : X.length = 36) (fd : Bool) (hq : fd = true → aeqCells k36 Y X = some false)
    (c20 : F20 [v, .int .i64 1, .int .i64 e2] = some (.tup [.agg Y, .bool fd], [])) :
    iter (ev Φ 3000 b9_1) [0, 1, 2, 7, 12, 13, 14, 15, 16, 17] [7, 14, 144, 151, 83000, 100200] (k + 1) ⟨[(0, .int .i64 rs), (1, .ro t 5 R), (2, .int .i64 e2), (7, .ptr 7 g7 0), (12, wv), (13, .int .i64 i), (14, .ptr 14 g14 0), (15, O1 ol), (16, .int .i64 rn), (17, .int .i64 nn)], ⟨7, g7, .var cells⟩ :: ⟨14, g14, .var X⟩ :: (B1 ol ++ rest), c⟩ =
      iter (ev Φ 3000 b9_1) [0, 1, 2, 7, 12, 13, 14, 15, 16, 17] [7, 14, 144, 151, 83000, 100200] k ⟨[(0, .int .i64 rs), (1, .ro t 5 R), (2, .int .i64 e2), (7, .ptr 7 g7 0), (12, wv), (13, .int .i64 i), (14, .ptr 14 g14 0), (15, O1 ol), (16, .int .i64 rn), (17, .int .i64 ((nn + 1 : Nat) : Int))], ⟨7, g7, .var cells⟩ :: ⟨14, g14, .var X⟩ :: (B1 ol ++ rest), c + 1⟩ := by
  have g1' := (List.getElem?_eq_some_iff.1 g1).2
  have gl : rn * 4 + nn < cells.length := by omega
  have w1 : IntKind.i64.wrap ((nn : Int) + 1) = ((nn + 1 : Nat) : Int) := by rw [wrap_i64 _ (by omega) (by omega)]; omega
  have q4 : (nn : Int) ≤ 3 := by omega
  have q5 : nn < 4 := by omega
  have z1 : z39.length = 36 := rfl
  have zd : z39.drop 36 = [] := rfl
  have pz : z39.all AV.plain = true := rfl
  have tX : X.take 36 = X := List.take_of_length_le (by omega)
  have tY : Y.take 36 = Y := List.take_of_length_le (by omega)
  have dY : Y.drop 36 = [] := List.drop_of_length_le (by omega)
  have p18 := hr.p18
  have o1 := hr.o1
  have o2 := hr.o2
  generalize ((nn + 1 : Nat) : Int) = j at *
  apply iter_norm
  rcases ol with _ | ⟨g, W⟩
  · cases fd <;> (try have hq := hq rfl) <;>
    simp -implicitDefEqProofs [b9_1, St.keep, B1, O1, h20, c20, hq, g1, g1', gl, lc, w1, q4, q5, a5, a3, z1, zd, lX, tX, lY, tY, dY, p18, o1, o2, plains_cells pY, plains_in pY, plains_low pY, plains_lend pY, plains_mv pY, plains_cells pz, plains_low pz, hv.cell, hv.val, hv.cb, hv.cells1, hv.ld, hv.ldc, hv.mv, hv.low, hv.low1]
  · cases fd <;> (try have hq := hq rfl) <;>
    simp -implicitDefEqProofs [b9_1, St.keep, B1, O1, h20, c20, hq, g1, g1', gl, lc, w1, q4, q5, a5, a3, z1, zd, lX, tX, lY, tY, dY, p18, o1, o2, plains_cells pY, plains_in pY, plains_low pY, plains_lend pY, plains_mv pY, plains_cells pz, plains_low pz, hv.cell, hv.val, hv.cb, hv.cells1, hv.ld, hv.ldc, hv.mv, hv.low, hv.low1]
theorem step91_yes (Φ : Nat → Option FnF) (F16 F20 : CallF) {G16 J16 Y16 G20 J20 Y20} (h16 : Φ 16 = some ⟨F16, G16, J16, Y16⟩) (h20 : Φ 20 = some ⟨F20, G20, J20, Y20⟩) (t : Bool) (R : List (List AV)) (wv : AV) (hwv : wv.cellb = true) (i c k g7 g14 rn nn : Nat) (rs e2 : Int) (hg7 : g7 < c) (hg14 : g14 < c) (cells X : List AV) (rest : AH) (hr : Rst rest) (ol : Option (Nat × List (List AV)))
    (hol : ∀ g W, ol = some (g, W) → W.length ≤ 10000) (a3 : nn ≤ 3) (a5 : rn < 6) (lc : cells.length = 24) (v : AV) (S : List (List AV)) (hv : LS 36 S v) (g1 : cells[rn * 4 + nn]? = some v) (Y : List AV) (lY : Y.length = 36) (pY : Y.all AV.plain = true) (lX : X.length = 36) (hq : aeqCells k36 Y X = some true)
    (c20 : F20 [v, .int .i64 1, .int .i64 e2] = some (.tup [.agg Y, .bool true], [])) (c16 : F16 [.int .i64 rn, .int .i64 nn] = some (.agg [.int .i64 rn, .int .i64 nn], [])) :
    iter (ev Φ 3000 b9_1) [0, 1, 2, 7, 12, 13, 14, 15, 16, 17] [7, 14, 144, 151, 83000, 100200] (k + 1) ⟨[(0, .int .i64 rs), (1, .ro t 5 R), (2, .int .i64 e2), (7, .ptr 7 g7 0), (12, wv), (13, .int .i64 i), (14, .ptr 14 g14 0), (15, O1 ol), (16, .int .i64 rn), (17, .int .i64 nn)], ⟨7, g7, .var cells⟩ :: ⟨14, g14, .var X⟩ :: (B1 ol ++ rest), c⟩ =
      iter (ev Φ 3000 b9_1) [0, 1, 2, 7, 12, 13, 14, 15, 16, 17] [7, 14, 144, 151, 83000, 100200] k ⟨[(0, .int .i64 rs), (1, .ro t 5 R), (2, .int .i64 e2), (7, .ptr 7 g7 0), (12, wv), (13, .int .i64 i), (14, .ptr 14 g14 0), (15, O1 (some (c + 2, R38 ol ++ [[.int .i64 rn, .int .i64 nn]]))), (16, .int .i64 rn), (17, .int .i64 ((nn + 1 : Nat) : Int))], ⟨7, g7, .var cells⟩ :: ⟨14, g14, .var X⟩ :: (B1 (some (c + 2, R38 ol ++ [[.int .i64 rn, .int .i64 nn]])) ++ rest), c + 3⟩ := by
  have g1' := (List.getElem?_eq_some_iff.1 g1).2
  have gl : rn * 4 + nn < cells.length := by omega
  have w1 : IntKind.i64.wrap ((nn : Int) + 1) = ((nn + 1 : Nat) : Int) := by rw [wrap_i64 _ (by omega) (by omega)]; omega
  have q4 : (nn : Int) ≤ 3 := by omega
  have q5 : nn < 4 := by omega
  have z1 : z39.length = 36 := rfl
  have zd : z39.drop 36 = [] := rfl
  have pz : z39.all AV.plain = true := rfl
  have tX : X.take 36 = X := List.take_of_length_le (by omega)
  have tY : Y.take 36 = Y := List.take_of_length_le (by omega)
  have dY : Y.drop 36 = [] := List.drop_of_length_le (by omega)
  have p18 := hr.p18
  have p143 := hr.p143
  have p144 := hr.p144
  have o1 := hr.o1
  have o2 := hr.o2
  have m1 : (16 : Nat) ≤ maxBytes := by simp [maxBytes]
  have m2 : (1 : Nat) * 16 ≤ maxBytes := by simp [maxBytes]
  generalize ((nn + 1 : Nat) : Int) = j at *
  apply iter_norm
  rcases ol with _ | ⟨g, W⟩
  · simp -implicitDefEqProofs [b9_1, St.keep, B1, O1, R38, h16, h20, c16, c20, hq, g1, g1', gl, lc, w1, q4, q5, a5, a3, z1, zd, z24, lX, tX, lY, tY, dY, m1, m2, p18, p143, p144, o1, o2, aappend, plains_cells pY, plains_in pY, plains_low pY, plains_lend pY, plains_mv pY, plains_cells pz, plains_low pz, hv.cell, hv.val, hv.cb, hv.cells1, hv.ld, hv.ldc, hv.mv, hv.low, hv.low1]
  · have tW : W.take W.length = W := List.take_length
    have hW := hol g W rfl
    have m4 : (W.length + 1) * 16 ≤ maxBytes := by unfold maxBytes; omega
    have n5 : ¬ (W.length + 1 ≤ W.length) := Nat.not_succ_le_self _
    simp -implicitDefEqProofs [b9_1, St.keep, B1, O1, R38, h16, h20, c16, c20, hq, g1, g1', gl, lc, w1, q4, q5, a5, a3, z1, zd, z24, lX, tX, lY, tY, dY, m1, m2, m4, n5, tW, p18, p143, p144, o1, o2, aappend, plains_cells pY, plains_in pY, plains_low pY, plains_lend pY, plains_mv pY, plains_cells pz, plains_low pz, hv.cell, hv.val, hv.cb, hv.cells1, hv.ld, hv.ldc, hv.mv, hv.low, hv.low1]
end Go.Abs.Try

namespace Go.Abs.Try
open Go Go.Abs
set_option maxHeartbeats 16000000
set_option maxRecDepth 100000
set_option linter.unusedSimpArgs false
set_option linter.unusedVariables false
/-- what is found in each table -/
def FT (cells : List AV) (e2 : Int) (F : Nat → Option Cl) : Prop := cells.length = 24 ∧ ∀ j, j < 24 → ∃ v S y fd, cells[j]? = some v ∧ LS 36 S v ∧ W32 y ∧ E 9 20 [v, .int .i64 1, .int .i64 e2] = some (.tup [.agg (cv y), .bool fd], []) ∧ F j = if fd then some y else none
theorem found9 (D : List Cl) (hD : AW D) (rg ep : Int) : ∃ (c : Cl) (b : Bool), W32 c ∧ foundV D rg ep = .tup [.agg (cv c), .bool b] := by
  unfold foundV
  cases h : findFrom D rg ep 0 D.length with
  | none => exact ⟨(0, 0, 0, 0, List.replicate 32 0), false, rfl, rfl⟩
  | some j => exact ⟨gC D j, true, hD.g (by have := find_lt h; omega), rfl⟩
theorem ft_ex {cells : List AV} {m : Nat} (h : TB cells m) (hm : m ≤ 2900) (e2 : Int) : ∃ F, FT cells e2 F := by
  have : ∀ j, ∃ q : Option Cl, j < 24 → ∃ v S y fd, cells[j]? = some v ∧ LS 36 S v ∧ W32 y ∧ E 9 20 [v, .int .i64 1, .int .i64 e2] = some (.tup [.agg (cv y), .bool fd], []) ∧ q = if fd then some y else none := by
    intro j
    by_cases hj : j < 24
    · obtain ⟨v, D, h1, h2, h3, h4⟩ := h.tb j hj
      obtain ⟨y, fd, k1, k2⟩ := found9 D h3 1 e2
      have c20 := find20 6 v D h2 h3 (by omega) 1 e2
      rw [k2] at c20
      exact ⟨_, fun _ => ⟨v, _, y, fd, h1, h2, k1, c20, rfl⟩⟩
    · exact ⟨none, fun k => absurd k hj⟩
  exact ⟨fun j => (this j).choose, h.len, fun j hj => (this j).choose_spec hj⟩
/-- addresses at whose tables the claim is found -/
def Inv (F : Nat → Option Cl) (x : Cl) (l : List Ad) : Prop := ∀ a ∈ l, ∃ rn nn : Nat, a = ((rn : Int), (nn : Int)) ∧ rn < 6 ∧ nn < 4 ∧ F (rn * 4 + nn) = some x
theorem ar9_app (A B : List Ad) : ar (A ++ B) = ar A ++ ar B := by simp [ar]
theorem loop91 (t : Bool) (R : List (List AV)) (wv : AV) (hwv : wv.cellb = true) (i g7 g14 rn : Nat) (rs e2 : Int) (cells : List AV) (F : Nat → Option Cl) (hF : FT cells e2 F) (x : Cl) (hx : W32 x) (rest : AH) (hr : Rst rest) (a5 : rn < 6) :
    ∀ (d nn k c : Nat) (ol : Option (Nat × List (List AV))) (l : List Ad), nn + d = 4 → d < k → g7 < c → g14 < c → R38 ol = ar l → l.length + d ≤ 1000 → Inv F x l →
    ∃ E' c' ol' l', iter (ev (Q 9) 3000 b9_1) [0, 1, 2, 7, 12, 13, 14, 15, 16, 17] [7, 14, 144, 151, 83000, 100200] k ⟨[(0, .int .i64 rs), (1, .ro t 5 R), (2, .int .i64 e2), (7, .ptr 7 g7 0), (12, wv), (13, .int .i64 i), (14, .ptr 14 g14 0), (15, O1 ol), (16, .int .i64 rn), (17, .int .i64 nn)], ⟨7, g7, .var cells⟩ :: ⟨14, g14, .var (cv x)⟩ :: (B1 ol ++ rest), c⟩ =
        some (.exit 6, ⟨E', ⟨7, g7, .var cells⟩ :: ⟨14, g14, .var (cv x)⟩ :: (B1 ol' ++ rest), c'⟩) ∧
      envOnly [0, 1, 2, 7, 12, 13, 14, 15, 16] E' = [(0, .int .i64 rs), (1, .ro t 5 R), (2, .int .i64 e2), (7, .ptr 7 g7 0), (12, wv), (13, .int .i64 i), (14, .ptr 14 g14 0), (15, O1 ol'), (16, .int .i64 rn)] ∧ c ≤ c' ∧ R38 ol' = ar l' ∧ l'.length ≤ l.length + d ∧ Inv F x l'
  | d, nn, 0, c, ol, l, hd, hk, h7, h14, hl, hln, hi => by omega
  | 0, nn, k + 1, c, ol, l, hd, hk, h7, h14, hl, hln, hi => by
    obtain rfl : nn = 4 := by omega
    refine ⟨[(0, .int .i64 rs), (1, .ro t 5 R), (2, .int .i64 e2), (7, .ptr 7 g7 0), (12, wv), (13, .int .i64 i), (14, .ptr 14 g14 0), (15, O1 ol), (16, .int .i64 rn), (17, .int .i64 4), (119, .int .i64 4), (120, .bool false)], c, ol, l, ?_, by simp, Nat.le_refl _, hl, by omega, hi⟩
    have o1 := hr.o1
    rw [iter_succ]
    rcases ol with _ | ⟨g, W⟩ <;> simp -implicitDefEqProofs [b9_1, B1, O1, o1]
  | d + 1, nn, k + 1, c, ol, l, hd, hk, h7, h14, hl, hln, hi => by
    obtain ⟨v, S, y, fd, h1, h2, h3, h4, h5⟩ := hF.2 (rn * 4 + nn) (by omega)
    have hq := aeq36 y x h3 hx
    by_cases hit : fd = true ∧ y = x
    · obtain ⟨rfl, rfl⟩ := hit
      rw [decide_eq_true rfl] at hq
      have st := step91_yes (Q 9) _ _ (q16 8) (q20 8) t R wv hwv i c k g7 g14 rn nn rs e2 h7 h14 cells (cv y) rest hr ol (fun g W e => by subst e; simp only [R38] at hl; rw [hl, ar_len]; omega) (by omega) a5 hF.1 v S h2 h1 (cv y) (cv_len h3) (cv_plain _) (cv_len h3) hq h4 (at16 8 _ _)
      have hl' : R38 (some (c + 2, R38 ol ++ [[AV.int .i64 (rn : Int), .int .i64 (nn : Int)]])) = ar (l ++ [((rn : Int), (nn : Int))]) := by rw [ar9_app, ← hl]; rfl
      obtain ⟨E', c', ol', l', f1, f2, f3, f4, f5, f6⟩ := loop91 t R wv hwv i g7 g14 rn rs e2 cells F hF y h3 rest hr a5 d (nn + 1) k (c + 3) _ (l ++ [((rn : Int), (nn : Int))]) (by omega) (by omega) (by omega) (by omega) hl' (by rw [List.length_append, List.length_singleton]; omega) (by
        intro a ha
        rcases List.mem_append.1 ha with h | h
        · exact hi a h
        · exact ⟨rn, nn, List.mem_singleton.1 h, a5, by omega, h5⟩)
      refine ⟨E', c', ol', l', by rw [st]; exact f1, f2, by omega, f4, ?_, f6⟩
      rw [List.length_append, List.length_singleton] at f5; omega
    · have st := step91_no (Q 9) _ (q20 8) t R wv hwv i c k g7 g14 rn nn rs e2 h7 h14 cells (cv x) rest hr ol (by omega) a5 hF.1 v S h2 h1 (cv y) (cv_len h3) (cv_plain _) (cv_len hx) fd (fun e => by rw [hq, decide_eq_false (fun k => hit ⟨e, k⟩)]) h4
      obtain ⟨E', c', ol', l', f1, f2, f3, f4, f5, f6⟩ := loop91 t R wv hwv i g7 g14 rn rs e2 cells F hF x hx rest hr a5 d (nn + 1) k (c + 1) ol l (by omega) (by omega) (by omega) (by omega) hl (by omega) hi
      exact ⟨E', c', ol', l', by rw [st]; exact f1, f2, by omega, f4, by omega, f6⟩
theorem step92 (Φ : Nat → Option FnF) (t : Bool) (R : List (List AV)) (wv : AV) (hwv : wv.cellb = true) (i c c' k g7 g14 rn : Nat) (rs e2 : Int) (h2 : (rn : Int) ≤ rs) (h5 : rn < 6) (cells X : List AV) (rest : AH) (hr : Rst rest) (ol ol' : Option (Nat × List (List AV))) (E' : Env)
    (l1 : iter (ev Φ 3000 b9_1) [0, 1, 2, 7, 12, 13, 14, 15, 16, 17] [7, 14, 144, 151, 83000, 100200] 3000 ⟨[(0, .int .i64 rs), (1, .ro t 5 R), (2, .int .i64 e2), (7, .ptr 7 g7 0), (12, wv), (13, .int .i64 i), (14, .ptr 14 g14 0), (15, O1 ol), (16, .int .i64 rn), (17, .int .i64 1)], ⟨7, g7, .var cells⟩ :: ⟨14, g14, .var X⟩ :: (B1 ol ++ rest), c⟩ =
        some (.exit 6, ⟨E', ⟨7, g7, .var cells⟩ :: ⟨14, g14, .var X⟩ :: (B1 ol' ++ rest), c'⟩))
    (e1 : envOnly [0, 1, 2, 7, 12, 13, 14, 15, 16] E' = [(0, .int .i64 rs), (1, .ro t 5 R), (2, .int .i64 e2), (7, .ptr 7 g7 0), (12, wv), (13, .int .i64 i), (14, .ptr 14 g14 0), (15, O1 ol'), (16, .int .i64 rn)]) :
    iter (ev Φ 3000 b9_2) [0, 1, 2, 7, 12, 13, 14, 15, 16] [7, 14, 144, 151, 83000, 100200] (k + 1) ⟨[(0, .int .i64 rs), (1, .ro t 5 R), (2, .int .i64 e2), (7, .ptr 7 g7 0), (12, wv), (13, .int .i64 i), (14, .ptr 14 g14 0), (15, O1 ol), (16, .int .i64 rn)], ⟨7, g7, .var cells⟩ :: ⟨14, g14, .var X⟩ :: (B1 ol ++ rest), c⟩ =
      iter (ev Φ 3000 b9_2) [0, 1, 2, 7, 12, 13, 14, 15, 16] [7, 14, 144, 151, 83000, 100200] k ⟨[(0, .int .i64 rs), (1, .ro t 5 R), (2, .int .i64 e2), (7, .ptr 7 g7 0), (12, wv), (13, .int .i64 i), (14, .ptr 14 g14 0), (15, O1 ol'), (16, .int .i64 ((rn + 1 : Nat) : Int))], ⟨7, g7, .var cells⟩ :: ⟨14, g14, .var X⟩ :: (B1 ol' ++ rest), c'⟩ := by
  have w1 : IntKind.i64.wrap ((rn : Int) + 1) = ((rn + 1 : Nat) : Int) := by rw [wrap_i64 _ (by omega) (by omega)]; omega
  have o1 := hr.o1
  generalize ((rn + 1 : Nat) : Int) = j at *
  apply iter_norm
  rcases ol with _ | ⟨g, W⟩ <;> rcases ol' with _ | ⟨g', W'⟩ <;> simp only [B1, O1, List.nil_append, List.cons_append] at l1 e1
  all_goals
    simp -implicitDefEqProofs [b9_2, St.keep, B1, O1, h2, o1]
    rw [iter_keep]; simp -implicitDefEqProofs [o1]
    rw [l1]
    simp -implicitDefEqProofs [e1, w1, o1]
    exact ⟨_, _, ⟨rfl, rfl⟩, rfl, by simp, by simp [o1], rfl⟩
theorem loop92 (t : Bool) (R : List (List AV)) (wv : AV) (hwv : wv.cellb = true) (i g7 g14 : Nat) (rs e2 : Int) (hrs : rs ≤ 5) (cells : List AV) (F : Nat → Option Cl) (hF : FT cells e2 F) (x : Cl) (hx : W32 x) (rest : AH) (hr : Rst rest) :
    ∀ (d rn k c : Nat) (ol : Option (Nat × List (List AV))) (l : List Ad), (rn : Int) + d = rs + 1 → d < k → g7 < c → g14 < c → R38 ol = ar l → l.length ≤ 4 * rn → Inv F x l →
    ∃ E' c' ol' l', iter (ev (Q 9) 3000 b9_2) [0, 1, 2, 7, 12, 13, 14, 15, 16] [7, 14, 144, 151, 83000, 100200] k ⟨[(0, .int .i64 rs), (1, .ro t 5 R), (2, .int .i64 e2), (7, .ptr 7 g7 0), (12, wv), (13, .int .i64 i), (14, .ptr 14 g14 0), (15, O1 ol), (16, .int .i64 rn)], ⟨7, g7, .var cells⟩ :: ⟨14, g14, .var (cv x)⟩ :: (B1 ol ++ rest), c⟩ =
        some (.exit 4, ⟨E', ⟨7, g7, .var cells⟩ :: ⟨14, g14, .var (cv x)⟩ :: (B1 ol' ++ rest), c'⟩) ∧
      envOnly [0, 1, 2, 7, 12, 13, 14, 15] E' = [(0, .int .i64 rs), (1, .ro t 5 R), (2, .int .i64 e2), (7, .ptr 7 g7 0), (12, wv), (13, .int .i64 i), (14, .ptr 14 g14 0), (15, O1 ol')] ∧ c ≤ c' ∧ R38 ol' = ar l' ∧ l'.length ≤ 2900 ∧ Inv F x l'
  | d, rn, 0, c, ol, l, hd, hk, h7, h14, hl, hln, hi => by omega
  | 0, rn, k + 1, c, ol, l, hd, hk, h7, h14, hl, hln, hi => by
    have n1 : ¬ (rn : Int) ≤ rs := by omega
    refine ⟨[(0, .int .i64 rs), (1, .ro t 5 R), (2, .int .i64 e2), (7, .ptr 7 g7 0), (12, wv), (13, .int .i64 i), (14, .ptr 14 g14 0), (15, O1 ol), (16, .int .i64 rn), (114, .int .i64 rn), (115, .int .i64 rs), (116, .bool false)], c, ol, l, ?_, by simp, Nat.le_refl _, hl, by omega, hi⟩
    have o1 := hr.o1
    rw [iter_succ]
    rcases ol with _ | ⟨g, W⟩ <;> simp -implicitDefEqProofs [b9_2, B1, O1, o1, n1]
  | d + 1, rn, k + 1, c, ol, l, hd, hk, h7, h14, hl, hln, hi => by
    obtain ⟨E1, c1, ol1, l1, f1, f2, f3, f4, f5, f6⟩ := loop91 t R wv hwv i g7 g14 rn rs e2 cells F hF x hx rest hr (by omega) 3 1 3000 c ol l (by omega) (by omega) h7 h14 hl (by omega) hi
    have st := step92 (Q 9) t R wv hwv i c c1 k g7 g14 rn rs e2 (by omega) (by omega) cells (cv x) rest hr ol ol1 E1 f1 f2
    obtain ⟨E', c', ol', l', k1, k2, k3, k4, k5, k6⟩ := loop92 t R wv hwv i g7 g14 rs e2 hrs cells F hF x hx rest hr d (rn + 1) k c1 ol1 l1 (by omega) (by omega) (by omega) (by omega) f4 (by omega) f6
    exact ⟨E', c', ol', l', by rw [st]; exact k1, k2, by omega, k4, k5, k6⟩
end Go.Abs.Try

namespace Go.Abs.Try
open Go Go.Abs
set_option maxHeartbeats 16000000
set_option maxRecDepth 100000
set_option linter.unusedSimpArgs false
set_option linter.unusedVariables false
def O3 : Option (Nat × List (List AV)) → AV
  | none => .nilS
  | some (g, W) => .own 151 g 0 W.length
def B3 : Option (Nat × List (List AV)) → AH
  | none => []
  | some (g, W) => [⟨151, g, .arr 36 W false⟩]
def L144 : Option (Nat × List (List AV)) → AV
  | none => .nilS
  | some (_, W) => .ro true 2 W
structure Rst9 (tl : AH) : Prop where
  p14 : ∀ g b, AH.put tl 14 g b = ⟨14, g, b⟩ :: tl
  p18 : ∀ g b, AH.put tl 18 g b = ⟨18, g, b⟩ :: tl
  p143 : ∀ g b, AH.put tl 143 g b = ⟨143, g, b⟩ :: tl
  p144 : ∀ g b, AH.put tl 144 g b = ⟨144, g, b⟩ :: tl
  p150 : ∀ g b, AH.put tl 150 g b = ⟨150, g, b⟩ :: tl
  p151 : ∀ g b, AH.put tl 151 g b = ⟨151, g, b⟩ :: tl
  h14 : AH.hide [14] tl = tl
  n14 : AH.only [14] tl = []
  n1 : AH.only [100200] tl = []
  n0 : AH.only [] tl = []
  n151 : AH.only [151] tl = []
  o0 : AH.only [7, 151, 83000, 100200] tl = tl
  o1 : AH.only [7, 14, 144, 151, 83000, 100200] tl = tl
  o2 : AH.only [7, 14, 18, 144, 151, 83000, 100200] tl = tl
  o3 : AH.only [7, 14, 151, 83000, 100200] tl = tl
theorem B9_rst (o : Option (Nat × List (List AV) × Bool)) : Rst9 (B9 o) := by
  rcases o with _ | ⟨g, W, f⟩ <;> constructor <;> simp [B9]
theorem Rst9.rst {tl : AH} (h : Rst9 tl) (ow : Option (Nat × List (List AV))) : Rst (B3 ow ++ tl) := by
  have a := h.p18
  have b := h.p143
  have c := h.p144
  have d := h.o1
  have e := h.o2
  rcases ow with _ | ⟨g, W⟩ <;> constructor <;> simp [B3, a, b, c, d, e]
theorem step93 (Φ : Nat → Option FnF) (F14 : CallF) {G14 J14 Y14} (h14 : Φ 14 = some ⟨F14, G14, J14, Y14⟩) (t : Bool) (R : List (List AV)) (len i c c1 k g7 : Nat) (hg7 : g7 < c) (hl : R.length = len) (hi : i < len) (hb : len ≤ 100000) (nd ep sz tr tn rs e2 : Int) (r1 : R[i]? = some [.int .i64 nd, .int .i64 ep, .int .i64 sz, .int .i64 tr, .int .i64 tn])
    (cells : List AV) (tl : AH) (hr : Rst9 tl) (ow ol : Option (Nat × List (List AV))) (hW : (R38 ow).length ≤ 10000) (b : Bool) (E1 : Env)
    (l2 : iter (ev Φ 3000 b9_2) [0, 1, 2, 7, 12, 13, 14, 15, 16] [7, 14, 144, 151, 83000, 100200] 3000 ⟨[(0, .int .i64 rs), (1, .ro t 5 R), (2, .int .i64 e2), (7, .ptr 7 g7 0), (12, O3 ow), (13, .int .i64 i), (14, .ptr 14 c 0), (15, .nilS), (16, .int .i64 2)], ⟨7, g7, .var cells⟩ :: ⟨14, c, .var (X9 e2 nd sz)⟩ :: (B3 ow ++ tl), c + 1⟩ =
        some (.exit 4, ⟨E1, ⟨7, g7, .var cells⟩ :: ⟨14, c, .var (X9 e2 nd sz)⟩ :: (B1 ol ++ (B3 ow ++ tl)), c1⟩))
    (e1 : envOnly [0, 1, 2, 7, 12, 13, 14, 15] E1 = [(0, .int .i64 rs), (1, .ro t 5 R), (2, .int .i64 e2), (7, .ptr 7 g7 0), (12, O3 ow), (13, .int .i64 i), (14, .ptr 14 c 0), (15, O1 ol)])
    (c14 : F14 [.int .i64 rs, .int .i64 1, L144 ol] = some (.bool b, [])) :
    iter (ev Φ 3000 b9_3) [0, 1, 2, 7, 12, 13] [7, 151, 83000, 100200] (k + 1) ⟨[(0, .int .i64 rs), (1, .ro t 5 R), (2, .int .i64 e2), (7, .ptr 7 g7 0), (12, O3 ow), (13, .int .i64 i)], ⟨7, g7, .var cells⟩ :: (B3 ow ++ tl), c⟩ =
      iter (ev Φ 3000 b9_3) [0, 1, 2, 7, 12, 13] [7, 151, 83000, 100200] k ⟨[(0, .int .i64 rs), (1, .ro t 5 R), (2, .int .i64 e2), (7, .ptr 7 g7 0), (12, O3 (if b then some (c1 + 1, R38 ow ++ [X9 e2 nd sz]) else ow)), (13, .int .i64 ((i + 1 : Nat) : Int))], ⟨7, g7, .var cells⟩ :: (B3 (if b then some (c1 + 1, R38 ow ++ [X9 e2 nd sz]) else ow) ++ tl), if b then c1 + 2 else c1⟩ := by
  have i1 : (i : Int) < (len : Int) := by omega
  have il : i < R.length := by omega
  have r1' := (List.getElem?_eq_some_iff.1 r1).2
  have w1 : IntKind.i64.wrap ((i : Int) + 1) = ((i + 1 : Nat) : Int) := by rw [wrap_i64 _ (by omega) (by omega)]; omega
  have hg7' : g7 < c + 1 := by omega
  have z1 : z39.length = 36 := rfl
  have zd : z39.drop 36 = [] := rfl
  have pz : (List.drop 4 z39).all AV.plain = true := rfl
  have pz0 : z39.all AV.plain = true := rfl
  have lz : (List.drop 4 z39).length = 32 := rfl
  have tz : List.take 32 (List.drop 4 z39) = List.drop 4 z39 := rfl
  have m1 : (64 : Nat) ≤ maxBytes := by simp [maxBytes]
  have m2 : (1 : Nat) * 64 ≤ maxBytes := by simp [maxBytes]
  have p14 := hr.p14
  have p150 := hr.p150
  have p151 := hr.p151
  have hd14 := hr.h14
  have n14 := hr.n14
  have n1 := hr.n1
  have n0 := hr.n0
  have o0 := hr.o0
  have o1 := hr.o1
  have o3 := hr.o3
  unfold X9 at l2 ⊢
  generalize ((i + 1 : Nat) : Int) = j at *
  apply iter_norm
  rcases ow with _ | ⟨gw, W⟩ <;> rcases ol with _ | ⟨gl, V⟩ <;> simp only [B3, O3, B1, O1, L144, List.nil_append, List.cons_append] at l2 e1 c14
  · simp -implicitDefEqProofs [b9_3, St.keep, B3, O3, hi, i1, il, hl, r1, r1', z1, zd, lz, tz, hg7, hg7', plains_low pz, plains_cells pz, plains_in pz, plains_lend pz, plains_mv pz, plains_fz pz, plains_low pz0, p14, p150, p151, hd14, n14, n1, n0, o0, o1, o3]
    rw [iter_keep]; simp -implicitDefEqProofs [o1]
    rw [l2]
    cases b <;> simp -implicitDefEqProofs [e1, w1, h14, c14, R38, B3, O3, z1, zd, lz, tz, m1, m2, aappend, plains_low pz, plains_cells pz, plains_in pz, plains_lend pz, plains_mv pz, plains_fz pz, p14, p150, p151, hd14, n14, n1, n0, o0, o1, o3]
    all_goals exact ⟨_, _, ⟨rfl, rfl⟩, rfl, by simp, by simp [o0], rfl⟩
  · have tV : V.take V.length = V := List.take_length
    simp -implicitDefEqProofs [b9_3, St.keep, B3, O3, hi, i1, il, hl, r1, r1', z1, zd, lz, tz, hg7, hg7', plains_low pz, plains_cells pz, plains_in pz, plains_lend pz, plains_mv pz, plains_fz pz, plains_low pz0, p14, p150, p151, hd14, n14, n1, n0, o0, o1, o3]
    rw [iter_keep]; simp -implicitDefEqProofs [o1]
    rw [l2]
    cases b <;> simp -implicitDefEqProofs [e1, w1, h14, c14, R38, B3, O3, z1, zd, lz, tz, m1, m2, tV, aappend, plains_low pz, plains_cells pz, plains_in pz, plains_lend pz, plains_mv pz, plains_fz pz, p14, p150, p151, hd14, n14, n1, n0, o0, o1, o3]
    all_goals exact ⟨_, _, ⟨rfl, rfl⟩, rfl, by simp, by simp [o0], rfl⟩
  · simp only [R38] at hW
    have tW : W.take W.length = W := List.take_length
    have m4 : (W.length + 1) * 64 ≤ maxBytes := by unfold maxBytes; omega
    have n5 : ¬ (W.length + 1 ≤ W.length) := Nat.not_succ_le_self _
    simp -implicitDefEqProofs [b9_3, St.keep, B3, O3, hi, i1, il, hl, r1, r1', z1, zd, lz, tz, hg7, hg7', plains_low pz, plains_cells pz, plains_in pz, plains_lend pz, plains_mv pz, plains_fz pz, plains_low pz0, p14, p150, p151, hd14, n14, n1, n0, o0, o1, o3]
    rw [iter_keep]; simp -implicitDefEqProofs [o1]
    rw [l2]
    cases b <;> simp -implicitDefEqProofs [e1, w1, h14, c14, R38, B3, O3, z1, zd, lz, tz, m1, m2, tW, m4, n5, aappend, plains_low pz, plains_cells pz, plains_in pz, plains_lend pz, plains_mv pz, plains_fz pz, p14, p150, p151, hd14, n14, n1, n0, o0, o1, o3]
    all_goals exact ⟨_, _, ⟨rfl, rfl⟩, rfl, by simp, by simp [o0], rfl⟩
  · simp only [R38] at hW
    have tW : W.take W.length = W := List.take_length
    have m4 : (W.length + 1) * 64 ≤ maxBytes := by unfold maxBytes; omega
    have n5 : ¬ (W.length + 1 ≤ W.length) := Nat.not_succ_le_self _
    have tV : V.take V.length = V := List.take_length
    simp -implicitDefEqProofs [b9_3, St.keep, B3, O3, hi, i1, il, hl, r1, r1', z1, zd, lz, tz, hg7, hg7', plains_low pz, plains_cells pz, plains_in pz, plains_lend pz, plains_mv pz, plains_fz pz, plains_low pz0, p14, p150, p151, hd14, n14, n1, n0, o0, o1, o3]
    rw [iter_keep]; simp -implicitDefEqProofs [o1]
    rw [l2]
    cases b <;> simp -implicitDefEqProofs [e1, w1, h14, c14, R38, B3, O3, z1, zd, lz, tz, m1, m2, tW, tV, m4, n5, aappend, plains_low pz, plains_cells pz, plains_in pz, plains_lend pz, plains_mv pz, plains_fz pz, p14, p150, p151, hd14, n14, n1, n0, o0, o1, o3]
    all_goals exact ⟨_, _, ⟨rfl, rfl⟩, rfl, by simp, by simp [o0], rfl⟩
end Go.Abs.Try

namespace Go.Abs.Try
open Go Go.Abs
set_option maxHeartbeats 16000000
set_option maxRecDepth 100000
set_option linter.unusedSimpArgs false
set_option linter.unusedVariables false
/-- claims that are recorded by enough -/
def WI (rs : Int) (F : Nat → Option Cl) (W : List Cl) : Prop := ∀ x ∈ W, W32 x ∧ ∃ l, enV rs 1 l = true ∧ Inv F x l
theorem WI.one {rs : Int} {F : Nat → Option Cl} {W : List Cl} (h : WI rs F W) {x y : Cl} (hx : x ∈ W) (hy : y ∈ W) : x = y := by
  obtain ⟨_, l, h1, h2⟩ := h x hx
  obtain ⟨_, l', h1', h2'⟩ := h y hy
  obtain ⟨a, ha, b, hb, hg⟩ := meet h1 h1'
  have hab : a = b := by
    unfold good at hg
    rw [Bool.and_eq_true, Bool.and_eq_true, Bool.and_eq_true, Bool.and_eq_true, Bool.and_eq_true] at hg
    exact of_decide_eq_true hg.1.1.1.1.1
  subst hab
  obtain ⟨r, n, e1, _, _, e2⟩ := h2 a ha
  obtain ⟨r', n', e1', _, _, e2'⟩ := h2' a hb
  rw [e1] at e1'
  have er : r = r' := by have := (Prod.mk.inj e1').1; omega
  have en : n = n' := by have := (Prod.mk.inj e1').2; omega
  subst er en
  rw [e2] at e2'
  exact Option.some.inj e2'
theorem loop93 (t : Bool) (L : List Of) (hL : L.length ≤ 100) (rs e2 : Int) (h3 : 3 ≤ rs) (hrs : rs ≤ 5) (g7 : Nat) (cells : List AV) (F : Nat → Option Cl) (hF : FT cells e2 F) (tl : AH) (hr : Rst9 tl) :
    ∀ (d i k c : Nat) (ow : Option (Nat × List (List AV))) (W : List Cl), i + d = L.length → d < k → g7 < c → R38 ow = cr W → W.length ≤ i → WI rs F W → (∀ g V, ow = some (g, V) → g < c) →
    ∃ E' c' ow' W', iter (ev (Q 9) 3000 b9_3) [0, 1, 2, 7, 12, 13] [7, 151, 83000, 100200] k ⟨[(0, .int .i64 rs), (1, .ro t 5 (orows L)), (2, .int .i64 e2), (7, .ptr 7 g7 0), (12, O3 ow), (13, .int .i64 i)], ⟨7, g7, .var cells⟩ :: (B3 ow ++ tl), c⟩ =
        some (.exit 2, ⟨E', ⟨7, g7, .var cells⟩ :: (B3 ow' ++ tl), c'⟩) ∧ envOnly [12] E' = [(12, O3 ow')] ∧ R38 ow' = cr W' ∧ W'.length ≤ 100 ∧ WI rs F W' ∧ (∀ g V, ow' = some (g, V) → g < c')
  | d, i, 0, c, ow, W, hi, hk, hg, hW, hWl, hI, hog => by omega
  | 0, i, k + 1, c, ow, W, hi, hk, hg, hW, hWl, hI, hog => by
    have n1 : ¬ ((i : Int) < (L.length : Int)) := by omega
    have n2 : ¬ (i < L.length) := by omega
    have la := orows_len L
    have o0 := hr.o0
    refine ⟨[(0, .int .i64 rs), (1, .ro t 5 (orows L)), (2, .int .i64 e2), (7, .ptr 7 g7 0), (12, O3 ow), (13, .int .i64 i), (96, .int .i64 i), (97, .ro t 5 (orows L)), (98, .int .i64 L.length), (99, .bool false)], c, ow, W, ?_, by simp, hW, by omega, hI, hog⟩
    rw [iter_succ]
    rcases ow with _ | ⟨g, W⟩ <;> simp -implicitDefEqProofs [b9_3, B3, O3, n1, n2, la, o0]
  | d + 1, i, k + 1, c, ow, W, hi, hk, hg, hW, hWl, hI, hog => by
    have hil : i < L.length := by omega
    have r1 := orows_get hil
    obtain ⟨nd, ep, sz, tr, tn, hx⟩ : ∃ nd ep sz tr tn, gO L i = (nd, ep, sz, tr, tn) := ⟨_, _, _, _, _, rfl⟩
    rw [hx] at r1
    have r1 : (orows L)[i]? = some [.int .i64 nd, .int .i64 ep, .int .i64 sz, .int .i64 tr, .int .i64 tn] := r1
    have hwv : (O3 ow).cellb = true := by rcases ow with _ | ⟨g, W⟩ <;> rfl
    obtain ⟨E1, c1, ol, l, f1, f2, f3, f4, f5, f6⟩ := loop92 t (orows L) (O3 ow) hwv i g7 c rs e2 hrs cells F hF (cl9 e2 nd sz) (cl9_w e2 nd sz) (B3 ow ++ tl) (hr.rst ow) (rs - 1).toNat 2 3000 (c + 1) none [] (by omega) (by omega) (by omega) (by omega) rfl (by simp) (by intro a ha; cases ha)
    have hol : LS 2 (ar l) (L144 ol) := by
      rcases ol with _ | ⟨g, V⟩
      · exact .inl ⟨rfl, f4.symm⟩
      · simp only [R38] at f4
        subst f4
        exact .inr (.inr ⟨true, rfl⟩)
    have c14 := enough14 8 l _ hol f5 rs 1
    have hWc : (R38 ow).length ≤ 10000 := by rw [hW, cr_len]; omega
    rw [← X9_cv] at f1
    have st := step93 (Q 9) _ (q14 8) t (orows L) L.length i c c1 k g7 hg (orows_len L) hil (by omega) nd ep sz tr tn rs e2 r1 cells tl hr ow ol hWc (enV rs 1 l) E1 f1 f2 c14
    cases hb : enV rs 1 l
    · rw [hb] at st
      simp only [Bool.false_eq_true, ↓reduceIte] at st
      obtain ⟨E', c', ow', W', k1, k2, k3, k4, k5, k6⟩ := loop93 t L hL rs e2 h3 hrs g7 cells F hF tl hr d (i + 1) k c1 ow W (by omega) (by omega) (by omega) hW (by omega) hI (fun g V h => by have := hog g V h; omega)
      exact ⟨E', c', ow', W', by rw [st]; exact k1, k2, k3, k4, k5, k6⟩
    · rw [hb] at st
      simp only [↓reduceIte] at st
      have hW' : R38 (some (c1 + 1, R38 ow ++ [X9 e2 nd sz])) = cr (W ++ [cl9 e2 nd sz]) := by
        simp only [R38]
        have : R38 ow = cr W := hW
        unfold R38 at this
        rw [this, X9_cv]
        simp [cr]
      obtain ⟨E', c', ow', W', k1, k2, k3, k4, k5, k6⟩ := loop93 t L hL rs e2 h3 hrs g7 cells F hF tl hr d (i + 1) k (c1 + 2) _ (W ++ [cl9 e2 nd sz]) (by omega) (by omega) (by omega) hW' (by rw [List.length_append, List.length_singleton]; omega) (by
        intro x hx
        rcases List.mem_append.1 hx with h | h
        · exact hI x h
        · rw [List.mem_singleton.1 h]; exact ⟨cl9_w _ _ _, l, hb, f6⟩) (fun g V h => by cases h; omega)
      exact ⟨E', c', ow', W', by rw [st]; exact k1, k2, k3, k4, k5, k6⟩
theorem step90 (Φ : Nat → Option FnF) (R : List (List AV)) (len i c k g : Nat) (hg : g < c) (hl : R.length = len) (hi : i < len) (h1 : 1 ≤ i) (hb : len ≤ 100000) (A A0 : List AV) (r1 : R[i]? = some A) (r0 : R[0]? = some A0) (lA : A.length = 36) (lA0 : A0.length = 36) (pA : A.all AV.plain = true) (pA0 : A0.all AV.plain = true) (hq : aeqCells k36 A A0 = some true) :
    iter (ev Φ 3000 b9_0) [12, 20] [151] (k + 1) ⟨[(12, .own 151 g 0 len), (20, .int .i64 i)], [⟨151, g, .arr 36 R false⟩], c⟩ = iter (ev Φ 3000 b9_0) [12, 20] [151] k ⟨[(12, .own 151 g 0 len), (20, .int .i64 ((i + 1 : Nat) : Int))], [⟨151, g, .arr 36 R false⟩], c⟩ := by
  have i1 : (i : Int) < (len : Int) := by omega
  have il : i < R.length := by omega
  have l0 : 0 < len := by omega
  have l0' : 0 < R.length := by omega
  have r1' := (List.getElem?_eq_some_iff.1 r1).2
  have r0' := (List.getElem?_eq_some_iff.1 r0).2
  have tA : A.take 36 = A := List.take_of_length_le (by omega)
  have tA0 : A0.take 36 = A0 := List.take_of_length_le (by omega)
  have w1 : IntKind.i64.wrap ((i : Int) + 1) = ((i + 1 : Nat) : Int) := by rw [wrap_i64 _ (by omega) (by omega)]; omega
  generalize ((i + 1 : Nat) : Int) = j at *
  apply iter_norm
  simp -implicitDefEqProofs [b9_0, St.keep, hg, hi, i1, il, l0, l0', hl, r1, r1', r0, r0', lA, lA0, tA, tA0, hq, w1, plains_low pA, plains_low pA0, plains_cells pA, plains_cells pA0]
theorem loop90 (Φ : Nat → Option FnF) (W : List Cl) (hW : W.length ≤ 100) (h32 : ∀ x ∈ W, W32 x) (h1 : ∀ x ∈ W, ∀ y ∈ W, x = y) (g c : Nat) (hg : g < c) : ∀ (d i k : Nat), i + d = max W.length 1 → 1 ≤ i → d < k →
    ∃ E', iter (ev Φ 3000 b9_0) [12, 20] [151] k ⟨[(12, .own 151 g 0 W.length), (20, .int .i64 i)], [⟨151, g, .arr 36 (cr W) false⟩], c⟩ = some (.exit 8, ⟨E', [⟨151, g, .arr 36 (cr W) false⟩], c⟩)
  | d, i, 0, hi, hii, hk => by omega
  | 0, i, k + 1, hi, hii, hk => by
    have n1 : ¬ ((i : Int) < (W.length : Int)) := by omega
    refine ⟨[(12, .own 151 g 0 W.length), (20, .int .i64 i), (152, .int .i64 i), (153, .own 151 g 0 W.length), (154, .int .i64 W.length), (155, .bool false)], ?_⟩
    rw [iter_succ]
    simp -implicitDefEqProofs [b9_0, n1]
  | d + 1, i, k + 1, hi, hii, hk => by
    have hil : i < W.length := by omega
    have h0l : 0 < W.length := by omega
    have wi : W32 (gC W i) := by rw [gC_of hil]; exact h32 _ (List.getElem_mem _)
    have w0 : W32 (gC W 0) := by rw [gC_of h0l]; exact h32 _ (List.getElem_mem _)
    have e : gC W i = gC W 0 := by rw [gC_of hil, gC_of h0l]; exact h1 _ (List.getElem_mem _) _ (List.getElem_mem _)
    have hq := aeq36 (gC W i) (gC W 0) wi w0
    rw [decide_eq_true e] at hq
    rw [step90 Φ (cr W) W.length i c k g hg (cr_len W) hil hii (by omega) _ _ (cr_get hil) (cr_get h0l) (cv_len wi) (cv_len w0) (cv_plain _) (cv_plain _) hq]
    exact loop90 Φ W hW h32 h1 g c hg d (i + 1) k (by omega) (by omega) (by omega)
end Go.Abs.Try

namespace Go.Abs.Try
open Go Go.Abs
set_option maxHeartbeats 16000000
set_option maxRecDepth 100000
set_option linter.unusedSimpArgs false
set_option linter.unusedVariables false
theorem law9_no (Φ : Nat → Option FnF) (v : AV) (R : List (List AV)) (hv : LS 5 R v) (rs e2 : Int) (h : 100 < R.length ∨ rs < 3 ∨ 5 < rs) : evFun Φ 3000 a9 [.int .i64 rs, v, .int .i64 e2] = some (.bool true, []) := by
  have hl := hv.len
  by_cases q1 : 100 < R.length
  · have n1 : (100 : Int) < R.length := by omega
    simp -implicitDefEqProofs [a9, c9, hl, n1, q1, hv.cell, hv.val]
  · have n1 : ¬ (100 : Int) < R.length := by omega
    by_cases q2 : rs < 3
    · simp -implicitDefEqProofs [a9, c9, hl, n1, q1, q2, hv.cell, hv.val]
    · have q3 : 5 < rs := by omega
      simp -implicitDefEqProofs [a9, c9, hl, n1, q1, q2, q3, hv.cell, hv.val]
theorem law9_of (Φ : Nat → Option FnF) (F13 F25 : CallF) {G13 J13 Y13 G25 J25 Y25} (h13 : Φ 13 = some ⟨F13, G13, J13, Y13⟩) (h25 : Φ 25 = some ⟨F25, G25, J25, Y25⟩) (c13 : F13 [] = some (.bool true, [])) (c25 : F25 [] = some (.bool true, []))
    (v : AV) (R : List (List AV)) (hv : LS 5 R v) (rs e2 : Int) (hn : R.length ≤ 100) (h3 : 3 ≤ rs) (h5 : rs ≤ 5) (cells : List AV) (o : Option (Nat × List (List AV) × Bool)) (ow : Option (Nat × List (List AV))) (E1 E2 E3 : Env) (c1 c2 : Nat)
    (l1 : iter (ev Φ 3000 b9_4) [0, 1, 2, 7, 8] [7, 83000, 100200] 3000 ⟨[(0, .int .i64 rs), (1, v), (2, .int .i64 e2), (7, .ptr 7 0 0), (8, .int .i64 0)], H9 0 z54 none, 1⟩ = some (.exit 0, ⟨E1, H9 0 cells o, c1⟩))
    (e1 : envOnly [0, 1, 2, 7] E1 = [(0, .int .i64 rs), (1, v), (2, .int .i64 e2), (7, .ptr 7 0 0)])
    (l2 : iter (ev Φ 3000 b9_3) [0, 1, 2, 7, 12, 13] [7, 151, 83000, 100200] 3000 ⟨[(0, .int .i64 rs), (1, v), (2, .int .i64 e2), (7, .ptr 7 0 0), (12, .nilS), (13, .int .i64 0)], H9 0 cells o, c1⟩ = some (.exit 2, ⟨E2, ⟨7, 0, .var cells⟩ :: (B3 ow ++ B9 o), c2⟩))
    (e2' : envOnly [12] E2 = [(12, O3 ow)])
    (l3 : iter (ev Φ 3000 b9_0) [12, 20] [151] 3000 ⟨[(12, O3 ow), (20, .int .i64 1)], B3 ow, c2⟩ = some (.exit 8, ⟨E3, B3 ow, c2⟩)) :
    evFun Φ 3000 a9 [.int .i64 rs, v, .int .i64 e2] = some (.bool true, []) := by
  have hl := hv.len
  have n1 : ¬ (100 : Int) < R.length := by omega
  have n2 : ¬ 100 < R.length := by omega
  have n3 : ¬ rs < 3 := by omega
  have n4 : ¬ 5 < rs := by omega
  rcases o with _ | ⟨g, W, f⟩ <;> rcases ow with _ | ⟨gw, V⟩ <;> simp only [H9, B9, B3, O3, List.nil_append, List.cons_append, List.append_nil] at l1 l2 l3 e2'
  all_goals
    simp -implicitDefEqProofs [a9, c9, h13, h25, hl, n1, n2, n3, n4, hv.cell, hv.val, hv.low, hv.low1]
    rw [iter_keep]; simp -implicitDefEqProofs
    rw [l1]; simp -implicitDefEqProofs [e1, hv.cell, hv.val, hv.low, hv.low1]
    rw [iter_keep]; simp -implicitDefEqProofs
    rw [l2]; simp -implicitDefEqProofs [e2']
    rw [iter_keep]; simp -implicitDefEqProofs
    rw [l3]; simp -implicitDefEqProofs [h13, h25, c13, c25]
def shO : List CSh := [.int .i64, .int .i64, .int .i64, .int .i64, .int .i64]
theorem ok_offer {cs : List AV} (h : okRow shO cs) : ∃ o : Of, cs = orow o := by
  unfold shO at h
  obtain ⟨a, cs, rfl, _, h⟩ := h.int
  obtain ⟨b, cs, rfl, _, h⟩ := h.int
  obtain ⟨c, cs, rfl, _, h⟩ := h.int
  obtain ⟨d, cs, rfl, _, h⟩ := h.int
  obtain ⟨e, cs, rfl, _, h⟩ := h.int
  have := h.nil_inv
  subst this
  exact ⟨(a, b, c, d, e), rfl⟩
theorem ok_offers : ∀ (rows : List (List AV)), (∀ r, r ∈ rows → okRow shO r) → ∃ D : List Of, rows = orows D
  | [], _ => ⟨[], rfl⟩
  | r :: rs, h => by
    obtain ⟨d, rfl⟩ := ok_offer (h r List.mem_cons_self)
    obtain ⟨P, rfl⟩ := ok_offers rs (fun x hx => h x (List.mem_cons_of_mem _ hx))
    exact ⟨d :: P, rfl⟩
theorem ok_olist {x : AV} (h : okRow [.sl shO] [x]) : ∃ D : List Of, LS 5 (orows D) x := by
  obtain ⟨v, _, e, hv, _⟩ := h.sl
  obtain ⟨rfl, _⟩ : x = v ∧ _ := by simpa using e
  rcases hv with rfl | ⟨rows, rfl, hl, hr⟩
  · exact ⟨[], .inl ⟨rfl, rfl⟩⟩
  · obtain ⟨P, rfl⟩ := ok_offers rows hr
    exact ⟨P, .inr (.inr ⟨false, rfl⟩)⟩
theorem loop90_nil (Φ : Nat → Option FnF) (c : Nat) : iter (ev Φ 3000 b9_0) [12, 20] [151] 3000 ⟨[(12, .nilS), (20, .int .i64 1)], [], c⟩ = some (.exit 8, ⟨[(12, .nilS), (20, .int .i64 1), (152, .int .i64 1), (153, .nilS), (154, .int .i64 0), (155, .bool false)], [], c⟩) := by
  rw [show (3000 : Nat) = 2999 + 1 from rfl, iter_succ]
  simp -implicitDefEqProofs [b9_0]
theorem loop94_nil (Φ : Nat → Option FnF) (v : AV) (hv : LS 5 [] v) (rs e2 : Int) : iter (ev Φ 3000 b9_4) [0, 1, 2, 7, 8] [7, 83000, 100200] 3000 ⟨[(0, .int .i64 rs), (1, v), (2, .int .i64 e2), (7, .ptr 7 0 0), (8, .int .i64 0)], H9 0 z54 none, 1⟩ =
    some (.exit 0, ⟨[(0, .int .i64 rs), (1, v), (2, .int .i64 e2), (7, .ptr 7 0 0), (8, .int .i64 0), (32, .int .i64 0), (33, v), (34, .int .i64 0), (35, .bool false)], H9 0 z54 none, 1⟩) := by
  have hl := hv.len
  rw [show (3000 : Nat) = 2999 + 1 from rfl, iter_succ]
  simp -implicitDefEqProofs [b9_4, H9, B9, hl, hv.cell, hv.val]
theorem loop93_nil (Φ : Nat → Option FnF) (v : AV) (hv : LS 5 [] v) (rs e2 : Int) : iter (ev Φ 3000 b9_3) [0, 1, 2, 7, 12, 13] [7, 151, 83000, 100200] 3000 ⟨[(0, .int .i64 rs), (1, v), (2, .int .i64 e2), (7, .ptr 7 0 0), (12, .nilS), (13, .int .i64 0)], H9 0 z54 none, 1⟩ =
    some (.exit 2, ⟨[(0, .int .i64 rs), (1, v), (2, .int .i64 e2), (7, .ptr 7 0 0), (12, .nilS), (13, .int .i64 0), (96, .int .i64 0), (97, v), (98, .int .i64 0), (99, .bool false)], ⟨7, 0, .var z54⟩ :: (B3 none ++ B9 none), 1⟩) := by
  have hl := hv.len
  rw [show (3000 : Nat) = 2999 + 1 from rfl, iter_succ]
  simp -implicitDefEqProofs [b9_3, H9, B9, B3, hl, hv.cell, hv.val]
theorem law9 (x0 x1 x2 : AV) (o0 : okRow [.int .i64] [x0]) (o1 : okRow [.sl shO] [x1]) (o2 : okRow [.int .i64] [x2]) : E 10 9 [x0, x1, x2] = some (.bool true, []) := by
  obtain ⟨rs, _, h0, _, _⟩ := o0.int
  obtain ⟨rfl, _⟩ : x0 = _ ∧ _ := by simpa using h0
  obtain ⟨e2, _, h2, _, _⟩ := o2.int
  obtain ⟨rfl, _⟩ : x2 = _ ∧ _ := by simpa using h2
  obtain ⟨L, hv⟩ := ok_olist o1
  rw [e9]
  by_cases hn : 100 < L.length ∨ rs < 3 ∨ 5 < rs
  · exact law9_no (Q 9) x1 (orows L) hv rs e2 (by rw [orows_len]; exact hn)
  · have hL : L.length ≤ 100 := by omega
    have h3 : 3 ≤ rs := by omega
    have h5 : rs ≤ 5 := by omega
    by_cases l0 : L = []
    · subst l0
      exact law9_of (Q 9) _ _ (q13 8) (q25 8) rows13 rows25 x1 [] hv rs e2 (by simp) h3 h5 z54 none none _ _ _ 1 1 (loop94_nil (Q 9) x1 hv rs e2) (by simp) (loop93_nil (Q 9) x1 hv rs e2) (by simp [O3]) (loop90_nil (Q 9) 1)
    · obtain ⟨t, rfl⟩ := hv.ro (fun h => l0 (List.length_eq_zero_iff.1 (by rw [← orows_len L, h]; rfl)))
      obtain ⟨E1, c1, cells, o, f1, f2, f3, f4, f5⟩ := loop94 t L hL rs e2 h5 0 L.length 0 3000 1 z54 none (by omega) (by omega) TB.init (by omega) (fun g W f h => by cases h)
      obtain ⟨F, hF⟩ := ft_ex f3 (by omega) e2
      obtain ⟨E2, c2, ow, W, k1, k2, k3, k4, k5, k6⟩ := loop93 t L hL rs e2 h3 h5 0 cells F hF (B9 o) (B9_rst o) L.length 0 3000 c1 none [] (by omega) (by omega) f4 rfl (by simp) (fun x hx => by cases hx) (fun g V h => by cases h)
      have l3 : ∃ E3, iter (ev (Q 9) 3000 b9_0) [12, 20] [151] 3000 ⟨[(12, O3 ow), (20, .int .i64 1)], B3 ow, c2⟩ = some (.exit 8, ⟨E3, B3 ow, c2⟩) := by
        rcases ow with _ | ⟨g, V⟩
        · exact ⟨_, loop90_nil (Q 9) c2⟩
        · have e : V = cr W := k3
          subst e
          have := loop90 (Q 9) W k4 (fun x hx => (k5 x hx).1) (fun x hx y hy => WI.one k5 hx hy) g c2 (k6 g _ rfl) (max W.length 1 - 1) 1 3000 (by omega) (by omega) (by omega)
          rw [← cr_len W] at this
          exact this
      obtain ⟨E3, l3⟩ := l3
      exact law9_of (Q 9) _ _ (q13 8) (q25 8) rows13 rows25 _ (orows L) hv rs e2 (by rw [orows_len]; exact hL) h3 h5 cells o ow E1 E2 E3 c1 c2 f1 f2 k1 k2 l3
theorem ref9 : Refines Go.Proofs.Try.prog 9 (E 10 9) := ref 10 9 (q9 9)
end Go.Abs.Try
