/- Part 2 of Cd: what our evaluation of a function's code says, the machine's run does; no condition of its own. -/
import Derived.Test.YtaikibmgchjbdaaCdA
set_option linter.unusedVariables false
set_option linter.unusedSimpArgs false
set_option linter.unusedSectionVars false
namespace Go.Abs.Try
open Go Go.Abs
set_option maxHeartbeats 16000000
set_option maxRecDepth 100000
set_option linter.unusedSimpArgs false
set_option linter.unusedVariables false
def L38 : Option (Nat × List (List AV)) → AV
  | none => .nilS
  | some (_, W) => .ro true 2 W
theorem law5_long (Φ : Nat → Option FnF) (v w : AV) (R S : List (List AV)) (hv : LS 2 R v) (hw : LS 2 S w) (hn : 200 < R.length ∨ 200 < S.length) (rs rg nd : Int) : evFun Φ 3000 a5 [.int .i64 rs, .int .i64 rg, v, w, .int .i64 nd] = some (.bool true, []) := by
  have hl := hv.len
  have hlw := hw.len
  by_cases h1 : 200 < R.length
  · have n1 : (200 : Int) < R.length := by omega
    simp -implicitDefEqProofs [a5, c5, hl, n1, h1, hv.cell, hv.val, hw.cell, hw.val]
  · have h2 := hn.resolve_left h1
    have n1 : ¬ (200 : Int) < R.length := by omega
    have n2 : (200 : Int) < S.length := by omega
    simp -implicitDefEqProofs [a5, c5, hl, hlw, n1, n2, h1, h2, hv.cell, hv.val, hw.cell, hw.val]
theorem law5_of (Φ : Nat → Option FnF) (F13 F14 : CallF) {G13 J13 Y13 G14 J14 Y14} (h13 : Φ 13 = some ⟨F13, G13, J13, Y13⟩) (h14 : Φ 14 = some ⟨F14, G14, J14, Y14⟩)
    (v w : AV) (R S : List (List AV)) (hv : LS 2 R v) (hw : LS 2 S w) (hn : R.length ≤ 200) (hm : S.length ≤ 200) (rs rg nd : Int) (o p : Option (Nat × List (List AV))) (E1 E2 : Env) (c1 c2 : Nat) (ho : ∀ g W, o = some (g, W) → g < c2) (b1 b2 : Bool) (hb : b1 = false ∨ (b1 = true ∧ b2 = true))
    (c13 : F13 [] = some (.bool true, [])) (c14a : F14 [.int .i64 rs, .int .i64 rg, v] = some (.bool b1, [])) (c14b : F14 [.int .i64 rs, .int .i64 rg, L52 v p] = some (.bool b2, [])) (c14c : F14 [.int .i64 rs, .int .i64 rg, L38 o] = some (.bool false, []))
    (l1 : iter (ev Φ 3000 b5_1) [0, 1, 2, 3, 4, 11, 12] [38, 100400, 100600] 3000 ⟨[(0, .int .i64 rs), (1, .int .i64 rg), (2, v), (3, w), (4, .int .i64 nd), (11, .nilS), (12, .int .i64 0)], [], 0⟩ = some (.exit 0, ⟨E1, H38 o, c1⟩))
    (e1 : envOnly [0, 1, 2, 3, 11] E1 = [(0, .int .i64 rs), (1, .int .i64 rg), (2, v), (3, w), (11, O38 o)])
    (l2 : iter (ev Φ 3000 b5_0) [0, 1, 2, 3, 11, 13, 14] [38, 52000, 100400, 100600] 3000 ⟨[(0, .int .i64 rs), (1, .int .i64 rg), (2, v), (3, w), (11, O38 o), (13, v), (14, .int .i64 0)], H38 o, c1⟩ = some (.exit 2, ⟨E2, H38 o ++ H52 p, c2⟩))
    (e2 : envOnly [0, 1, 2, 11, 13] E2 = [(0, .int .i64 rs), (1, .int .i64 rg), (2, v), (11, O38 o), (13, O52 v p)]) :
    evFun Φ 3000 a5 [.int .i64 rs, .int .i64 rg, v, w, .int .i64 nd] = some (.bool true, []) := by
  have hl := hv.len
  have hlw := hw.len
  have n1 : ¬ (200 : Int) < R.length := by omega
  have n2 : ¬ 200 < R.length := by omega
  have n3 : ¬ (200 : Int) < S.length := by omega
  have n4 : ¬ 200 < S.length := by omega
  rcases o with _ | ⟨g, W⟩ <;> rcases p with _ | ⟨g', W'⟩ <;> simp only [O38, H38, O52, H52, L38, L52, List.nil_append, List.cons_append, List.append_nil] at l1 l2 e1 e2 c14b c14c
  · rcases hb with rfl | ⟨rfl, rfl⟩
    · simp -implicitDefEqProofs [a5, c5, h13, h14, hl, hlw, n1, n2, n3, n4, hv.cell, hv.val, hv.low, hv.low1, hw.cell, hw.val]
      rw [iter_keep]; simp -implicitDefEqProofs
      rw [l1]; simp -implicitDefEqProofs [e1, hv.cell, hv.val, hv.low, hv.low1, hw.cell, hw.val]
      rw [iter_keep]; simp -implicitDefEqProofs
      rw [l2]; simp -implicitDefEqProofs [e2, h13, h14, c13, c14a, c14b, c14c, hv.cell, hv.val, hv.cb, hv.ld, hv.ldc, hv.mv, hv.low, hv.low1]
    · simp -implicitDefEqProofs [a5, c5, h13, h14, hl, hlw, n1, n2, n3, n4, hv.cell, hv.val, hv.low, hv.low1, hw.cell, hw.val]
      rw [iter_keep]; simp -implicitDefEqProofs
      rw [l1]; simp -implicitDefEqProofs [e1, hv.cell, hv.val, hv.low, hv.low1, hw.cell, hw.val]
      rw [iter_keep]; simp -implicitDefEqProofs
      rw [l2]; simp -implicitDefEqProofs [e2, h13, h14, c13, c14a, c14b, c14c, hv.cell, hv.val, hv.cb, hv.ld, hv.ldc, hv.mv, hv.low, hv.low1]
  · have tW' : W'.take W'.length = W' := List.take_length
    rcases hb with rfl | ⟨rfl, rfl⟩
    · simp -implicitDefEqProofs [a5, c5, h13, h14, hl, hlw, n1, n2, n3, n4, hv.cell, hv.val, hv.low, hv.low1, hw.cell, hw.val]
      rw [iter_keep]; simp -implicitDefEqProofs
      rw [l1]; simp -implicitDefEqProofs [e1, hv.cell, hv.val, hv.low, hv.low1, hw.cell, hw.val]
      rw [iter_keep]; simp -implicitDefEqProofs
      rw [l2]; simp -implicitDefEqProofs [e2, h13, h14, c13, c14a, c14b, c14c, tW', hv.cell, hv.val, hv.cb, hv.ld, hv.ldc, hv.mv, hv.low, hv.low1]
    · simp -implicitDefEqProofs [a5, c5, h13, h14, hl, hlw, n1, n2, n3, n4, hv.cell, hv.val, hv.low, hv.low1, hw.cell, hw.val]
      rw [iter_keep]; simp -implicitDefEqProofs
      rw [l1]; simp -implicitDefEqProofs [e1, hv.cell, hv.val, hv.low, hv.low1, hw.cell, hw.val]
      rw [iter_keep]; simp -implicitDefEqProofs
      rw [l2]; simp -implicitDefEqProofs [e2, h13, h14, c13, c14a, c14b, c14c, tW', hv.cell, hv.val, hv.cb, hv.ld, hv.ldc, hv.mv, hv.low, hv.low1]
  · have tW : W.take W.length = W := List.take_length
    have hg := ho g W rfl
    rcases hb with rfl | ⟨rfl, rfl⟩
    · simp -implicitDefEqProofs [a5, c5, h13, h14, hl, hlw, n1, n2, n3, n4, hv.cell, hv.val, hv.low, hv.low1, hw.cell, hw.val]
      rw [iter_keep]; simp -implicitDefEqProofs
      rw [l1]; simp -implicitDefEqProofs [e1, hv.cell, hv.val, hv.low, hv.low1, hw.cell, hw.val]
      rw [iter_keep]; simp -implicitDefEqProofs
      rw [l2]; simp -implicitDefEqProofs [e2, h13, h14, c13, c14a, c14b, c14c, tW, hg, hv.cell, hv.val, hv.cb, hv.ld, hv.ldc, hv.mv, hv.low, hv.low1]
    · simp -implicitDefEqProofs [a5, c5, h13, h14, hl, hlw, n1, n2, n3, n4, hv.cell, hv.val, hv.low, hv.low1, hw.cell, hw.val]
      rw [iter_keep]; simp -implicitDefEqProofs
      rw [l1]; simp -implicitDefEqProofs [e1, hv.cell, hv.val, hv.low, hv.low1, hw.cell, hw.val]
      rw [iter_keep]; simp -implicitDefEqProofs
      rw [l2]; simp -implicitDefEqProofs [e2, h13, h14, c13, c14a, c14b, c14c, tW, hg, hv.cell, hv.val, hv.cb, hv.ld, hv.ldc, hv.mv, hv.low, hv.low1]
  · have tW : W.take W.length = W := List.take_length
    have tW' : W'.take W'.length = W' := List.take_length
    have hg := ho g W rfl
    rcases hb with rfl | ⟨rfl, rfl⟩
    · simp -implicitDefEqProofs [a5, c5, h13, h14, hl, hlw, n1, n2, n3, n4, hv.cell, hv.val, hv.low, hv.low1, hw.cell, hw.val]
      rw [iter_keep]; simp -implicitDefEqProofs
      rw [l1]; simp -implicitDefEqProofs [e1, hv.cell, hv.val, hv.low, hv.low1, hw.cell, hw.val]
      rw [iter_keep]; simp -implicitDefEqProofs
      rw [l2]; simp -implicitDefEqProofs [e2, h13, h14, c13, c14a, c14b, c14c, tW, tW', hg, hv.cell, hv.val, hv.cb, hv.ld, hv.ldc, hv.mv, hv.low, hv.low1]
    · simp -implicitDefEqProofs [a5, c5, h13, h14, hl, hlw, n1, n2, n3, n4, hv.cell, hv.val, hv.low, hv.low1, hw.cell, hw.val]
      rw [iter_keep]; simp -implicitDefEqProofs
      rw [l1]; simp -implicitDefEqProofs [e1, hv.cell, hv.val, hv.low, hv.low1, hw.cell, hw.val]
      rw [iter_keep]; simp -implicitDefEqProofs
      rw [l2]; simp -implicitDefEqProofs [e2, h13, h14, c13, c14a, c14b, c14c, tW, tW', hg, hv.cell, hv.val, hv.cb, hv.ld, hv.ldc, hv.mv, hv.low, hv.low1]
theorem loop51_nil (Φ : Nat → Option FnF) (v w : AV) (S : List (List AV)) (hv : LS 2 [] v) (hw : LS 2 S w) (rs rg nd : Int) : iter (ev Φ 3000 b5_1) [0, 1, 2, 3, 4, 11, 12] [38, 100400, 100600] 3000 ⟨[(0, .int .i64 rs), (1, .int .i64 rg), (2, v), (3, w), (4, .int .i64 nd), (11, .nilS), (12, .int .i64 0)], [], 0⟩ =
    some (.exit 0, ⟨[(0, .int .i64 rs), (1, .int .i64 rg), (2, v), (3, w), (4, .int .i64 nd), (11, .nilS), (12, .int .i64 0), (23, .int .i64 0), (24, v), (25, .int .i64 0), (26, .bool false)], [], 0⟩) := by
  have hl := hv.len
  rw [show (3000 : Nat) = 2999 + 1 from rfl, iter_succ]
  simp -implicitDefEqProofs [b5_1, hl, hv.cell, hv.val, hw.cell, hw.val]
theorem loop50_nil (Φ : Nat → Option FnF) (v w : AV) (S : List (List AV)) (hv : LS 2 S v) (hw : LS 2 [] w) (o : Option (Nat × List (List AV))) (c : Nat) (rs rg : Int) : iter (ev Φ 3000 b5_0) [0, 1, 2, 3, 11, 13, 14] [38, 52000, 100400, 100600] 3000 ⟨[(0, .int .i64 rs), (1, .int .i64 rg), (2, v), (3, w), (11, O38 o), (13, v), (14, .int .i64 0)], H38 o, c⟩ =
    some (.exit 2, ⟨[(0, .int .i64 rs), (1, .int .i64 rg), (2, v), (3, w), (11, O38 o), (13, v), (14, .int .i64 0), (40, .int .i64 0), (41, w), (42, .int .i64 0), (43, .bool false)], H38 o, c⟩) := by
  have hl := hw.len
  rw [show (3000 : Nat) = 2999 + 1 from rfl, iter_succ]
  rcases o with _ | ⟨g, W⟩ <;> simp -implicitDefEqProofs [b5_0, O38, H38, hl, hv.cell, hv.val, hw.cell, hw.val]
theorem law5 (x0 x1 x2 x3 x4 : AV) (o0 : okRow [.int .i64] [x0]) (o1 : okRow [.int .i64] [x1]) (o2 : okRow [.sl shA] [x2]) (o3 : okRow [.sl shA] [x3]) (o4 : okRow [.int .i64] [x4]) : E 10 5 [x0, x1, x2, x3, x4] = some (.bool true, []) := by
  obtain ⟨rs, _, h0, _, _⟩ := o0.int
  obtain ⟨rfl, _⟩ : x0 = _ ∧ _ := by simpa using h0
  obtain ⟨rg, _, h1, _, _⟩ := o1.int
  obtain ⟨rfl, _⟩ : x1 = _ ∧ _ := by simpa using h1
  obtain ⟨nd, _, h4, _, _⟩ := o4.int
  obtain ⟨rfl, _⟩ : x4 = _ ∧ _ := by simpa using h4
  obtain ⟨L, hv⟩ := ok_alist o2
  obtain ⟨M, hw⟩ := ok_alist o3
  rw [e5]
  by_cases hn : 200 < L.length ∨ 200 < M.length
  · exact law5_long (Q 9) x2 x3 (ar L) (ar M) hv hw (by rw [ar_len, ar_len]; exact hn) rs rg nd
  · have hL : L.length ≤ 200 := by omega
    have hM : M.length ≤ 200 := by omega
    have w1 : ∃ E' c' o', iter (ev (Q 9) 3000 b5_1) [0, 1, 2, 3, 4, 11, 12] [38, 100400, 100600] 3000 ⟨[(0, .int .i64 rs), (1, .int .i64 rg), (2, x2), (3, x3), (4, .int .i64 nd), (11, .nilS), (12, .int .i64 0)], [], 0⟩ = some (.exit 0, ⟨E', H38 o', c'⟩) ∧
        envOnly [0, 1, 2, 3, 11] E' = [(0, .int .i64 rs), (1, .int .i64 rg), (2, x2), (3, x3), (11, O38 o')] ∧ R38 o' = ar (ones nd L) ∧ (∀ g W, o' = some (g, W) → g < c') := by
      by_cases l0 : L = []
      · subst l0
        exact ⟨_, 0, none, loop51_nil (Q 9) x2 x3 (ar M) hv hw rs rg nd, by simp [O38], rfl, fun g W h => by cases h⟩
      · obtain ⟨t, rfl⟩ := hv.ro (fun h => l0 (List.length_eq_zero_iff.1 (by rw [← ar_len L, h]; rfl)))
        have := loop51 (Q 9) _ (q16 8) t L (by omega) rs rg nd x3 (ar M) hw (fun x => at16 8 x nd) L.length 0 3000 0 none (by omega) (by omega) rfl (fun g W h => by cases h)
        rw [List.drop_zero] at this
        exact this
    obtain ⟨E1, c1, o', l1, f1, r1, g1⟩ := w1
    have w2 : ∃ E' c' p' A', iter (ev (Q 9) 3000 b5_0) [0, 1, 2, 3, 11, 13, 14] [38, 52000, 100400, 100600] 3000 ⟨[(0, .int .i64 rs), (1, .int .i64 rg), (2, x2), (3, x3), (11, O38 o'), (13, x2), (14, .int .i64 0)], H38 o', c1⟩ = some (.exit 2, ⟨E', H38 o' ++ H52 p', c'⟩) ∧
        envOnly [0, 1, 2, 11, 13] E' = [(0, .int .i64 rs), (1, .int .i64 rg), (2, x2), (11, O38 o'), (13, O52 x2 p')] ∧ LS 2 (ar A') (L52 x2 p') ∧ (∀ a ∈ L, a ∈ A') ∧ A'.length ≤ 2900 ∧ c1 ≤ c' := by
      by_cases l0 : M = []
      · subst l0
        exact ⟨_, c1, none, L, by rw [show H38 o' ++ H52 none = H38 o' from List.append_nil _]; exact loop50_nil (Q 9) x2 x3 (ar L) hv hw o' c1 rs rg, by simp [O52], hv, fun _ h => h, by omega, Nat.le_refl _⟩
      · obtain ⟨t, rfl⟩ := hw.ro (fun h => l0 (List.length_eq_zero_iff.1 (by rw [← ar_len M, h]; rfl)))
        have := loop50 (Q 9) _ (q10 8) t M (by omega) rs rg x2 L hv hL o' (fun w A a hA hlA => add10 3 w A hA hlA a) M.length 0 3000 c1 none L (by omega) (by omega) hv (fun _ h => h) (by omega) g1
        obtain ⟨E', c', p', A', k1, k2, k3, k4, k5, k6⟩ := this
        refine ⟨E', c', p', A', ?_, k2, k3, k4, k5, k6⟩
        simpa [H52, O52] using k1
    obtain ⟨E2, c2, p', A', l2, f2, hA, hm, hlA, hc⟩ := w2
    have hOnes : LS 2 (ar (ones nd L)) (L38 o') := by
      rcases o' with _ | ⟨g, W⟩
      · exact .inl ⟨rfl, r1.symm⟩
      · simp only [R38] at r1
        subst r1
        exact .inr (.inr ⟨true, rfl⟩)
    have c14a := enough14 8 L x2 hv (by omega) rs rg
    have c14b := enough14 8 A' _ hA hlA rs rg
    have c14c := enough14 8 (ones nd L) _ hOnes (by unfold ones; rw [List.length_map]; omega) rs rg
    rw [enV_ones] at c14c
    exact law5_of (Q 9) _ _ (q13 8) (q14 8) x2 x3 (ar L) (ar M) hv hw (by rw [ar_len]; exact hL) (by rw [ar_len]; exact hM) rs rg nd o' p' E1 E2 c1 c2 (fun g W h => Nat.lt_of_lt_of_le (g1 g W h) hc) (enV rs rg L) (enV rs rg A') (by cases hb : enV rs rg L; exact .inl rfl; exact .inr ⟨rfl, enV_mono hm hb⟩) rows13 c14a c14b c14c l1 f1 l2 f2
theorem ref5 : Refines Go.Proofs.Try.prog 5 (E 10 5) := ref 10 5 (q5 9)
end Go.Abs.Try

namespace Go.Abs.Try
open Go Go.Abs
set_option maxHeartbeats 16000000
set_option maxRecDepth 100000
set_option linter.unusedSimpArgs false
set_option linter.unusedVariables false
/-- one address of both that counts -/
def good (rs rg : Int) (a b : Ad) : Bool := decide (a = b) && (a.1 != rg) && decide (1 ≤ a.1) && decide (a.1 ≤ rs) && decide (1 ≤ a.2) && decide (a.2 ≤ 3)
theorem step40_no (Φ : Nat → Option FnF) (ta tb : Bool) (R S : List (List AV)) (i j c k len lem : Nat) (hl : R.length = len) (hm : S.length = lem) (hi : i < len) (hj : j < lem) (hb : len ≤ 100000) (hb2 : lem ≤ 100000) (rs rg x y u v : Int) (r1 : R[i]? = some [.int .i64 x, .int .i64 y]) (r2 : S[j]? = some [.int .i64 u, .int .i64 v])
    (h : good rs rg (x, y) (u, v) = false) : iter (ev Φ 3000 b4_0) [0, 1, 2, 3, 9, 10] [100400, 100600] (k + 1) ⟨[(0, .int .i64 rs), (1, .int .i64 rg), (2, .ro ta 2 R), (3, .ro tb 2 S), (9, .int .i64 i), (10, .int .i64 j)], [], c⟩ =
      iter (ev Φ 3000 b4_0) [0, 1, 2, 3, 9, 10] [100400, 100600] k ⟨[(0, .int .i64 rs), (1, .int .i64 rg), (2, .ro ta 2 R), (3, .ro tb 2 S), (9, .int .i64 i), (10, .int .i64 ((j + 1 : Nat) : Int))], [], c⟩ := by
  have j1 : (j : Int) < (lem : Int) := by omega
  have il : i < R.length := by omega
  have il2 : j < S.length := by omega
  have r1' := (List.getElem?_eq_some_iff.1 r1).2
  have r2' := (List.getElem?_eq_some_iff.1 r2).2
  have w1 : IntKind.i64.wrap ((j : Int) + 1) = ((j + 1 : Nat) : Int) := by rw [wrap_i64 _ (by omega) (by omega)]; omega
  have hq := aeq2 x y u v
  generalize ((j + 1 : Nat) : Int) = jj at *
  unfold good at h
  apply iter_norm
  by_cases q0 : (x, y) = (u, v)
  · rw [decide_eq_true q0] at h hq
    by_cases q1 : x = rg
    · subst q1
      have q1' : (x != x) = false := by simp
      simp -implicitDefEqProofs [-aeqCells, b4_0, St.keep, hi, hj, j1, il, il2, hl, hm, r1, r1', r2, r2', w1, hq, q1']
    · by_cases q2 : 1 ≤ x
      · by_cases q3 : x ≤ rs
        · by_cases q4 : 1 ≤ y
          · by_cases q5 : y ≤ 3
            · simp [q1, q2, q3, q4, q5] at h
            · have q1' : (x != rg) = true := by simpa using q1
              simp -implicitDefEqProofs [-aeqCells, b4_0, St.keep, hi, hj, j1, il, il2, hl, hm, r1, r1', r2, r2', w1, hq, q1, q1', q2, q3, q4, q5]
          · have q1' : (x != rg) = true := by simpa using q1
            simp -implicitDefEqProofs [-aeqCells, b4_0, St.keep, hi, hj, j1, il, il2, hl, hm, r1, r1', r2, r2', w1, hq, q1, q1', q2, q3, q4]
        · have q1' : (x != rg) = true := by simpa using q1
          simp -implicitDefEqProofs [-aeqCells, b4_0, St.keep, hi, hj, j1, il, il2, hl, hm, r1, r1', r2, r2', w1, hq, q1, q1', q2, q3]
      · have q1' : (x != rg) = true := by simpa using q1
        simp -implicitDefEqProofs [-aeqCells, b4_0, St.keep, hi, hj, j1, il, il2, hl, hm, r1, r1', r2, r2', w1, hq, q1, q1', q2]
  · rw [decide_eq_false q0] at hq
    simp -implicitDefEqProofs [-aeqCells, b4_0, St.keep, hi, hj, j1, il, il2, hl, hm, r1, r1', r2, r2', w1, hq]
theorem step40_yes (Φ : Nat → Option FnF) (F13 : CallF) {G13 J13 Y13} (h13 : Φ 13 = some ⟨F13, G13, J13, Y13⟩) (c13 : F13 [] = some (.bool true, [])) (ta tb : Bool) (R S : List (List AV)) (i j c k len lem : Nat) (hl : R.length = len) (hm : S.length = lem) (hi : i < len) (hj : j < lem) (hb : len ≤ 100000) (hb2 : lem ≤ 100000) (rs rg x y u v : Int) (r1 : R[i]? = some [.int .i64 x, .int .i64 y]) (r2 : S[j]? = some [.int .i64 u, .int .i64 v])
    (h : good rs rg (x, y) (u, v) = true) : ∃ E', iter (ev Φ 3000 b4_0) [0, 1, 2, 3, 9, 10] [100400, 100600] (k + 1) ⟨[(0, .int .i64 rs), (1, .int .i64 rg), (2, .ro ta 2 R), (3, .ro tb 2 S), (9, .int .i64 i), (10, .int .i64 j)], [], c⟩ =
      some (.ret, ⟨E', [], c⟩) ∧ envGet E' 8 = some (.bool true) := by
  have j1 : (j : Int) < (lem : Int) := by omega
  have il : i < R.length := by omega
  have il2 : j < S.length := by omega
  have r1' := (List.getElem?_eq_some_iff.1 r1).2
  have r2' := (List.getElem?_eq_some_iff.1 r2).2
  have hq := aeq2 x y u v
  unfold good at h
  rw [Bool.and_eq_true, Bool.and_eq_true, Bool.and_eq_true, Bool.and_eq_true, Bool.and_eq_true] at h
  obtain ⟨⟨⟨⟨⟨q0, q1⟩, q2⟩, q3⟩, q4⟩, q5⟩ := h
  rw [q0] at hq
  have q2 := of_decide_eq_true q2
  have q3 := of_decide_eq_true q3
  have q4 := of_decide_eq_true q4
  have q5 := of_decide_eq_true q5
  simp only at q1 q2 q3 q4 q5
  have q1' : ¬ x = rg := by simpa using q1
  rw [iter_succ]
  simp -implicitDefEqProofs [-aeqCells, b4_0, h13, c13, hi, hj, j1, il, il2, hl, hm, r1, r1', r2, r2', hq, q1, q1', q2, q3, q4, q5]
theorem loop40 (Φ : Nat → Option FnF) (F13 : CallF) {G13 J13 Y13} (h13 : Φ 13 = some ⟨F13, G13, J13, Y13⟩) (c13 : F13 [] = some (.bool true, [])) (ta tb : Bool) (A B : List Ad) (hA : A.length ≤ 2900) (hB : B.length ≤ 2900) (i c : Nat) (hi : i < A.length) (rs rg : Int) : ∀ (d j k : Nat), j + d = B.length → d < k →
    if (B.drop j).any (good rs rg (gA A i)) then ∃ E', iter (ev Φ 3000 b4_0) [0, 1, 2, 3, 9, 10] [100400, 100600] k ⟨[(0, .int .i64 rs), (1, .int .i64 rg), (2, .ro ta 2 (ar A)), (3, .ro tb 2 (ar B)), (9, .int .i64 i), (10, .int .i64 j)], [], c⟩ = some (.ret, ⟨E', [], c⟩) ∧ envGet E' 8 = some (.bool true)
    else ∃ E', iter (ev Φ 3000 b4_0) [0, 1, 2, 3, 9, 10] [100400, 100600] k ⟨[(0, .int .i64 rs), (1, .int .i64 rg), (2, .ro ta 2 (ar A)), (3, .ro tb 2 (ar B)), (9, .int .i64 i), (10, .int .i64 j)], [], c⟩ = some (.exit 2, ⟨E', [], c⟩) ∧ envOnly [0, 1, 2, 3, 9] E' = [(0, .int .i64 rs), (1, .int .i64 rg), (2, .ro ta 2 (ar A)), (3, .ro tb 2 (ar B)), (9, .int .i64 i)]
  | d, j, 0, hj, hk => by omega
  | 0, j, k + 1, hj, hk => by
    have n1 : ¬ ((j : Int) < (B.length : Int)) := by omega
    have n2 : ¬ (j < B.length) := by omega
    have la := ar_len B
    rw [List.drop_of_length_le (by omega)]
    simp only [List.any_nil, Bool.false_eq_true, ↓reduceIte]
    refine ⟨[(0, .int .i64 rs), (1, .int .i64 rg), (2, .ro ta 2 (ar A)), (3, .ro tb 2 (ar B)), (9, .int .i64 i), (10, .int .i64 j), (40, .int .i64 j), (41, .ro tb 2 (ar B)), (42, .int .i64 B.length), (43, .bool false)], ?_, by simp⟩
    rw [iter_succ]
    simp -implicitDefEqProofs [b4_0, n1, n2, la]
  | d + 1, j, k + 1, hj, hk => by
    have hjl : j < B.length := by omega
    have da : B.drop j = gA B j :: B.drop (j + 1) := by rw [gA_of hjl]; exact List.drop_eq_getElem_cons hjl
    have ih := loop40 Φ F13 h13 c13 ta tb A B hA hB i c hi rs rg d (j + 1) k (by omega) (by omega)
    rw [da, List.any_cons]
    cases hg : good rs rg (gA A i) (gA B j) with
    | false =>
      have st := step40_no Φ ta tb (ar A) (ar B) i j c k A.length B.length (ar_len A) (ar_len B) hi hjl (by omega) (by omega) rs rg _ _ _ _ (ar_get hi) (ar_get hjl) hg
      rw [Bool.false_or, st]
      exact ih
    | true =>
      have st := step40_yes Φ F13 h13 c13 ta tb (ar A) (ar B) i j c k A.length B.length (ar_len A) (ar_len B) hi hjl (by omega) (by omega) rs rg _ _ _ _ (ar_get hi) (ar_get hjl) hg
      rw [Bool.true_or, if_pos rfl]
      exact st
theorem step41_no (Φ : Nat → Option FnF) (va vb : AV) (R S : List (List AV)) (ha : LS 2 R va) (hb : LS 2 S vb) (i c k len : Nat) (hl : R.length = len) (hi : i < len) (hln : len ≤ 100000) (rs rg : Int) (E1 : Env)
    (l1 : iter (ev Φ 3000 b4_0) [0, 1, 2, 3, 9, 10] [100400, 100600] 3000 ⟨[(0, .int .i64 rs), (1, .int .i64 rg), (2, va), (3, vb), (9, .int .i64 i), (10, .int .i64 0)], [], c⟩ = some (.exit 2, ⟨E1, [], c⟩))
    (e1 : envOnly [0, 1, 2, 3, 9] E1 = [(0, .int .i64 rs), (1, .int .i64 rg), (2, va), (3, vb), (9, .int .i64 i)]) :
    iter (ev Φ 3000 b4_1) [0, 1, 2, 3, 9] [100400, 100600] (k + 1) ⟨[(0, .int .i64 rs), (1, .int .i64 rg), (2, va), (3, vb), (9, .int .i64 i)], [], c⟩ =
      iter (ev Φ 3000 b4_1) [0, 1, 2, 3, 9] [100400, 100600] k ⟨[(0, .int .i64 rs), (1, .int .i64 rg), (2, va), (3, vb), (9, .int .i64 ((i + 1 : Nat) : Int))], [], c⟩ := by
  have i1 : (i : Int) < (len : Int) := by omega
  have hlv := ha.len
  have w1 : IntKind.i64.wrap ((i : Int) + 1) = ((i + 1 : Nat) : Int) := by rw [wrap_i64 _ (by omega) (by omega)]; omega
  generalize ((i + 1 : Nat) : Int) = jj at *
  apply iter_norm
  simp -implicitDefEqProofs [b4_1, St.keep, hlv, hl, hi, i1, ha.cell, ha.val, ha.low, ha.low1, hb.cell, hb.val, hb.low, hb.low1]
  rw [iter_keep]; simp -implicitDefEqProofs
  rw [l1]; simp -implicitDefEqProofs [e1, w1, ha.cell, ha.val, ha.low, ha.low1, hb.cell, hb.val, hb.low, hb.low1]
  exact ⟨_, _, ⟨rfl, rfl⟩, rfl, by simp, by simp, rfl⟩
theorem step41_yes (Φ : Nat → Option FnF) (va vb : AV) (R S : List (List AV)) (ha : LS 2 R va) (hb : LS 2 S vb) (i c k len : Nat) (hl : R.length = len) (hi : i < len) (hln : len ≤ 100000) (rs rg : Int) (E1 : Env)
    (l1 : iter (ev Φ 3000 b4_0) [0, 1, 2, 3, 9, 10] [100400, 100600] 3000 ⟨[(0, .int .i64 rs), (1, .int .i64 rg), (2, va), (3, vb), (9, .int .i64 i), (10, .int .i64 0)], [], c⟩ = some (.ret, ⟨E1, [], c⟩)) :
    iter (ev Φ 3000 b4_1) [0, 1, 2, 3, 9] [100400, 100600] (k + 1) ⟨[(0, .int .i64 rs), (1, .int .i64 rg), (2, va), (3, vb), (9, .int .i64 i)], [], c⟩ = some (.ret, ⟨E1, [], c⟩) := by
  have i1 : (i : Int) < (len : Int) := by omega
  have hlv := ha.len
  rw [iter_succ]
  simp -implicitDefEqProofs [b4_1, hlv, hl, hi, i1, ha.cell, ha.val, ha.low, ha.low1, hb.cell, hb.val, hb.low, hb.low1]
  rw [iter_keep]; simp -implicitDefEqProofs
  rw [l1]
end Go.Abs.Try

namespace Go.Abs.Try
open Go Go.Abs
set_option maxHeartbeats 16000000
set_option maxRecDepth 100000
set_option linter.unusedSimpArgs false
set_option linter.unusedVariables false
theorem loop41 (Φ : Nat → Option FnF) (F13 : CallF) {G13 J13 Y13} (h13 : Φ 13 = some ⟨F13, G13, J13, Y13⟩) (c13 : F13 [] = some (.bool true, [])) (ta tb : Bool) (A B : List Ad) (hA : A.length ≤ 2900) (hB : B.length ≤ 2900) (c : Nat) (rs rg : Int) : ∀ (d i k : Nat), i + d = A.length → d < k → (∃ a ∈ A.drop i, ∃ b ∈ B, good rs rg a b = true) →
    ∃ E', iter (ev Φ 3000 b4_1) [0, 1, 2, 3, 9] [100400, 100600] k ⟨[(0, .int .i64 rs), (1, .int .i64 rg), (2, .ro ta 2 (ar A)), (3, .ro tb 2 (ar B)), (9, .int .i64 i)], [], c⟩ = some (.ret, ⟨E', [], c⟩) ∧ envGet E' 8 = some (.bool true)
  | d, i, 0, hi, hk, hx => by omega
  | 0, i, k + 1, hi, hk, hx => by
    rw [List.drop_of_length_le (by omega)] at hx
    obtain ⟨a, ha, _⟩ := hx
    cases ha
  | d + 1, i, k + 1, hi, hk, hx => by
    have hil : i < A.length := by omega
    have da : A.drop i = gA A i :: A.drop (i + 1) := by rw [gA_of hil]; exact List.drop_eq_getElem_cons hil
    have hLa : LS 2 (ar A) (.ro ta 2 (ar A)) := .inr (.inr ⟨ta, rfl⟩)
    have hLb : LS 2 (ar B) (.ro tb 2 (ar B)) := .inr (.inr ⟨tb, rfl⟩)
    have lp := loop40 Φ F13 h13 c13 ta tb A B hA hB i c hil rs rg B.length 0 3000 (by omega) (by omega)
    rw [List.drop_zero] at lp
    cases hany : B.any (good rs rg (gA A i)) with
    | true =>
      rw [hany, if_pos rfl] at lp
      obtain ⟨E', l1, e1⟩ := lp
      exact ⟨E', step41_yes Φ _ _ _ _ hLa hLb i c k A.length (ar_len A) hil (by omega) rs rg E' l1, e1⟩
    | false =>
      rw [hany, if_neg Bool.false_ne_true] at lp
      obtain ⟨E', l1, e1⟩ := lp
      rw [step41_no Φ _ _ _ _ hLa hLb i c k A.length (ar_len A) hil (by omega) rs rg E' l1 e1]
      refine loop41 Φ F13 h13 c13 ta tb A B hA hB c rs rg d (i + 1) k (by omega) (by omega) ?_
      obtain ⟨a, ha, b, hb, hg⟩ := hx
      rw [da, List.mem_cons] at ha
      rcases ha with rfl | ha
      · rw [List.any_eq_false] at hany
        exact absurd hg (hany b hb)
      · exact ⟨a, ha, b, hb, hg⟩
theorem law4_no (Φ : Nat → Option FnF) (F13 F14 : CallF) {G13 J13 Y13 G14 J14 Y14} (h13 : Φ 13 = some ⟨F13, G13, J13, Y13⟩) (h14 : Φ 14 = some ⟨F14, G14, J14, Y14⟩) (c13 : F13 [] = some (.bool true, []))
    (v w : AV) (R S : List (List AV)) (hv : LS 2 R v) (hw : LS 2 S w) (rs rg : Int) (b1 b2 : Bool) (c14a : R.length ≤ 200 → F14 [.int .i64 rs, .int .i64 rg, v] = some (.bool b1, [])) (c14b : S.length ≤ 200 → F14 [.int .i64 rs, .int .i64 rg, w] = some (.bool b2, []))
    (h : 200 < R.length ∨ 200 < S.length ∨ b1 = false ∨ b2 = false) : evFun Φ 3000 a4 [.int .i64 rs, .int .i64 rg, v, w] = some (.bool true, []) := by
  have hl := hv.len
  have hlw := hw.len
  by_cases q1 : 200 < R.length
  · have n1 : (200 : Int) < R.length := by omega
    simp -implicitDefEqProofs [a4, c4, h13, c13, hl, n1, q1, hv.cell, hv.val, hw.cell, hw.val]
  · have n1 : ¬ (200 : Int) < R.length := by omega
    by_cases q2 : 200 < S.length
    · have n2 : (200 : Int) < S.length := by omega
      simp -implicitDefEqProofs [a4, c4, h13, c13, hl, hlw, n1, q1, n2, q2, hv.cell, hv.val, hw.cell, hw.val]
    · have n2 : ¬ (200 : Int) < S.length := by omega
      have c14a := c14a (by omega)
      have c14b := c14b (by omega)
      cases b1
      · simp -implicitDefEqProofs [a4, c4, h13, h14, c13, c14a, hl, hlw, n1, q1, n2, q2, hv.cell, hv.val, hv.cb, hv.ld, hv.ldc, hv.mv, hw.cell, hw.val]
      · have h2 : b2 = false := by simpa [q1, q2] using h
        subst h2
        simp -implicitDefEqProofs [a4, c4, h13, h14, c13, c14a, c14b, hl, hlw, n1, q1, n2, q2, hv.cell, hv.val, hv.cb, hv.ld, hv.ldc, hv.mv, hw.cell, hw.val, hw.cb, hw.ld, hw.ldc, hw.mv]
theorem law4_yes (Φ : Nat → Option FnF) (F13 F14 : CallF) {G13 J13 Y13 G14 J14 Y14} (h13 : Φ 13 = some ⟨F13, G13, J13, Y13⟩) (h14 : Φ 14 = some ⟨F14, G14, J14, Y14⟩)
    (v w : AV) (R S : List (List AV)) (hv : LS 2 R v) (hw : LS 2 S w) (hn : R.length ≤ 200) (hm : S.length ≤ 200) (rs rg : Int) (c14a : F14 [.int .i64 rs, .int .i64 rg, v] = some (.bool true, [])) (c14b : F14 [.int .i64 rs, .int .i64 rg, w] = some (.bool true, []))
    (E1 : Env) (c1 : Nat) (l1 : iter (ev Φ 3000 b4_1) [0, 1, 2, 3, 9] [100400, 100600] 3000 ⟨[(0, .int .i64 rs), (1, .int .i64 rg), (2, v), (3, w), (9, .int .i64 0)], [], 0⟩ = some (.ret, ⟨E1, [], c1⟩)) (e1 : envGet E1 8 = some (.bool true)) :
    evFun Φ 3000 a4 [.int .i64 rs, .int .i64 rg, v, w] = some (.bool true, []) := by
  have hl := hv.len
  have hlw := hw.len
  have n1 : ¬ (200 : Int) < R.length := by omega
  have n2 : ¬ 200 < R.length := by omega
  have n3 : ¬ (200 : Int) < S.length := by omega
  have n4 : ¬ 200 < S.length := by omega
  simp -implicitDefEqProofs [a4, c4, h13, h14, c14a, c14b, hl, hlw, n1, n2, n3, n4, hv.cell, hv.val, hv.cb, hv.ld, hv.ldc, hv.mv, hv.low, hv.low1, hw.cell, hw.val, hw.cb, hw.ld, hw.ldc, hw.mv, hw.low, hw.low1]
  rw [iter_keep]; simp -implicitDefEqProofs
  rw [l1]; simp -implicitDefEqProofs [e1]
/-- the plain part: two rows with more than half of the other regions each have a region in common -/
theorem hv_two (A B : List Ad) (rg : Int) : ∀ (d : Nat) (s : Int), (∀ x : Int, s ≤ x → x < s + d → x ≠ rg → ¬ (cnt A x > 1 ∧ cnt B x > 1)) → hvFrom A rg s d + hvFrom B rg s d ≤ d - (if s ≤ rg ∧ rg < s + d then 1 else 0)
  | 0, s, h => by simp only [hvFrom]; split <;> omega
  | d + 1, s, h => by
    have ih := hv_two A B rg d (s + 1) (fun x h1 h2 => h x (by omega) (by omega))
    have h0 := h s (Int.le_refl _) (by omega)
    rw [hvFrom, hvFrom]
    have h1 : hv1 A rg s + hv1 B rg s ≤ if s = rg then 0 else 1 := by
      unfold hv1
      by_cases e : s = rg
      · rw [if_pos e, if_neg (fun k => k.1 e), if_neg (fun k => k.1 e)]; omega
      · have := h0 e
        rw [if_neg e]
        by_cases a : cnt A s > 1
        · rw [if_pos ⟨e, a⟩, if_neg (fun k => this ⟨a, k.2⟩)]; omega
        · rw [if_neg (fun k => a k.2)]; split <;> omega
    by_cases e : s = rg
    · rw [if_pos e] at h1
      rw [if_neg (by omega)] at ih
      rw [if_pos (by omega)]
      omega
    · rw [if_neg e] at h1
      by_cases f : s + 1 ≤ rg ∧ rg < s + 1 + d
      · rw [if_pos f] at ih
        rw [if_pos (by omega)]
        omega
      · rw [if_neg f] at ih
        rw [if_neg (by omega)]
        omega
theorem two_of (A B : List Ad) (s : Int) (ha : cnt A s > 1) (hb : cnt B s > 1) : ∃ n : Int, 1 ≤ n ∧ n ≤ 3 ∧ (s, n) ∈ A ∧ (s, n) ∈ B := by
  unfold cnt at ha hb
  by_cases h1 : (s, (1 : Int)) ∈ A ∧ (s, (1 : Int)) ∈ B
  · exact ⟨1, by omega, by omega, h1.1, h1.2⟩
  · by_cases h2 : (s, (2 : Int)) ∈ A ∧ (s, (2 : Int)) ∈ B
    · exact ⟨2, by omega, by omega, h2.1, h2.2⟩
    · by_cases h3 : (s, (3 : Int)) ∈ A ∧ (s, (3 : Int)) ∈ B
      · exact ⟨3, by omega, by omega, h3.1, h3.2⟩
      · exfalso
        by_cases a1 : (s, (1 : Int)) ∈ A <;> by_cases a2 : (s, (2 : Int)) ∈ A <;> by_cases a3 : (s, (3 : Int)) ∈ A <;> simp only [a1, a2, a3, ↓reduceIte, true_and, false_and, not_false_eq_true] at ha h1 h2 h3 <;> (try omega) <;> simp only [h1, h2, h3, ↓reduceIte] at hb <;> revert hb <;> (repeat' split) <;> omega
theorem meet {A B : List Ad} {rs rg : Int} (ha : enV rs rg A = true) (hb : enV rs rg B = true) : ∃ a ∈ A, ∃ b ∈ B, good rs rg a b = true := by
  unfold enV at ha hb
  rw [Bool.and_eq_true, decide_eq_true_eq] at ha hb
  obtain ⟨h1, h2, h3, h4⟩ := okR_true ha.1
  by_cases h : ∀ x : Int, 1 ≤ x → x < 1 + rs.toNat → x ≠ rg → ¬ (cnt A x > 1 ∧ cnt B x > 1)
  · exfalso
    have := hv_two A B rg rs.toNat 1 h
    rw [if_pos (by omega)] at this
    omega
  · have : ∃ x : Int, 1 ≤ x ∧ x < 1 + rs.toNat ∧ x ≠ rg ∧ cnt A x > 1 ∧ cnt B x > 1 := by
      apply Classical.byContradiction
      intro hc
      exact h (fun x q1 q2 q3 q4 => hc ⟨x, q1, q2, q3, q4.1, q4.2⟩)
    obtain ⟨x, q1, q2, q3, q4, q5⟩ := this
    obtain ⟨n, n1, n2, n3, n4⟩ := two_of A B x q4 q5
    refine ⟨(x, n), n3, (x, n), n4, ?_⟩
    unfold good
    simp only [decide_true, Bool.true_and, Bool.and_eq_true, bne_iff_ne, ne_eq, decide_eq_true_eq]
    exact ⟨⟨⟨⟨q3, q1⟩, by omega⟩, n1⟩, n2⟩
theorem law4 (x0 x1 x2 x3 : AV) (o0 : okRow [.int .i64] [x0]) (o1 : okRow [.int .i64] [x1]) (o2 : okRow [.sl shA] [x2]) (o3 : okRow [.sl shA] [x3]) : E 10 4 [x0, x1, x2, x3] = some (.bool true, []) := by
  obtain ⟨rs, _, h0, _, _⟩ := o0.int
  obtain ⟨rfl, _⟩ : x0 = _ ∧ _ := by simpa using h0
  obtain ⟨rg, _, h1, _, _⟩ := o1.int
  obtain ⟨rfl, _⟩ : x1 = _ ∧ _ := by simpa using h1
  obtain ⟨L, hv⟩ := ok_alist o2
  obtain ⟨M, hw⟩ := ok_alist o3
  rw [e4]
  have no : 200 < L.length ∨ 200 < M.length ∨ enV rs rg L = false ∨ enV rs rg M = false → evFun (Q 9) 3000 a4 [.int .i64 rs, .int .i64 rg, x2, x3] = some (.bool true, []) := fun h =>
    law4_no (Q 9) _ _ (q13 8) (q14 8) rows13 x2 x3 (ar L) (ar M) hv hw rs rg (enV rs rg L) (enV rs rg M) (fun hl => enough14 8 L x2 hv (by rw [ar_len] at hl; omega) rs rg) (fun hl => enough14 8 M x3 hw (by rw [ar_len] at hl; omega) rs rg) (by rw [ar_len, ar_len]; exact h)
  by_cases hL : 200 < L.length
  · exact no (.inl hL)
  · by_cases hM : 200 < M.length
    · exact no (.inr (.inl hM))
    · cases ha : enV rs rg L with
      | false => exact no (.inr (.inr (.inl ha)))
      | true =>
        cases hb : enV rs rg M with
        | false => exact no (.inr (.inr (.inr hb)))
        | true =>
          obtain ⟨a, ma, b, mb, hg⟩ := meet ha hb
          have c14a := enough14 8 L x2 hv (by omega) rs rg
          have c14b := enough14 8 M x3 hw (by omega) rs rg
          rw [ha] at c14a
          rw [hb] at c14b
          obtain ⟨t, rfl⟩ := hv.ro (fun h => by have := ar_len L; rw [h] at this; rw [List.length_eq_zero_iff.1 this.symm] at ma; cases ma)
          obtain ⟨t', rfl⟩ := hw.ro (fun h => by have := ar_len M; rw [h] at this; rw [List.length_eq_zero_iff.1 this.symm] at mb; cases mb)
          obtain ⟨E1, l1, e1⟩ := loop41 (Q 9) _ (q13 8) rows13 t t' L M (by omega) (by omega) 0 rs rg L.length 0 3000 (by omega) (by omega) ⟨a, by rw [List.drop_zero]; exact ma, b, mb, hg⟩
          exact law4_yes (Q 9) _ _ (q13 8) (q14 8) _ _ (ar L) (ar M) hv hw (by rw [ar_len]; omega) (by rw [ar_len]; omega) rs rg c14a c14b E1 0 l1 e1
theorem ref4 : Refines Go.Proofs.Try.prog 4 (E 10 4) := ref 10 4 (q4 9)
end Go.Abs.Try

namespace Go.Abs.Try
open Go Go.Abs
set_option maxHeartbeats 16000000
set_option maxRecDepth 100000
set_option linter.unusedSimpArgs false
set_option linter.unusedVariables false
def H12 (g3 : Nat) (X : List AV) : Option (Bool × Nat × List (List AV)) → AH
  | none => [⟨3, g3, .var X⟩]
  | some (true, gb, W) => [⟨3, g3, .var X⟩, ⟨30, gb, .arr 2 W false⟩]
  | some (false, gb, W) => [⟨3, g3, .var X⟩, ⟨37, gb, .arr 2 W false⟩]
def out12 : Option (Bool × Nat × List (List AV)) → AV
  | none => .nilS
  | some (true, gb, W) => .own 30 gb 0 W.length
  | some (false, gb, W) => .own 37 gb 0 W.length
def rows12 : Option (Bool × Nat × List (List AV)) → List (List AV)
  | none => []
  | some (_, _, W) => W
def nm12 (o : Option (Bool × Nat × List (List AV))) (x : Bool) : Bool := match o with
  | none => x
  | some (n, _, _) => n
theorem bytes16 {k : Nat} (h : k ≤ 10000) : (k + 1) * 16 ≤ maxBytes ∧ (k + 1 + 1) * 16 ≤ maxBytes := by
  unfold maxBytes; omega
theorem step12 (Φ : Nat → Option FnF) (F36 : CallF) {G36 J36 Y36} (h36 : Φ 36 = some ⟨F36, G36, J36, Y36⟩) (t : Bool) (R : List (List AV)) (len i c k g3 : Nat) (hg3 : g3 < c) (hl : R.length = len) (hi : i < len) (hb : len ≤ 100000) (x y u v : Int) (r1 : R[i]? = some [.int .i64 x, .int .i64 y])
    (o : Option (Bool × Nat × List (List AV))) (hoL : (rows12 o).length ≤ 10000) (b le : Bool) (c36 : F36 [.agg [.int .i64 u, .int .i64 v], .agg [.int .i64 x, .int .i64 y]] = some (.bool le, [])) :
    iter (ev Φ 3000 b12_0) [0, 3, 5, 6, 7] [3, 30, 37, 43, 100000] (k + 1) ⟨[(0, .ro t 2 R), (3, .ptr 3 g3 0), (5, out12 o), (6, .bool b), (7, .int .i64 i)], H12 g3 [.int .i64 u, .int .i64 v] o, c⟩ =
      iter (ev Φ 3000 b12_0) [0, 3, 5, 6, 7] [3, 30, 37, 43, 100000] k ⟨[(0, .ro t 2 R), (3, .ptr 3 g3 0), (5, out12 (some (nm12 o (!b && le), (if !b && le then c + 3 else c + 1), rows12 o ++ ((if !b && le then [[.int .i64 u, .int .i64 v]] else []) ++ [[.int .i64 x, .int .i64 y]])))), (6, .bool (b || le)), (7, .int .i64 ((i + 1 : Nat) : Int))], H12 g3 [.int .i64 u, .int .i64 v] (some (nm12 o (!b && le), (if !b && le then c + 3 else c + 1), rows12 o ++ ((if !b && le then [[.int .i64 u, .int .i64 v]] else []) ++ [[.int .i64 x, .int .i64 y]]))), if !b && le then c + 4 else c + 2⟩ := by
  have i1 : (i : Int) < (len : Int) := by omega
  have il : i < R.length := by omega
  have r1' := (List.getElem?_eq_some_iff.1 r1).2
  have w1 : IntKind.i64.wrap ((i : Int) + 1) = ((i + 1 : Nat) : Int) := by rw [wrap_i64 _ (by omega) (by omega)]; omega
  have m1 : (16 : Nat) ≤ maxBytes := by simp [maxBytes]
  have m2 : (1 : Nat) * 16 ≤ maxBytes := by simp [maxBytes]
  have m3 : (1 + 1 : Nat) * 16 ≤ maxBytes := by simp [maxBytes]
  have m6 : (2 : Nat) * 16 ≤ maxBytes := by simp [maxBytes]
  generalize ((i + 1 : Nat) : Int) = j at *
  apply iter_norm
  rcases o with _ | ⟨nm, gb, W⟩
  · cases b <;> cases le <;> simp -implicitDefEqProofs [b12_0, St.keep, H12, out12, rows12, nm12, h36, c36, hg3, hi, i1, il, hl, r1, r1', w1, z24, m1, m2, m3, m6, aappend]
  · simp only [rows12] at hoL
    have tW : W.take W.length = W := List.take_length
    have m4 := (bytes16 hoL).1
    have m5 := (bytes16 hoL).2
    have n5 : ¬ (W.length + 1 ≤ W.length) := Nat.not_succ_le_self _
    have n6 : ¬ (W.length + 1 + 1 ≤ W.length + 1) := Nat.not_succ_le_self _
    have tW2 : (W ++ [[AV.int .i64 u, .int .i64 v]]).take (W.length + 1) = W ++ [[.int .i64 u, .int .i64 v]] := List.take_of_length_le (by rw [List.length_append]; exact Nat.le_refl _)
    cases nm <;> cases b <;> cases le <;> simp -implicitDefEqProofs [b12_0, St.keep, H12, out12, rows12, nm12, h36, c36, hg3, hi, i1, il, hl, r1, r1', w1, z24, m1, m2, m3, m4, m5, m6, n5, n6, tW, tW2, aappend]
/-- what the document's loop makes of a row -/
def goA (x : Ad) : Bool → List Ad → List Ad × Bool
  | b, [] => ([], b)
  | b, y :: r => (((if !b && lt2 x y then [x] else []) ++ [y]) ++ (goA x (b || lt2 x y) r).1, (goA x (b || lt2 x y) r).2)
theorem goA_true (x : Ad) : ∀ D, goA x true D = (D, true)
  | [] => rfl
  | y :: r => by rw [goA]; simp [goA_true x r]
theorem ar_app (A B : List Ad) : ar (A ++ B) = ar A ++ ar B := by simp [ar]
def oA (nm : Bool) (gb : Nat) (acc : List Ad) : Option (Bool × Nat × List (List AV)) := if acc = [] then none else some (nm, gb, ar acc)
theorem oA_rows (nm gb acc) : rows12 (oA nm gb acc) = ar acc := by
  unfold oA
  by_cases h : acc = []
  · rw [if_pos h, h]; rfl
  · rw [if_neg h]; rfl
theorem loop12 (n : Nat) (t : Bool) (D : List Ad) (hb : D.length ≤ 2900) (x : Ad) (g3 : Nat) : ∀ (d i k c gb : Nat) (nm b : Bool) (acc : List Ad), i + d = D.length → d < k → g3 < c → acc.length ≤ 2 * i →
    ∃ E' c' gb' nm', iter (ev (Q (n + 1)) 3000 b12_0) [0, 3, 5, 6, 7] [3, 30, 37, 43, 100000] k ⟨[(0, .ro t 2 (ar D)), (3, .ptr 3 g3 0), (5, out12 (oA nm gb acc)), (6, .bool b), (7, .int .i64 i)], H12 g3 (av x) (oA nm gb acc), c⟩ =
      some (.exit 0, ⟨E', H12 g3 (av x) (oA nm' gb' (acc ++ (goA x b (D.drop i)).1)), c'⟩) ∧ envOnly [3, 5, 6] E' = [(3, .ptr 3 g3 0), (5, out12 (oA nm' gb' (acc ++ (goA x b (D.drop i)).1))), (6, .bool (goA x b (D.drop i)).2)]
  | d, i, 0, c, gb, nm, b, acc, hi, hk, hg, ha => by omega
  | 0, i, k + 1, c, gb, nm, b, acc, hi, hk, hg, ha => by
    have n1 : ¬ ((i : Int) < (D.length : Int)) := by omega
    have n2 : ¬ (i < D.length) := by omega
    have la := ar_len D
    rw [List.drop_of_length_le (by omega), goA, List.append_nil]
    generalize ho : oA nm gb acc = o
    refine ⟨[(0, .ro t 2 (ar D)), (3, .ptr 3 g3 0), (5, out12 o), (6, .bool b), (7, .int .i64 i), (11, .int .i64 i), (12, .ro t 2 (ar D)), (13, .int .i64 D.length), (14, .bool false)], c, gb, nm, ?_, by rw [ho]; simp⟩
    rw [ho]
    have hkk : (H12 g3 (av x) o).only [3, 30, 37, 43, 100000] = H12 g3 (av x) o := by
      rcases o with _ | ⟨_ | _, gb, W⟩ <;> simp [H12]
    rw [iter_succ]
    simp -implicitDefEqProofs [b12_0, n1, n2, la, hkk]
  | d + 1, i, k + 1, c, gb, nm, b, acc, hi, hk, hg, ha => by
    have hil : i < D.length := by omega
    have da : D.drop i = gA D i :: D.drop (i + 1) := by rw [gA_of hil]; exact List.drop_eq_getElem_cons hil
    have st := step12 (Q (n + 1)) _ (q36 n) t (ar D) D.length i c k g3 hg (ar_len D) hil (by omega) (gA D i).1 (gA D i).2 x.1 x.2 (ar_get hil) (oA nm gb acc) (by rw [oA_rows, ar_len]; omega) b (lt2 x (gA D i)) (before36 n x (gA D i))
    have hacc : ∀ (z : Bool) (m : Nat), some (nm12 (oA nm gb acc) z, m, rows12 (oA nm gb acc) ++ ((if !b && lt2 x (gA D i) then [[AV.int .i64 x.1, .int .i64 x.2]] else []) ++ [[.int .i64 (gA D i).1, .int .i64 (gA D i).2]])) = oA (nm12 (oA nm gb acc) z) m (acc ++ ((if !b && lt2 x (gA D i) then [x] else []) ++ [gA D i])) := by
      intro z m
      have hne : acc ++ ((if !b && lt2 x (gA D i) then [x] else []) ++ [gA D i]) ≠ [] := by simp
      rw [oA_rows]
      conv => rhs; unfold oA
      rw [if_neg hne, ar_app, ar_app]
      cases (!b && lt2 x (gA D i)) <;> rfl
    rw [hacc] at st
    have hax : H12 g3 (av x) (oA nm gb acc) = H12 g3 [.int .i64 x.1, .int .i64 x.2] (oA nm gb acc) := rfl
    rw [hax, st, da, goA]
    obtain ⟨E', c', gb', nm', e1, e2⟩ := loop12 n t D hb x g3 d (i + 1) k (if !b && lt2 x (gA D i) then c + 4 else c + 2) (if !b && lt2 x (gA D i) then c + 3 else c + 1) (nm12 (oA nm gb acc) (!b && lt2 x (gA D i))) (b || lt2 x (gA D i)) (acc ++ ((if !b && lt2 x (gA D i) then [x] else []) ++ [gA D i])) (by omega) (by omega) (by split <;> omega) (by simp only [List.length_append, List.length_singleton]; split <;> simp <;> omega)
    rw [List.append_assoc] at e1 e2
    exact ⟨E', c', gb', nm', e1, e2⟩
end Go.Abs.Try

namespace Go.Abs.Try
open Go Go.Abs
set_option maxHeartbeats 16000000
set_option maxRecDepth 100000
set_option linter.unusedSimpArgs false
set_option linter.unusedVariables false
def insB (x : Ad) : List Ad → List Ad
  | [] => [x]
  | y :: r => if lt2 x y then x :: y :: r else y :: insB x r
theorem goA_ins (x : Ad) : ∀ D : List Ad, (goA x false D).1 ++ (if (goA x false D).2 then [] else [x]) = insB x D
  | [] => by simp [goA, insB]
  | y :: r => by
    rw [goA, insB]
    cases h : lt2 x y
    · have := goA_ins x r
      simp [h, this]
    · simp [h, goA_true]
theorem pos_ins (x : Ad) (L : List Ad) : ∀ (d i : Nat), i + d = L.length → insB x (L.drop i) = (L.drop i).take ((posFrom x L i d).getD L.length - i) ++ x :: L.drop ((posFrom x L i d).getD L.length) ∧ i ≤ (posFrom x L i d).getD L.length
  | 0, i, h => by
    rw [posFrom, List.drop_of_length_le (by omega)]
    simp [insB]; omega
  | d + 1, i, h => by
    have hil : i < L.length := by omega
    have da : L.drop i = gA L i :: L.drop (i + 1) := by rw [gA_of hil]; exact List.drop_eq_getElem_cons hil
    obtain ⟨h1, h2⟩ := pos_ins x L d (i + 1) (by omega)
    rw [posFrom]
    cases hh : lt2 x (gA L i)
    · simp only [Bool.false_eq_true, ↓reduceIte]
      refine ⟨?_, by omega⟩
      rw [da, insB, hh, h1]
      have e : (posFrom x L (i + 1) d).getD L.length - i = ((posFrom x L (i + 1) d).getD L.length - (i + 1)) + 1 := by omega
      rw [e, List.take_succ_cons]
      rfl
    · simp only [↓reduceIte, Option.getD_some]
      refine ⟨?_, Nat.le_refl _⟩
      rw [Nat.sub_self, List.take_zero, da, insB, hh]
      rfl
theorem insB_addA {x : Ad} {L : List Ad} (h : x ∉ L) : insB x L = addA x L := by
  have := (pos_ins x L L.length 0 (by omega)).1
  rw [List.drop_zero, Nat.sub_zero] at this
  rw [this]
  unfold addA posA
  rw [if_neg h]
theorem goA_all (x : Ad) (L : List Ad) : (goA x (decide (x ∈ L)) L).1 ++ (if (goA x (decide (x ∈ L)) L).2 then [] else [x]) = addA x L := by
  by_cases h : x ∈ L
  · rw [decide_eq_true h, goA_true]
    simp [addA, h]
  · rw [decide_eq_false h, goA_ins, insB_addA h]
theorem goA_len (x : Ad) : ∀ (D : List Ad) (b : Bool), (goA x b D).1.length ≤ D.length + 1
  | [], b => by simp [goA]
  | y :: r, b => by
    rw [goA]
    cases b
    · cases h : lt2 x y
      · have := goA_len x r false
        simp [h]; omega
      · simp [goA_true]
    · simp [goA_true]
theorem add12_of (Φ : Nat → Option FnF) (F35 : CallF) {G35 J35 Y35} (h35 : Φ 35 = some ⟨F35, G35, J35, Y35⟩) (v : AV) (R : List (List AV)) (hv : LS 2 R v) (x : Ad) (b0 : Bool) (c35 : F35 [v, .agg (av x)] = some (.bool b0, []))
    (E' : Env) (c' : Nat) (o : Option (Bool × Nat × List (List AV))) (hoL : (rows12 o).length ≤ 10000) (b' : Bool) (hne : b' = true → o ≠ none)
    (lp : iter (ev Φ 3000 b12_0) [0, 3, 5, 6, 7] [3, 30, 37, 43, 100000] 3000 ⟨[(0, v), (3, .ptr 3 0 0), (5, .nilS), (6, .bool b0), (7, .int .i64 0)], [⟨3, 0, .var (av x)⟩], 1⟩ = some (.exit 0, ⟨E', H12 0 (av x) o, c'⟩)) (e2 : envOnly [3, 5, 6] E' = [(3, .ptr 3 0 0), (5, out12 o), (6, .bool b')]) :
    evFun Φ 3000 a12 [v, .agg (av x)] = some (.fr 2 (rows12 o ++ if b' then [] else [av x]), []) := by
  have m1 : (16 : Nat) ≤ maxBytes := by simp [maxBytes]
  simp only [av] at lp c35 ⊢
  rcases o with _ | ⟨nm, gb, W⟩
  · cases b'
    · simp only [H12] at lp
      simp -implicitDefEqProofs [a12, c12, h35, c35, hv.cell, hv.val, hv.cb, hv.ld, hv.ldc, hv.mv, hv.low, hv.low1]
      rw [iter_keep]; simp -implicitDefEqProofs
      rw [lp]
      simp -implicitDefEqProofs [e2, H12, out12, rows12, aappend, m1, z24]
    · exact absurd rfl (hne rfl)
  · simp only [rows12] at hoL
    have tW : W.take W.length = W := List.take_length
    have m4 := (bytes16 hoL).1
    have n5 : ¬ (W.length + 1 ≤ W.length) := Nat.not_succ_le_self _
    have tW2 : (W ++ [[AV.int .i64 x.1, .int .i64 x.2]]).take (W.length + 1) = W ++ [[.int .i64 x.1, .int .i64 x.2]] := List.take_of_length_le (by rw [List.length_append]; exact Nat.le_refl _)
    cases nm <;> cases b' <;> simp only [H12] at lp <;>
    simp -implicitDefEqProofs [a12, c12, h35, c35, hv.cell, hv.val, hv.cb, hv.ld, hv.ldc, hv.mv, hv.low, hv.low1] <;>
    rw [iter_keep] <;> simp -implicitDefEqProofs <;> rw [lp] <;>
    simp -implicitDefEqProofs [e2, H12, out12, rows12, aappend, m1, m4, n5, tW, tW2, z24]
theorem add12 (n : Nat) (v : AV) (L : List Ad) (hv : LS 2 (ar L) v) (hb : L.length ≤ 2900) (a : Ad) : E (n + 2) 12 [v, .agg (av a)] = some (.fr 2 (ar (addA a L)), []) := by
  rw [e12]
  have c35 := in35 n v L hv hb a
  by_cases h0 : L = []
  · subst h0
    rw [decide_eq_false (by simp)] at c35
    refine add12_of (Q (n + 1)) _ (q35 n) v _ hv a false c35 [(0, v), (3, .ptr 3 0 0), (5, .nilS), (6, .bool false), (7, .int .i64 0), (11, .int .i64 0), (12, v), (13, .int .i64 0), (14, .bool false)] 1 none (by simp [rows12]) false (by simp) ?_ (by simp [out12])
    have hl := hv.len
    rw [show (3000 : Nat) = 2999 + 1 from rfl, iter_succ]
    simp -implicitDefEqProofs [b12_0, H12, hl, ar, hv.cell, hv.val]
  · obtain ⟨t, rfl⟩ := hv.ro (fun h => h0 (List.length_eq_zero_iff.1 (by rw [← ar_len L, h]; rfl)))
    obtain ⟨E', c', gb', nm', e1, e2⟩ := loop12 n t L hb a 0 L.length 0 3000 1 0 true (decide (a ∈ L)) [] (by omega) (by omega) (by omega) (by simp)
    rw [List.nil_append, List.drop_zero] at e1 e2
    have hlen := goA_len a L (decide (a ∈ L))
    have hne : (goA a (decide (a ∈ L)) L).1 ≠ [] := by
      obtain ⟨y, r, rfl⟩ := List.exists_cons_of_ne_nil h0
      rw [goA]; simp
    have key := add12_of (Q (n + 1)) _ (q35 n) _ _ hv a (decide (a ∈ L)) c35 E' c' (oA nm' gb' (goA a (decide (a ∈ L)) L).1) (by rw [oA_rows, ar_len]; omega) (goA a (decide (a ∈ L)) L).2 (fun _ => by unfold oA; rw [if_neg hne]; simp) e1 e2
    rw [key, oA_rows]
    congr 3
    rw [← goA_all a L, ar_app]
    cases (goA a (decide (a ∈ L)) L).2 <;> rfl
end Go.Abs.Try

namespace Go.Abs.Try
open Go Go.Abs
set_option maxHeartbeats 16000000
set_option maxRecDepth 100000
set_option linter.unusedSimpArgs false
set_option linter.unusedVariables false
theorem regions37 (n : Nat) (rs : Int) : E (n + 1) 37 [.int .i64 rs] = some (.bool (decide (3 ≤ rs) && decide (rs ≤ 5)), []) := by
  rw [e37]
  by_cases h1 : 3 ≤ rs
  · by_cases h2 : rs ≤ 5 <;> simp -implicitDefEqProofs [a37, c37, h1, h2]
  · simp -implicitDefEqProofs [a37, c37, h1]
theorem step15b (Φ : Nat → Option FnF) (F35 : CallF) {G35 J35 Y35} (h35 : Φ 35 = some ⟨F35, G35, J35, Y35⟩) (v : AV) (R : List (List AV)) (hv : LS 2 R v) (c k : Nat) (rs rg hv' s m n : Int) (hn : 1 ≤ n) (hn3 : n ≤ 3) (hm0 : 0 ≤ m) (hm : m ≤ 10) (b : Bool) (c35 : F35 [v, .agg [.int .i64 s, .int .i64 n]] = some (.bool b, [])) :
    iter (ev Φ 3000 b15_0) [0, 1, 2, 7, 8, 9, 10] [100400] (k + 1) ⟨[(0, .int .i64 rs), (1, .int .i64 rg), (2, v), (7, .int .i64 hv'), (8, .int .i64 s), (9, .int .i64 m), (10, .int .i64 n)], [], c⟩ =
      iter (ev Φ 3000 b15_0) [0, 1, 2, 7, 8, 9, 10] [100400] k ⟨[(0, .int .i64 rs), (1, .int .i64 rg), (2, v), (7, .int .i64 hv'), (8, .int .i64 s), (9, .int .i64 (if b then m + 1 else m)), (10, .int .i64 (n + 1))], [], c⟩ := by
  have w1 : IntKind.i64.wrap (n + 1) = n + 1 := wrap_i64 _ (by omega) (by omega)
  have w2 : IntKind.i64.wrap (m + 1) = m + 1 := wrap_i64 _ (by omega) (by omega)
  apply iter_norm
  cases b <;> simp -implicitDefEqProofs [b15_0, St.keep, h35, c35, hn3, w1, w2, z24, hv.cell, hv.val, hv.cb, hv.ld, hv.ldc, hv.mv, hv.low, hv.low1]
theorem loop15b (Φ : Nat → Option FnF) (F35 : CallF) {G35 J35 Y35} (h35 : Φ 35 = some ⟨F35, G35, J35, Y35⟩) (v : AV) (L : List Ad) (hv : LS 2 (ar L) v) (c35 : ∀ a : Ad, F35 [v, .agg (av a)] = some (.bool (decide (a ∈ L)), [])) (c k : Nat) (rs rg hv' s : Int) : ∃ E', iter (ev Φ 3000 b15_0) [0, 1, 2, 7, 8, 9, 10] [100400] (k + 4) ⟨[(0, .int .i64 rs), (1, .int .i64 rg), (2, v), (7, .int .i64 hv'), (8, .int .i64 s), (9, .int .i64 0), (10, .int .i64 1)], [], c⟩ =
    some (.exit 2, ⟨E', [], c⟩) ∧ envOnly [0, 1, 2, 7, 8, 9] E' = [(0, .int .i64 rs), (1, .int .i64 rg), (2, v), (7, .int .i64 hv'), (8, .int .i64 s), (9, .int .i64 (cnt L s))] := by
  have s1 := step15b Φ F35 h35 v (ar L) hv c (k + 3) rs rg hv' s 0 1 (by omega) (by omega) (by omega) (by omega) _ (c35 (s, 1))
  rw [s1]
  have s2 := step15b Φ F35 h35 v (ar L) hv c (k + 2) rs rg hv' s (if decide ((s, 1) ∈ L) = true then 0 + 1 else 0) 2 (by omega) (by omega) (by split <;> omega) (by split <;> omega) _ (c35 (s, 2))
  rw [show (1 : Int) + 1 = 2 from rfl, s2]
  have s3 := step15b Φ F35 h35 v (ar L) hv c (k + 1) rs rg hv' s (if decide ((s, 2) ∈ L) = true then (if decide ((s, 1) ∈ L) = true then 0 + 1 else 0) + 1 else (if decide ((s, 1) ∈ L) = true then 0 + 1 else 0)) 3 (by omega) (by omega) (by split <;> split <;> omega) (by split <;> split <;> omega) _ (c35 (s, 3))
  rw [show (2 : Int) + 1 = 3 from rfl, s3]
  have hn : (if decide ((s, 3) ∈ L) = true then (if decide ((s, 2) ∈ L) = true then (if decide ((s, 1) ∈ L) = true then (0 : Int) + 1 else 0) + 1 else (if decide ((s, 1) ∈ L) = true then 0 + 1 else 0)) + 1 else (if decide ((s, 2) ∈ L) = true then (if decide ((s, 1) ∈ L) = true then 0 + 1 else 0) + 1 else (if decide ((s, 1) ∈ L) = true then 0 + 1 else 0))) = cnt L s := by
    unfold cnt
    simp only [decide_eq_true_eq]
    split <;> split <;> split <;> omega
  rw [hn, show (3 : Int) + 1 = 4 from rfl]
  generalize cnt L s = n
  refine ⟨[(0, .int .i64 rs), (1, .int .i64 rg), (2, v), (7, .int .i64 hv'), (8, .int .i64 s), (9, .int .i64 n), (10, .int .i64 4), (28, .int .i64 4), (29, .bool false)], ?_, by simp⟩
  rw [iter_succ]
  simp -implicitDefEqProofs [b15_0, hv.cell, hv.val]
theorem step15a (Φ : Nat → Option FnF) (F35 : CallF) {G35 J35 Y35} (h35 : Φ 35 = some ⟨F35, G35, J35, Y35⟩) (v : AV) (L : List Ad) (hv : LS 2 (ar L) v) (c35 : ∀ a : Ad, F35 [v, .agg (av a)] = some (.bool (decide (a ∈ L)), [])) (c k : Nat) (rs rg hv' s : Int) (h1 : 1 ≤ s) (h2 : s ≤ rs) (h3 : rs ≤ 5) (hv0 : 0 ≤ hv') (hv5 : hv' ≤ 5) :
    iter (ev Φ 3000 b15_1) [0, 1, 2, 7, 8] [100400] (k + 1) ⟨[(0, .int .i64 rs), (1, .int .i64 rg), (2, v), (7, .int .i64 hv'), (8, .int .i64 s)], [], c⟩ =
      iter (ev Φ 3000 b15_1) [0, 1, 2, 7, 8] [100400] k ⟨[(0, .int .i64 rs), (1, .int .i64 rg), (2, v), (7, .int .i64 (hv' + hv1 L rg s)), (8, .int .i64 (s + 1))], [], c⟩ := by
  obtain ⟨E', e1, e2⟩ := loop15b Φ F35 h35 v L hv c35 c 2996 rs rg hv' s
  rw [show (2996 : Nat) + 4 = 3000 from rfl] at e1
  have w1 : IntKind.i64.wrap (s + 1) = s + 1 := wrap_i64 _ (by omega) (by omega)
  have w2 : IntKind.i64.wrap (hv' + 1) = hv' + 1 := wrap_i64 _ (by omega) (by omega)
  unfold hv1
  generalize cnt L s = n at *
  apply iter_norm
  by_cases a1 : s = rg
  · subst a1
    rw [if_neg (by simp)]
    have a2 : (s != s) = false := by simp
    simp -implicitDefEqProofs [b15_1, St.keep, h2, hv.cell, hv.val, hv.low, hv.low1]
    rw [iter_keep]; simp -implicitDefEqProofs
    rw [e1]
    simp -implicitDefEqProofs [e2, w1, a2, hv.cell, hv.val, hv.low, hv.low1]
    exact ⟨_, _, ⟨rfl, rfl⟩, rfl, by simp, by simp, rfl⟩
  · have a2 : (s != rg) = true := by simpa using a1
    by_cases a3 : n > 1
    · have a3' : 2 ≤ n := by omega
      rw [if_pos ⟨a1, a3⟩]
      simp -implicitDefEqProofs [b15_1, St.keep, h2, hv.cell, hv.val, hv.low, hv.low1]
      rw [iter_keep]; simp -implicitDefEqProofs
      rw [e1]
      simp -implicitDefEqProofs [e2, w1, w2, a2, a3', hv.cell, hv.val, hv.low, hv.low1]
      exact ⟨_, _, ⟨rfl, rfl⟩, rfl, by simp, by simp, rfl⟩
    · have a3' : ¬ 2 ≤ n := by omega
      rw [if_neg (fun h => a3 h.2)]
      simp -implicitDefEqProofs [b15_1, St.keep, h2, hv.cell, hv.val, hv.low, hv.low1]
      rw [iter_keep]; simp -implicitDefEqProofs
      rw [e1]
      simp -implicitDefEqProofs [e2, w1, w2, a2, a3', hv.cell, hv.val, hv.low, hv.low1]
      exact ⟨_, _, ⟨rfl, rfl⟩, rfl, by simp, by simp, rfl⟩
theorem loop15a (Φ : Nat → Option FnF) (F35 : CallF) {G35 J35 Y35} (h35 : Φ 35 = some ⟨F35, G35, J35, Y35⟩) (v : AV) (L : List Ad) (hv : LS 2 (ar L) v) (c35 : ∀ a : Ad, F35 [v, .agg (av a)] = some (.bool (decide (a ∈ L)), [])) (c : Nat) (rs rg : Int) (h3 : rs ≤ 5) : ∀ (d k : Nat) (s hv' : Int), 1 ≤ s → s + d = rs + 1 → d < k → 0 ≤ hv' → hv' + d ≤ 5 →
    ∃ E', iter (ev Φ 3000 b15_1) [0, 1, 2, 7, 8] [100400] k ⟨[(0, .int .i64 rs), (1, .int .i64 rg), (2, v), (7, .int .i64 hv'), (8, .int .i64 s)], [], c⟩ = some (.exit 0, ⟨E', [], c⟩) ∧ envOnly [0, 7] E' = [(0, .int .i64 rs), (7, .int .i64 (hv' + hvFrom L rg s d))]
  | d, 0, s, hv', h1, h2, hk, hv0, hv5 => by omega
  | 0, k + 1, s, hv', h1, h2, hk, hv0, hv5 => by
    have n1 : ¬ s ≤ rs := by omega
    refine ⟨[(0, .int .i64 rs), (1, .int .i64 rg), (2, v), (7, .int .i64 hv'), (8, .int .i64 s), (23, .int .i64 s), (24, .int .i64 rs), (25, .bool false)], ?_, by simp [hvFrom]⟩
    rw [iter_succ]
    simp -implicitDefEqProofs [b15_1, n1, hv.cell, hv.val]
  | d + 1, k + 1, s, hv', h1, h2, hk, hv0, hv5 => by
    have hl := hv1_le L rg s
    have st := step15a Φ F35 h35 v L hv c35 c k rs rg hv' s h1 (by omega) h3 hv0 (by omega)
    obtain ⟨E', e1, e2⟩ := loop15a Φ F35 h35 v L hv c35 c rs rg h3 d k (s + 1) (hv' + hv1 L rg s) (by omega) (by omega) (by omega) (by omega) (by omega)
    exact ⟨E', by rw [st]; exact e1, by rw [e2, hvFrom, Int.add_assoc]⟩
theorem enough15 (n : Nat) (L : List Ad) (v : AV) (hv : LS 2 (ar L) v) (hb : L.length ≤ 2900) (rs rg : Int) : E (n + 2) 15 [.int .i64 rs, .int .i64 rg, v] = some (.bool (enV rs rg L), []) := by
  rw [e15]
  have c37 := regions37 n rs
  unfold enV
  cases hok : okR rs rg with
  | false =>
    rw [Bool.false_and]
    unfold okR at hok
    by_cases h1 : (decide (3 ≤ rs) && decide (rs ≤ 5)) = true
    · rw [h1] at c37
      by_cases h3 : rg < 1
      · simp -implicitDefEqProofs [a15, c15, q37, c37, h3, hv.cell, hv.val]
      · by_cases h4 : rs < rg
        · simp -implicitDefEqProofs [a15, c15, q37, c37, h3, h4, hv.cell, hv.val]
        · rw [h1, decide_eq_true (by omega), decide_eq_true (by omega)] at hok
          cases hok
    · rw [Bool.not_eq_true] at h1
      rw [h1] at c37
      simp -implicitDefEqProofs [a15, c15, q37, c37, hv.cell, hv.val]
  | true =>
    obtain ⟨h1, h2, h3, h4⟩ := okR_true hok
    rw [decide_eq_true h1, decide_eq_true h2] at c37
    have g3 : ¬ rg < 1 := by omega
    have g4 : ¬ rs < rg := by omega
    obtain ⟨E', l1, e1⟩ := loop15a (Q (n + 1)) _ (q35 n) v L hv (fun a => in35 n v L hv hb a) 0 rs rg h2 rs.toNat 3000 1 0 (by omega) (by omega) (by omega) (by omega) (by omega)
    rw [Int.zero_add] at e1
    have hb5 : ∀ (d : Nat) (s : Int), 0 ≤ hvFrom L rg s d ∧ hvFrom L rg s d ≤ d := by
      intro d
      induction d with
      | zero => intro s; simp [hvFrom]
      | succ d ih => intro s; have := ih (s + 1); have := hv1_le L rg s; simp only [hvFrom]; omega
    have hb6 := hb5 rs.toNat 1
    have hd : decide (hvFrom L rg 1 rs.toNat > (rs - 1) / 2) = decide (2 * hvFrom L rg 1 rs.toNat > rs - 1) := decide_eq_decide.2 (by omega)
    rw [hd, Bool.true_and]
    generalize hvFrom L rg 1 rs.toNat = h at *
    have w1 : IntKind.i64.wrap (rs - 1) = rs - 1 := wrap_i64 _ (by omega) (by omega)
    have w2 : IntKind.i64.wrap (2 * h) = 2 * h := wrap_i64 _ (by omega) (by omega)
    simp -implicitDefEqProofs [a15, c15, q37, c37, g3, g4, hv.cell, hv.val, hv.low, hv.low1]
    rw [iter_keep]; simp -implicitDefEqProofs
    rw [l1]; simp -implicitDefEqProofs [e1, w1, w2]
end Go.Abs.Try

namespace Go.Abs.Try
open Go Go.Abs
set_option maxHeartbeats 16000000
set_option maxRecDepth 100000
set_option linter.unusedSimpArgs false
set_option linter.unusedVariables false
def Y3 (gb : Nat) (OB : AH) (W : List (List AV)) : AH := OB ++ [⟨22000, gb, .arr 2 W false⟩]
def Ob3 (own : AV) (OB : AH) : Prop := (own = .nilS ∧ OB = []) ∨ ∃ go R, own = .own 18 go 0 R.length ∧ OB = [⟨18, go, .arr 2 R false⟩]
theorem loop3 (Φ : Nat → Option FnF) (v : AV) (S : List (List AV)) (hv : LS 2 S v) (own sm : AV) (hs : ∃ b, sm = .bool b) (rs rg : Int) (OB : AH) (hO : Ob3 own OB) (gb c : Nat) (len : Nat) (hb : len ≤ 100000) : ∀ (d i k : Nat) (W : List (List AV)), i + d = len → d < k → W.length = len → (∀ r ∈ W, r.length = 2) →
    ∃ E' W', iter (ev Φ 3000 b3_0) [0, 1, 2, 9, 10, 11, 12] [18, 22000, 100400] k ⟨[(0, .int .i64 rs), (1, .int .i64 rg), (2, v), (9, own), (10, .own 22000 gb 0 W.length), (11, sm), (12, .int .i64 i)], Y3 gb OB W, c⟩ = some (.exit 0, ⟨E', Y3 gb OB W', c⟩) ∧
      envOnly [0, 1, 2, 9, 11] E' = [(0, .int .i64 rs), (1, .int .i64 rg), (2, v), (9, own), (11, sm)]
  | d, i, 0, W, hi, hk, hW, hr => by omega
  | 0, i, k + 1, W, hi, hk, hW, hr => by
    obtain rfl : i = len := by omega
    rw [← hW]
    have n1 : ¬ ((W.length : Int) < W.length) := by omega
    refine ⟨[(0, .int .i64 rs), (1, .int .i64 rg), (2, v), (9, own), (10, .own 22000 gb 0 W.length), (11, sm), (12, .int .i64 W.length), (27, .int .i64 W.length), (28, .own 22000 gb 0 W.length), (29, .int .i64 W.length), (30, .bool false)], W, ?_, by simp⟩
    rw [iter_succ]
    unfold Y3
    rcases hO with ⟨rfl, rfl⟩ | ⟨go, R, rfl, rfl⟩ <;> simp -implicitDefEqProofs [b3_0]
  | d + 1, i, k + 1, W, hi, hk, hW, hr => by
    have hil : i < W.length := by omega
    have g1' : W[i]? = some W[i] := List.getElem?_eq_getElem hil
    have l1 := hr W[i] (List.getElem_mem _)
    obtain ⟨vs, hvs⟩ : ∃ vs : List AV, splice W[i] 1 [AV.int .i64 77] = vs := ⟨_, rfl⟩
    have lv : vs.length = 2 := by rw [← hvs, splice_len (by rw [l1]; decide), l1]
    obtain ⟨E', W', e1, e2⟩ := loop3 Φ v S hv own sm hs rs rg OB hO gb c len hb d (i + 1) k (W.set i vs) (by omega) (by omega) (by rw [List.length_set]; exact hW) (fun r hr' => by
      rcases List.mem_or_eq_of_mem_set hr' with h | h
      · exact hr r h
      · rw [h]; exact lv)
    refine ⟨E', W', ?_, e2⟩
    rw [← e1]
    apply iter_norm
    have i1 : (i : Int) < W.length := by omega
    have w1 : IntKind.i64.wrap ((i : Int) + 1) = ((i + 1 : Nat) : Int) := by rw [wrap_i64 _ (by omega) (by omega)]; omega
    have ls : (W.set i vs).length = W.length := List.length_set
    generalize ((i + 1 : Nat) : Int) = j at *
    generalize W[i] = r at *
    have g1'' := (List.getElem?_eq_some_iff.1 g1').2
    have hvs' : List.take 1 r ++ AV.int IntKind.i64 77 :: List.drop 2 r = vs := by rw [← hvs]; rfl
    unfold Y3
    rw [ls]
    generalize hset : W.set i vs = W2 at *
    obtain ⟨b, rfl⟩ := hs
    rcases hO with ⟨rfl, rfl⟩ | ⟨go, R, rfl, rfl⟩ <;>
    simp -implicitDefEqProofs [b3_0, St.keep, i1, hil, g1', g1'', l1, hvs, hvs', lv, w1, hset, hv.cell, hv.val, hv.low, hv.low1]
theorem LS.src {sz : Nat} {R : List (List AV)} {v : AV} (h : LS sz R v) (H : AH) : srcRows H sz v = some R := by
  rcases h with ⟨rfl, rfl⟩ | ⟨rfl, rfl⟩ | ⟨t, rfl⟩ <;> simp [srcRows, rowsOf]
theorem app_ne (H : AH) (c nm : Nat) (R : List (List AV)) (h : R ≠ []) (hb : R.length ≤ 10000) : aappend H c nm 2 16 .nilS R = some (.own nm c 0 R.length, H.put nm c (.arr 2 R false), c + 1) := by
  obtain ⟨r, rs, rfl⟩ := List.exists_cons_of_ne_nil h
  have : (rs.length + 1) * 16 ≤ maxBytes := by
    simp only [List.length_cons] at hb
    unfold maxBytes; omega
  simp [aappend, this]
theorem law3_long (Φ : Nat → Option FnF) (v : AV) (R : List (List AV)) (hv : LS 2 R v) (hn : 200 < R.length) (rs rg : Int) (a : Ad) : evFun Φ 3000 a3 [.int .i64 rs, .int .i64 rg, v, .agg (av a)] = some (.bool true, []) := by
  have hl := hv.len
  have n1 : (200 : Int) < R.length := by omega
  simp -implicitDefEqProofs [a3, c3, hl, n1, hn, av, hv.cell, hv.val]
theorem law3_nil (Φ : Nat → Option FnF) (F10 F11 F12 F13 F14 F15 : CallF) {G10 J10 Y10 G11 J11 Y11 G12 J12 Y12 G13 J13 Y13 G14 J14 Y14 G15 J15 Y15} (h10 : Φ 10 = some ⟨F10, G10, J10, Y10⟩) (h11 : Φ 11 = some ⟨F11, G11, J11, Y11⟩) (h12 : Φ 12 = some ⟨F12, G12, J12, Y12⟩) (h13 : Φ 13 = some ⟨F13, G13, J13, Y13⟩) (h14 : Φ 14 = some ⟨F14, G14, J14, Y14⟩) (h15 : Φ 15 = some ⟨F15, G15, J15, Y15⟩)
    (v : AV) (hv : LS 2 [] v) (M : List (List AV)) (hM : ∀ r ∈ M, r.length = 2) (hMl : M.length ≤ 2900) (rs rg : Int) (a : Ad) (b : Bool) (c10 : F10 [v, .agg (av a)] = some (.fr 2 M, [])) (c12 : F12 [.nilS, .agg (av a)] = some (.fr 2 M, [])) (c11 : F11 [.ro true 2 M, .ro true 2 M] = some (.bool true, [])) (c11' : F11 [v, .nilS] = some (.bool true, []))
    (c13 : F13 [] = some (.bool true, [])) (c14 : F14 [.int .i64 rs, .int .i64 rg, v] = some (.bool b, [])) (c15 : F15 [.int .i64 rs, .int .i64 rg, .nilS] = some (.bool b, [])) :
    evFun Φ 3000 a3 [.int .i64 rs, .int .i64 rg, v, .agg (av a)] = some (.bool true, []) := by
  have hl := hv.len
  have tM : M.take M.length = M := List.take_length
  obtain ⟨E', W', e1, e2⟩ := loop3 Φ v [] hv .nilS (.bool true) ⟨true, rfl⟩ rs rg [] (.inl ⟨rfl, rfl⟩) 1 3 M.length (by omega) M.length 0 3000 M (by omega) (by omega) rfl hM
  rw [show ((0 : Nat) : Int) = 0 from rfl] at e1
  simp only [av] at c10 c12 ⊢
  simp only [Y3, List.nil_append] at e1
  simp -implicitDefEqProofs [a3, c3, h10, h11, h12, h13, h14, h15, c10, c11, c11', c12, c13, c14, c15, hl, tM, aappend, hv.src, hv.cell, hv.val, hv.cb, hv.ld, hv.ldc, hv.mv, hv.low, hv.low1]
  rw [iter_keep]; simp -implicitDefEqProofs
  rw [e1]
  cases b <;> simp -implicitDefEqProofs [e2, h10, h11, h12, h13, h14, h15, c11', c13, c14, c15, hv.cell, hv.val, hv.cb, hv.ld, hv.ldc, hv.mv, hv.low, hv.low1]
theorem law3_of (Φ : Nat → Option FnF) (F10 F11 F12 F13 F14 F15 : CallF) {G10 J10 Y10 G11 J11 Y11 G12 J12 Y12 G13 J13 Y13 G14 J14 Y14 G15 J15 Y15} (h10 : Φ 10 = some ⟨F10, G10, J10, Y10⟩) (h11 : Φ 11 = some ⟨F11, G11, J11, Y11⟩) (h12 : Φ 12 = some ⟨F12, G12, J12, Y12⟩) (h13 : Φ 13 = some ⟨F13, G13, J13, Y13⟩) (h14 : Φ 14 = some ⟨F14, G14, J14, Y14⟩) (h15 : Φ 15 = some ⟨F15, G15, J15, Y15⟩)
    (v : AV) (R : List (List AV)) (hv : LS 2 R v) (hne : R ≠ []) (hn : R.length ≤ 200) (M : List (List AV)) (hM : ∀ r ∈ M, r.length = 2) (hMl : M.length ≤ 2900) (rs rg : Int) (a : Ad) (b : Bool) (c10 : F10 [v, .agg (av a)] = some (.fr 2 M, [])) (c12 : F12 [.ro true 2 R, .agg (av a)] = some (.fr 2 M, [])) (c11 : F11 [.ro true 2 M, .ro true 2 M] = some (.bool true, [])) (c11' : F11 [v, .ro true 2 R] = some (.bool true, []))
    (c13 : F13 [] = some (.bool true, [])) (c14 : F14 [.int .i64 rs, .int .i64 rg, v] = some (.bool b, [])) (c15 : F15 [.int .i64 rs, .int .i64 rg, .ro true 2 R] = some (.bool b, [])) :
    evFun Φ 3000 a3 [.int .i64 rs, .int .i64 rg, v, .agg (av a)] = some (.bool true, []) := by
  have hl := hv.len
  have n1 : ¬ (200 : Int) < R.length := by omega
  have n2 : ¬ 200 < R.length := by omega
  have tM : M.take M.length = M := List.take_length
  have tR : R.take R.length = R := List.take_length
  obtain ⟨E', W', e1, e2⟩ := loop3 Φ v R hv (.own 18 1 0 R.length) (.bool true) ⟨true, rfl⟩ rs rg _ (.inr ⟨1, R, rfl, rfl⟩) 2 4 M.length (by omega) M.length 0 3000 M (by omega) (by omega) rfl hM
  rw [show ((0 : Nat) : Int) = 0 from rfl] at e1
  have hap := fun H => app_ne H 1 18 R hne (by omega)
  simp only [av] at c10 c12 ⊢
  simp only [Y3, List.nil_append, List.cons_append] at e1
  simp -implicitDefEqProofs [a3, c3, h10, h11, h12, h13, h14, h15, c10, c11, c11', c12, c13, c14, c15, hl, n1, n2, tM, tR, hap, hv.src, hv.cell, hv.val, hv.cb, hv.ld, hv.ldc, hv.mv, hv.low, hv.low1]
  rw [iter_keep]; simp -implicitDefEqProofs
  rw [e1]
  cases b <;> simp -implicitDefEqProofs [e2, tR, h10, h11, h12, h13, h14, h15, c11', c13, c14, c15, hv.cell, hv.val, hv.cb, hv.ld, hv.ldc, hv.mv, hv.low, hv.low1]
theorem ar_two (L : List Ad) : ∀ r ∈ ar L, r.length = 2 := by
  intro r hr
  unfold ar at hr
  obtain ⟨a, _, rfl⟩ := List.mem_map.1 hr
  rfl
theorem law3 (x0 x1 x2 x3 : AV) (o0 : okRow [.int .i64] [x0]) (o1 : okRow [.int .i64] [x1]) (o2 : okRow [.sl shA] [x2]) (o3 : ∃ cs, x3 = .agg cs ∧ okRow shA cs) : E 10 3 [x0, x1, x2, x3] = some (.bool true, []) := by
  obtain ⟨rs, _, h0, _, _⟩ := o0.int
  obtain ⟨rfl, _⟩ : x0 = _ ∧ _ := by simpa using h0
  obtain ⟨rg, _, h1, _, _⟩ := o1.int
  obtain ⟨rfl, _⟩ : x1 = _ ∧ _ := by simpa using h1
  obtain ⟨L, hv⟩ := ok_alist o2
  obtain ⟨cs, rfl, oc⟩ := o3
  obtain ⟨a, rfl⟩ := ok_addr oc
  rw [e3]
  by_cases hn : 200 < L.length
  · exact law3_long (Q 9) x2 (ar L) hv (by rw [ar_len]; exact hn) rs rg a
  · have hlen := add_len a L
    have c10 := add10 3 x2 L hv (by omega) a
    have hM : LS 2 (ar (addA a L)) (.ro true 2 (ar (addA a L))) := .inr (.inr ⟨true, rfl⟩)
    have c11 := addrs11 8 _ _ _ _ hM hM (by omega)
    rw [decide_eq_true rfl] at c11
    have c14 := enough14 8 L x2 hv (by omega) rs rg
    by_cases hne : L = []
    · subst hne
      have hN : LS 2 (ar []) .nilS := .inl ⟨rfl, rfl⟩
      have c12 := add12 7 .nilS [] hN (by simp) a
      have c15 := enough15 7 [] .nilS hN (by simp) rs rg
      have c11' := addrs11 8 _ _ _ _ hv hN (by simp)
      rw [decide_eq_true rfl] at c11'
      exact law3_nil (Q 9) _ _ _ _ _ _ (q10 8) (q11 8) (q12 8) (q13 8) (q14 8) (q15 8) x2 hv (ar (addA a [])) (ar_two _) (by rw [ar_len]; simp at hlen; omega) rs rg a _ c10 c12 c11 c11' rows13 c14 c15
    · have hR : LS 2 (ar L) (.ro true 2 (ar L)) := .inr (.inr ⟨true, rfl⟩)
      have c12 := add12 7 _ L hR (by omega) a
      have c15 := enough15 7 L _ hR (by omega) rs rg
      have c11' := addrs11 8 _ _ _ _ hv hR (by omega)
      rw [decide_eq_true rfl] at c11'
      exact law3_of (Q 9) _ _ _ _ _ _ (q10 8) (q11 8) (q12 8) (q13 8) (q14 8) (q15 8) x2 (ar L) hv (fun h => hne (List.length_eq_zero_iff.1 (by rw [← ar_len L, h]; rfl))) (by rw [ar_len]; omega) (ar (addA a L)) (ar_two _) (by rw [ar_len]; omega) rs rg a _ c10 c12 c11 c11' rows13 c14 c15
theorem ref3 : Refines Go.Proofs.Try.prog 3 (E 10 3) := ref 10 3 (q3 9)
end Go.Abs.Try
