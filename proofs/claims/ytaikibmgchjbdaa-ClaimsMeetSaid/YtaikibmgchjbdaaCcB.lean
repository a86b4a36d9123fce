/- Part 2 of Cc: what our evaluation of a function's code says, the machine's run does; no condition of its own. -/
import Derived.Test.YtaikibmgchjbdaaCcA
set_option linter.unusedVariables false
set_option linter.unusedSimpArgs false
set_option linter.unusedSectionVars false
namespace Go.Abs.Try
open Go Go.Abs
set_option maxHeartbeats 16000000
set_option maxRecDepth 100000
set_option linter.unusedSimpArgs false
set_option linter.unusedVariables false
def L38 : Option (Nat × List (List AV)) → AV
  | none => .nilS
  | some (_, W) => .ro true 2 W
theorem law5_long (Φ : Nat → Option FnF) (v w : AV) (R S : List (List AV)) (hv : LS 2 R v) (hw : LS 2 S w) (hn : 200 < R.length ∨ 200 < S.length) (rs rg nd : Int) : evFun Φ 3000 a5 [.int .i64 rs, .int .i64 rg, v, w, .int .i64 nd] = some (.bool true, []) := by
  have hl := hv.len
  have hlw := hw.len
  by_cases h1 : 200 < R.length
  · have n1 : (200 : Int) < R.length := by omega
    simp -implicitDefEqProofs [a5, c5, hl, n1, h1, hv.cell, hv.val, hw.cell, hw.val]
  · have h2 := hn.resolve_left h1
    have n1 : ¬ (200 : Int) < R.length := by omega
    have n2 : (200 : Int) < S.length := by omega
    simp -implicitDefEqProofs [a5, c5, hl, hlw, n1, n2, h1, h2, hv.cell, hv.val, hw.cell, hw.val]
theorem law5_of (Φ : Nat → Option FnF) (F13 F14 : CallF) {G13 J13 Y13 G14 J14 Y14} (h13 : Φ 13 = some ⟨F13, G13, J13, Y13⟩) (h14 : Φ 14 = some ⟨F14, G14, J14, Y14⟩)
    (v w : AV) (R S : List (List AV)) (hv : LS 2 R v) (hw : LS 2 S w) (hn : R.length ≤ 200) (hm : S.length ≤ 200) (rs rg nd : Int) (o p : Option (Nat × List (List AV))) (E1 E2 : Env) (c1 c2 : Nat) (ho : ∀ g W, o = some (g, W) → g < c2) (b1 b2 : Bool) (hb : b1 = false ∨ (b1 = true ∧ b2 = true))
    (c13 : F13 [] = some (.bool true, [])) (c14a : F14 [.int .i64 rs, .int .i64 rg, v] = some (.bool b1, [])) (c14b : F14 [.int .i64 rs, .int .i64 rg, L52 v p] = some (.bool b2, [])) (c14c : F14 [.int .i64 rs, .int .i64 rg, L38 o] = some (.bool false, []))
    (l1 : iter (ev Φ 3000 b5_1) [0, 1, 2, 3, 4, 11, 12] [38, 100400, 100600] 3000 ⟨[(0, .int .i64 rs), (1, .int .i64 rg), (2, v), (3, w), (4, .int .i64 nd), (11, .nilS), (12, .int .i64 0)], [], 0⟩ = some (.exit 0, ⟨E1, H38 o, c1⟩))
    (e1 : envOnly [0, 1, 2, 3, 11] E1 = [(0, .int .i64 rs), (1, .int .i64 rg), (2, v), (3, w), (11, O38 o)])
    (l2 : iter (ev Φ 3000 b5_0) [0, 1, 2, 3, 11, 13, 14] [38, 52000, 100400, 100600] 3000 ⟨[(0, .int .i64 rs), (1, .int .i64 rg), (2, v), (3, w), (11, O38 o), (13, v), (14, .int .i64 0)], H38 o, c1⟩ = some (.exit 2, ⟨E2, H38 o ++ H52 p, c2⟩))
    (e2 : envOnly [0, 1, 2, 11, 13] E2 = [(0, .int .i64 rs), (1, .int .i64 rg), (2, v), (11, O38 o), (13, O52 v p)]) :
    evFun Φ 3000 a5 [.int .i64 rs, .int .i64 rg, v, w, .int .i64 nd] = some (.bool true, []) := by
  have hl := hv.len
  have hlw := hw.len
  have n1 : ¬ (200 : Int) < R.length := by omega
  have n2 : ¬ 200 < R.length := by omega
  have n3 : ¬ (200 : Int) < S.length := by omega
  have n4 : ¬ 200 < S.length := by omega
  rcases o with _ | ⟨g, W⟩ <;> rcases p with _ | ⟨g', W'⟩ <;> simp only [O38, H38, O52, H52, L38, L52, List.nil_append, List.cons_append, List.append_nil] at l1 l2 e1 e2 c14b c14c
  · rcases hb with rfl | ⟨rfl, rfl⟩
    · simp -implicitDefEqProofs [a5, c5, h13, h14, hl, hlw, n1, n2, n3, n4, hv.cell, hv.val, hv.low, hv.low1, hw.cell, hw.val]
      rw [iter_keep]; simp -implicitDefEqProofs
      rw [l1]; simp -implicitDefEqProofs [e1, hv.cell, hv.val, hv.low, hv.low1, hw.cell, hw.val]
      rw [iter_keep]; simp -implicitDefEqProofs
      rw [l2]; simp -implicitDefEqProofs [e2, h13, h14, c13, c14a, c14b, c14c, hv.cell, hv.val, hv.cb, hv.ld, hv.ldc, hv.mv, hv.low, hv.low1]
    · simp -implicitDefEqProofs [a5, c5, h13, h14, hl, hlw, n1, n2, n3, n4, hv.cell, hv.val, hv.low, hv.low1, hw.cell, hw.val]
      rw [iter_keep]; simp -implicitDefEqProofs
      rw [l1]; simp -implicitDefEqProofs [e1, hv.cell, hv.val, hv.low, hv.low1, hw.cell, hw.val]
      rw [iter_keep]; simp -implicitDefEqProofs
      rw [l2]; simp -implicitDefEqProofs [e2, h13, h14, c13, c14a, c14b, c14c, hv.cell, hv.val, hv.cb, hv.ld, hv.ldc, hv.mv, hv.low, hv.low1]
  · have tW' : W'.take W'.length = W' := List.take_length
    rcases hb with rfl | ⟨rfl, rfl⟩
    · simp -implicitDefEqProofs [a5, c5, h13, h14, hl, hlw, n1, n2, n3, n4, hv.cell, hv.val, hv.low, hv.low1, hw.cell, hw.val]
      rw [iter_keep]; simp -implicitDefEqProofs
      rw [l1]; simp -implicitDefEqProofs [e1, hv.cell, hv.val, hv.low, hv.low1, hw.cell, hw.val]
      rw [iter_keep]; simp -implicitDefEqProofs
      rw [l2]; simp -implicitDefEqProofs [e2, h13, h14, c13, c14a, c14b, c14c, tW', hv.cell, hv.val, hv.cb, hv.ld, hv.ldc, hv.mv, hv.low, hv.low1]
    · simp -implicitDefEqProofs [a5, c5, h13, h14, hl, hlw, n1, n2, n3, n4, hv.cell, hv.val, hv.low, hv.low1, hw.cell, hw.val]
      rw [iter_keep]; simp -implicitDefEqProofs
      rw [l1]; simp -implicitDefEqProofs [e1, hv.cell, hv.val, hv.low, hv.low1, hw.cell, hw.val]
      rw [iter_keep]; simp -implicitDefEqProofs
      rw [l2]; simp -implicitDefEqProofs [e2, h13, h14, c13, c14a, c14b, c14c, tW', hv.cell, hv.val, hv.cb, hv.ld, hv.ldc, hv.mv, hv.low, hv.low1]
  · have tW : W.take W.length = W := List.take_length
    have hg := ho g W rfl
    rcases hb with rfl | ⟨rfl, rfl⟩
    · simp -implicitDefEqProofs [a5, c5, h13, h14, hl, hlw, n1, n2, n3, n4, hv.cell, hv.val, hv.low, hv.low1, hw.cell, hw.val]
      rw [iter_keep]; simp -implicitDefEqProofs
      rw [l1]; simp -implicitDefEqProofs [e1, hv.cell, hv.val, hv.low, hv.low1, hw.cell, hw.val]
      rw [iter_keep]; simp -implicitDefEqProofs
      rw [l2]; simp -implicitDefEqProofs [e2, h13, h14, c13, c14a, c14b, c14c, tW, hg, hv.cell, hv.val, hv.cb, hv.ld, hv.ldc, hv.mv, hv.low, hv.low1]
    · simp -implicitDefEqProofs [a5, c5, h13, h14, hl, hlw, n1, n2, n3, n4, hv.cell, hv.val, hv.low, hv.low1, hw.cell, hw.val]
      rw [iter_keep]; simp -implicitDefEqProofs
      rw [l1]; simp -implicitDefEqProofs [e1, hv.cell, hv.val, hv.low, hv.low1, hw.cell, hw.val]
      rw [iter_keep]; simp -implicitDefEqProofs
      rw [l2]; simp -implicitDefEqProofs [e2, h13, h14, c13, c14a, c14b, c14c, tW, hg, hv.cell, hv.val, hv.cb, hv.ld, hv.ldc, hv.mv, hv.low, hv.low1]
  · have tW : W.take W.length = W := List.take_length
    have tW' : W'.take W'.length = W' := List.take_length
    have hg := ho g W rfl
    rcases hb with rfl | ⟨rfl, rfl⟩
    · simp -implicitDefEqProofs [a5, c5, h13, h14, hl, hlw, n1, n2, n3, n4, hv.cell, hv.val, hv.low, hv.low1, hw.cell, hw.val]
      rw [iter_keep]; simp -implicitDefEqProofs
      rw [l1]; simp -implicitDefEqProofs [e1, hv.cell, hv.val, hv.low, hv.low1, hw.cell, hw.val]
      rw [iter_keep]; simp -implicitDefEqProofs
      rw [l2]; simp -implicitDefEqProofs [e2, h13, h14, c13, c14a, c14b, c14c, tW, tW', hg, hv.cell, hv.val, hv.cb, hv.ld, hv.ldc, hv.mv, hv.low, hv.low1]
    · simp -implicitDefEqProofs [a5, c5, h13, h14, hl, hlw, n1, n2, n3, n4, hv.cell, hv.val, hv.low, hv.low1, hw.cell, hw.val]
      rw [iter_keep]; simp -implicitDefEqProofs
      rw [l1]; simp -implicitDefEqProofs [e1, hv.cell, hv.val, hv.low, hv.low1, hw.cell, hw.val]
      rw [iter_keep]; simp -implicitDefEqProofs
      rw [l2]; simp -implicitDefEqProofs [e2, h13, h14, c13, c14a, c14b, c14c, tW, tW', hg, hv.cell, hv.val, hv.cb, hv.ld, hv.ldc, hv.mv, hv.low, hv.low1]
theorem loop51_nil (Φ : Nat → Option FnF) (v w : AV) (S : List (List AV)) (hv : LS 2 [] v) (hw : LS 2 S w) (rs rg nd : Int) : iter (ev Φ 3000 b5_1) [0, 1, 2, 3, 4, 11, 12] [38, 100400, 100600] 3000 ⟨[(0, .int .i64 rs), (1, .int .i64 rg), (2, v), (3, w), (4, .int .i64 nd), (11, .nilS), (12, .int .i64 0)], [], 0⟩ =
    some (.exit 0, ⟨[(0, .int .i64 rs), (1, .int .i64 rg), (2, v), (3, w), (4, .int .i64 nd), (11, .nilS), (12, .int .i64 0), (23, .int .i64 0), (24, v), (25, .int .i64 0), (26, .bool false)], [], 0⟩) := by
  have hl := hv.len
  rw [show (3000 : Nat) = 2999 + 1 from rfl, iter_succ]
  simp -implicitDefEqProofs [b5_1, hl, hv.cell, hv.val, hw.cell, hw.val]
theorem loop50_nil (Φ : Nat → Option FnF) (v w : AV) (S : List (List AV)) (hv : LS 2 S v) (hw : LS 2 [] w) (o : Option (Nat × List (List AV))) (c : Nat) (rs rg : Int) : iter (ev Φ 3000 b5_0) [0, 1, 2, 3, 11, 13, 14] [38, 52000, 100400, 100600] 3000 ⟨[(0, .int .i64 rs), (1, .int .i64 rg), (2, v), (3, w), (11, O38 o), (13, v), (14, .int .i64 0)], H38 o, c⟩ =
    some (.exit 2, ⟨[(0, .int .i64 rs), (1, .int .i64 rg), (2, v), (3, w), (11, O38 o), (13, v), (14, .int .i64 0), (40, .int .i64 0), (41, w), (42, .int .i64 0), (43, .bool false)], H38 o, c⟩) := by
  have hl := hw.len
  rw [show (3000 : Nat) = 2999 + 1 from rfl, iter_succ]
  rcases o with _ | ⟨g, W⟩ <;> simp -implicitDefEqProofs [b5_0, O38, H38, hl, hv.cell, hv.val, hw.cell, hw.val]
theorem law5 (x0 x1 x2 x3 x4 : AV) (o0 : okRow [.int .i64] [x0]) (o1 : okRow [.int .i64] [x1]) (o2 : okRow [.sl shA] [x2]) (o3 : okRow [.sl shA] [x3]) (o4 : okRow [.int .i64] [x4]) : E 10 5 [x0, x1, x2, x3, x4] = some (.bool true, []) := by
  obtain ⟨rs, _, h0, _, _⟩ := o0.int
  obtain ⟨rfl, _⟩ : x0 = _ ∧ _ := by simpa using h0
  obtain ⟨rg, _, h1, _, _⟩ := o1.int
  obtain ⟨rfl, _⟩ : x1 = _ ∧ _ := by simpa using h1
  obtain ⟨nd, _, h4, _, _⟩ := o4.int
  obtain ⟨rfl, _⟩ : x4 = _ ∧ _ := by simpa using h4
  obtain ⟨L, hv⟩ := ok_alist o2
  obtain ⟨M, hw⟩ := ok_alist o3
  rw [e5]
  by_cases hn : 200 < L.length ∨ 200 < M.length
  · exact law5_long (Q 9) x2 x3 (ar L) (ar M) hv hw (by rw [ar_len, ar_len]; exact hn) rs rg nd
  · have hL : L.length ≤ 200 := by omega
    have hM : M.length ≤ 200 := by omega
    have w1 : ∃ E' c' o', iter (ev (Q 9) 3000 b5_1) [0, 1, 2, 3, 4, 11, 12] [38, 100400, 100600] 3000 ⟨[(0, .int .i64 rs), (1, .int .i64 rg), (2, x2), (3, x3), (4, .int .i64 nd), (11, .nilS), (12, .int .i64 0)], [], 0⟩ = some (.exit 0, ⟨E', H38 o', c'⟩) ∧
        envOnly [0, 1, 2, 3, 11] E' = [(0, .int .i64 rs), (1, .int .i64 rg), (2, x2), (3, x3), (11, O38 o')] ∧ R38 o' = ar (ones nd L) ∧ (∀ g W, o' = some (g, W) → g < c') := by
      by_cases l0 : L = []
      · subst l0
        exact ⟨_, 0, none, loop51_nil (Q 9) x2 x3 (ar M) hv hw rs rg nd, by simp [O38], rfl, fun g W h => by cases h⟩
      · obtain ⟨t, rfl⟩ := hv.ro (fun h => l0 (List.length_eq_zero_iff.1 (by rw [← ar_len L, h]; rfl)))
        have := loop51 (Q 9) _ (q16 8) t L (by omega) rs rg nd x3 (ar M) hw (fun x => at16 8 x nd) L.length 0 3000 0 none (by omega) (by omega) rfl (fun g W h => by cases h)
        rw [List.drop_zero] at this
        exact this
    obtain ⟨E1, c1, o', l1, f1, r1, g1⟩ := w1
    have w2 : ∃ E' c' p' A', iter (ev (Q 9) 3000 b5_0) [0, 1, 2, 3, 11, 13, 14] [38, 52000, 100400, 100600] 3000 ⟨[(0, .int .i64 rs), (1, .int .i64 rg), (2, x2), (3, x3), (11, O38 o'), (13, x2), (14, .int .i64 0)], H38 o', c1⟩ = some (.exit 2, ⟨E', H38 o' ++ H52 p', c'⟩) ∧
        envOnly [0, 1, 2, 11, 13] E' = [(0, .int .i64 rs), (1, .int .i64 rg), (2, x2), (11, O38 o'), (13, O52 x2 p')] ∧ LS 2 (ar A') (L52 x2 p') ∧ (∀ a ∈ L, a ∈ A') ∧ A'.length ≤ 2900 ∧ c1 ≤ c' := by
      by_cases l0 : M = []
      · subst l0
        exact ⟨_, c1, none, L, by rw [show H38 o' ++ H52 none = H38 o' from List.append_nil _]; exact loop50_nil (Q 9) x2 x3 (ar L) hv hw o' c1 rs rg, by simp [O52], hv, fun _ h => h, by omega, Nat.le_refl _⟩
      · obtain ⟨t, rfl⟩ := hw.ro (fun h => l0 (List.length_eq_zero_iff.1 (by rw [← ar_len M, h]; rfl)))
        have := loop50 (Q 9) _ (q10 8) t M (by omega) rs rg x2 L hv hL o' (fun w A a hA hlA => add10 3 w A hA hlA a) M.length 0 3000 c1 none L (by omega) (by omega) hv (fun _ h => h) (by omega) g1
        obtain ⟨E', c', p', A', k1, k2, k3, k4, k5, k6⟩ := this
        refine ⟨E', c', p', A', ?_, k2, k3, k4, k5, k6⟩
        simpa [H52, O52] using k1
    obtain ⟨E2, c2, p', A', l2, f2, hA, hm, hlA, hc⟩ := w2
    have hOnes : LS 2 (ar (ones nd L)) (L38 o') := by
      rcases o' with _ | ⟨g, W⟩
      · exact .inl ⟨rfl, r1.symm⟩
      · simp only [R38] at r1
        subst r1
        exact .inr (.inr ⟨true, rfl⟩)
    have c14a := enough14 8 L x2 hv (by omega) rs rg
    have c14b := enough14 8 A' _ hA hlA rs rg
    have c14c := enough14 8 (ones nd L) _ hOnes (by unfold ones; rw [List.length_map]; omega) rs rg
    rw [enV_ones] at c14c
    exact law5_of (Q 9) _ _ (q13 8) (q14 8) x2 x3 (ar L) (ar M) hv hw (by rw [ar_len]; exact hL) (by rw [ar_len]; exact hM) rs rg nd o' p' E1 E2 c1 c2 (fun g W h => Nat.lt_of_lt_of_le (g1 g W h) hc) (enV rs rg L) (enV rs rg A') (by cases hb : enV rs rg L; exact .inl rfl; exact .inr ⟨rfl, enV_mono hm hb⟩) rows13 c14a c14b c14c l1 f1 l2 f2
theorem ref5 : Refines Go.Proofs.Try.prog 5 (E 10 5) := ref 10 5 (q5 9)
end Go.Abs.Try

namespace Go.Abs.Try
open Go Go.Abs
set_option maxHeartbeats 16000000
set_option maxRecDepth 100000
set_option linter.unusedSimpArgs false
set_option linter.unusedVariables false
/-- one address of both that counts -/
def good (rs rg : Int) (a b : Ad) : Bool := decide (a = b) && (a.1 != rg) && decide (1 ≤ a.1) && decide (a.1 ≤ rs) && decide (1 ≤ a.2) && decide (a.2 ≤ 3)
theorem step40_no (Φ : Nat → Option FnF) (ta tb : Bool) (R S : List (List AV)) (i j c k len lem : Nat) (hl : R.length = len) (hm : S.length = lem) (hi : i < len) (hj : j < lem) (hb : len ≤ 100000) (hb2 : lem ≤ 100000) (rs rg x y u v : Int) (r1 : R[i]? = some [.int .i64 x, .int .i64 y]) (r2 : S[j]? = some [.int .i64 u, .int .i64 v])
    (h : good rs rg (x, y) (u, v) = false) : iter (ev Φ 3000 b4_0) [0, 1, 2, 3, 9, 10] [100400, 100600] (k + 1) ⟨[(0, .int .i64 rs), (1, .int .i64 rg), (2, .ro ta 2 R), (3, .ro tb 2 S), (9, .int .i64 i), (10, .int .i64 j)], [], c⟩ =
      iter (ev Φ 3000 b4_0) [0, 1, 2, 3, 9, 10] [100400, 100600] k ⟨[(0, .int .i64 rs), (1, .int .i64 rg), (2, .ro ta 2 R), (3, .ro tb 2 S), (9, .int .i64 i), (10, .int .i64 ((j + 1 : Nat) : Int))], [], c⟩ := by
  have j1 : (j : Int) < (lem : Int) := by omega
  have il : i < R.length := by omega
  have il2 : j < S.length := by omega
  have r1' := (List.getElem?_eq_some_iff.1 r1).2
  have r2' := (List.getElem?_eq_some_iff.1 r2).2
  have w1 : IntKind.i64.wrap ((j : Int) + 1) = ((j + 1 : Nat) : Int) := by rw [wrap_i64 _ (by omega) (by omega)]; omega
  have hq := aeq2 x y u v
  generalize ((j + 1 : Nat) : Int) = jj at *
  unfold good at h
  apply iter_norm
  by_cases q0 : (x, y) = (u, v)
  · rw [decide_eq_true q0] at h hq
    by_cases q1 : x = rg
    · subst q1
      have q1' : (x != x) = false := by simp
      simp -implicitDefEqProofs [-aeqCells, b4_0, St.keep, hi, hj, j1, il, il2, hl, hm, r1, r1', r2, r2', w1, hq, q1']
    · by_cases q2 : 1 ≤ x
      · by_cases q3 : x ≤ rs
        · by_cases q4 : 1 ≤ y
          · by_cases q5 : y ≤ 3
            · simp [q1, q2, q3, q4, q5] at h
            · have q1' : (x != rg) = true := by simpa using q1
              simp -implicitDefEqProofs [-aeqCells, b4_0, St.keep, hi, hj, j1, il, il2, hl, hm, r1, r1', r2, r2', w1, hq, q1, q1', q2, q3, q4, q5]
          · have q1' : (x != rg) = true := by simpa using q1
            simp -implicitDefEqProofs [-aeqCells, b4_0, St.keep, hi, hj, j1, il, il2, hl, hm, r1, r1', r2, r2', w1, hq, q1, q1', q2, q3, q4]
        · have q1' : (x != rg) = true := by simpa using q1
          simp -implicitDefEqProofs [-aeqCells, b4_0, St.keep, hi, hj, j1, il, il2, hl, hm, r1, r1', r2, r2', w1, hq, q1, q1', q2, q3]
      · have q1' : (x != rg) = true := by simpa using q1
        simp -implicitDefEqProofs [-aeqCells, b4_0, St.keep, hi, hj, j1, il, il2, hl, hm, r1, r1', r2, r2', w1, hq, q1, q1', q2]
  · rw [decide_eq_false q0] at hq
    simp -implicitDefEqProofs [-aeqCells, b4_0, St.keep, hi, hj, j1, il, il2, hl, hm, r1, r1', r2, r2', w1, hq]
theorem step40_yes (Φ : Nat → Option FnF) (F13 : CallF) {G13 J13 Y13} (h13 : Φ 13 = some ⟨F13, G13, J13, Y13⟩) (c13 : F13 [] = some (.bool true, [])) (ta tb : Bool) (R S : List (List AV)) (i j c k len lem : Nat) (hl : R.length = len) (hm : S.length = lem) (hi : i < len) (hj : j < lem) (hb : len ≤ 100000) (hb2 : lem ≤ 100000) (rs rg x y u v : Int) (r1 : R[i]? = some [.int .i64 x, .int .i64 y]) (r2 : S[j]? = some [.int .i64 u, .int .i64 v])
    (h : good rs rg (x, y) (u, v) = true) : ∃ E', iter (ev Φ 3000 b4_0) [0, 1, 2, 3, 9, 10] [100400, 100600] (k + 1) ⟨[(0, .int .i64 rs), (1, .int .i64 rg), (2, .ro ta 2 R), (3, .ro tb 2 S), (9, .int .i64 i), (10, .int .i64 j)], [], c⟩ =
      some (.ret, ⟨E', [], c⟩) ∧ envGet E' 8 = some (.bool true) := by
  have j1 : (j : Int) < (lem : Int) := by omega
  have il : i < R.length := by omega
  have il2 : j < S.length := by omega
  have r1' := (List.getElem?_eq_some_iff.1 r1).2
  have r2' := (List.getElem?_eq_some_iff.1 r2).2
  have hq := aeq2 x y u v
  unfold good at h
  rw [Bool.and_eq_true, Bool.and_eq_true, Bool.and_eq_true, Bool.and_eq_true, Bool.and_eq_true] at h
  obtain ⟨⟨⟨⟨⟨q0, q1⟩, q2⟩, q3⟩, q4⟩, q5⟩ := h
  rw [q0] at hq
  have q2 := of_decide_eq_true q2
  have q3 := of_decide_eq_true q3
  have q4 := of_decide_eq_true q4
  have q5 := of_decide_eq_true q5
  simp only at q1 q2 q3 q4 q5
  have q1' : ¬ x = rg := by simpa using q1
  rw [iter_succ]
  simp -implicitDefEqProofs [-aeqCells, b4_0, h13, c13, hi, hj, j1, il, il2, hl, hm, r1, r1', r2, r2', hq, q1, q1', q2, q3, q4, q5]
theorem loop40 (Φ : Nat → Option FnF) (F13 : CallF) {G13 J13 Y13} (h13 : Φ 13 = some ⟨F13, G13, J13, Y13⟩) (c13 : F13 [] = some (.bool true, [])) (ta tb : Bool) (A B : List Ad) (hA : A.length ≤ 2900) (hB : B.length ≤ 2900) (i c : Nat) (hi : i < A.length) (rs rg : Int) : ∀ (d j k : Nat), j + d = B.length → d < k →
    if (B.drop j).any (good rs rg (gA A i)) then ∃ E', iter (ev Φ 3000 b4_0) [0, 1, 2, 3, 9, 10] [100400, 100600] k ⟨[(0, .int .i64 rs), (1, .int .i64 rg), (2, .ro ta 2 (ar A)), (3, .ro tb 2 (ar B)), (9, .int .i64 i), (10, .int .i64 j)], [], c⟩ = some (.ret, ⟨E', [], c⟩) ∧ envGet E' 8 = some (.bool true)
    else ∃ E', iter (ev Φ 3000 b4_0) [0, 1, 2, 3, 9, 10] [100400, 100600] k ⟨[(0, .int .i64 rs), (1, .int .i64 rg), (2, .ro ta 2 (ar A)), (3, .ro tb 2 (ar B)), (9, .int .i64 i), (10, .int .i64 j)], [], c⟩ = some (.exit 2, ⟨E', [], c⟩) ∧ envOnly [0, 1, 2, 3, 9] E' = [(0, .int .i64 rs), (1, .int .i64 rg), (2, .ro ta 2 (ar A)), (3, .ro tb 2 (ar B)), (9, .int .i64 i)]
  | d, j, 0, hj, hk => by omega
  | 0, j, k + 1, hj, hk => by
    have n1 : ¬ ((j : Int) < (B.length : Int)) := by omega
    have n2 : ¬ (j < B.length) := by omega
    have la := ar_len B
    rw [List.drop_of_length_le (by omega)]
    simp only [List.any_nil, Bool.false_eq_true, ↓reduceIte]
    refine ⟨[(0, .int .i64 rs), (1, .int .i64 rg), (2, .ro ta 2 (ar A)), (3, .ro tb 2 (ar B)), (9, .int .i64 i), (10, .int .i64 j), (40, .int .i64 j), (41, .ro tb 2 (ar B)), (42, .int .i64 B.length), (43, .bool false)], ?_, by simp⟩
    rw [iter_succ]
    simp -implicitDefEqProofs [b4_0, n1, n2, la]
  | d + 1, j, k + 1, hj, hk => by
    have hjl : j < B.length := by omega
    have da : B.drop j = gA B j :: B.drop (j + 1) := by rw [gA_of hjl]; exact List.drop_eq_getElem_cons hjl
    have ih := loop40 Φ F13 h13 c13 ta tb A B hA hB i c hi rs rg d (j + 1) k (by omega) (by omega)
    rw [da, List.any_cons]
    cases hg : good rs rg (gA A i) (gA B j) with
    | false =>
      have st := step40_no Φ ta tb (ar A) (ar B) i j c k A.length B.length (ar_len A) (ar_len B) hi hjl (by omega) (by omega) rs rg _ _ _ _ (ar_get hi) (ar_get hjl) hg
      rw [Bool.false_or, st]
      exact ih
    | true =>
      have st := step40_yes Φ F13 h13 c13 ta tb (ar A) (ar B) i j c k A.length B.length (ar_len A) (ar_len B) hi hjl (by omega) (by omega) rs rg _ _ _ _ (ar_get hi) (ar_get hjl) hg
      rw [Bool.true_or, if_pos rfl]
      exact st
theorem step41_no (Φ : Nat → Option FnF) (va vb : AV) (R S : List (List AV)) (ha : LS 2 R va) (hb : LS 2 S vb) (i c k len : Nat) (hl : R.length = len) (hi : i < len) (hln : len ≤ 100000) (rs rg : Int) (E1 : Env)
    (l1 : iter (ev Φ 3000 b4_0) [0, 1, 2, 3, 9, 10] [100400, 100600] 3000 ⟨[(0, .int .i64 rs), (1, .int .i64 rg), (2, va), (3, vb), (9, .int .i64 i), (10, .int .i64 0)], [], c⟩ = some (.exit 2, ⟨E1, [], c⟩))
    (e1 : envOnly [0, 1, 2, 3, 9] E1 = [(0, .int .i64 rs), (1, .int .i64 rg), (2, va), (3, vb), (9, .int .i64 i)]) :
    iter (ev Φ 3000 b4_1) [0, 1, 2, 3, 9] [100400, 100600] (k + 1) ⟨[(0, .int .i64 rs), (1, .int .i64 rg), (2, va), (3, vb), (9, .int .i64 i)], [], c⟩ =
      iter (ev Φ 3000 b4_1) [0, 1, 2, 3, 9] [100400, 100600] k ⟨[(0, .int .i64 rs), (1, .int .i64 rg), (2, va), (3, vb), (9, .int .i64 ((i + 1 : Nat) : Int))], [], c⟩ := by
  have i1 : (i : Int) < (len : Int) := by omega
  have hlv := ha.len
  have w1 : IntKind.i64.wrap ((i : Int) + 1) = ((i + 1 : Nat) : Int) := by rw [wrap_i64 _ (by omega) (by omega)]; omega
  generalize ((i + 1 : Nat) : Int) = jj at *
  apply iter_norm
  simp -implicitDefEqProofs [b4_1, St.keep, hlv, hl, hi, i1, ha.cell, ha.val, ha.low, ha.low1, hb.cell, hb.val, hb.low, hb.low1]
  rw [iter_keep]; simp -implicitDefEqProofs
  rw [l1]; simp -implicitDefEqProofs [e1, w1, ha.cell, ha.val, ha.low, ha.low1, hb.cell, hb.val, hb.low, hb.low1]
  exact ⟨_, _, ⟨rfl, rfl⟩, rfl, by simp, by simp, rfl⟩
theorem step41_yes (Φ : Nat → Option FnF) (va vb : AV) (R S : List (List AV)) (ha : LS 2 R va) (hb : LS 2 S vb) (i c k len : Nat) (hl : R.length = len) (hi : i < len) (hln : len ≤ 100000) (rs rg : Int) (E1 : Env)
    (l1 : iter (ev Φ 3000 b4_0) [0, 1, 2, 3, 9, 10] [100400, 100600] 3000 ⟨[(0, .int .i64 rs), (1, .int .i64 rg), (2, va), (3, vb), (9, .int .i64 i), (10, .int .i64 0)], [], c⟩ = some (.ret, ⟨E1, [], c⟩)) :
    iter (ev Φ 3000 b4_1) [0, 1, 2, 3, 9] [100400, 100600] (k + 1) ⟨[(0, .int .i64 rs), (1, .int .i64 rg), (2, va), (3, vb), (9, .int .i64 i)], [], c⟩ = some (.ret, ⟨E1, [], c⟩) := by
  have i1 : (i : Int) < (len : Int) := by omega
  have hlv := ha.len
  rw [iter_succ]
  simp -implicitDefEqProofs [b4_1, hlv, hl, hi, i1, ha.cell, ha.val, ha.low, ha.low1, hb.cell, hb.val, hb.low, hb.low1]
  rw [iter_keep]; simp -implicitDefEqProofs
  rw [l1]
end Go.Abs.Try

namespace Go.Abs.Try
open Go Go.Abs
set_option maxHeartbeats 16000000
set_option maxRecDepth 100000
set_option linter.unusedSimpArgs false
set_option linter.unusedVariables false
theorem loop41 (Φ : Nat → Option FnF) (F13 : CallF) {G13 J13 Y13} (h13 : Φ 13 = some ⟨F13, G13, J13, Y13⟩) (c13 : F13 [] = some (.bool true, [])) (ta tb : Bool) (A B : List Ad) (hA : A.length ≤ 2900) (hB : B.length ≤ 2900) (c : Nat) (rs rg : Int) : ∀ (d i k : Nat), i + d = A.length → d < k → (∃ a ∈ A.drop i, ∃ b ∈ B, good rs rg a b = true) →
    ∃ E', iter (ev Φ 3000 b4_1) [0, 1, 2, 3, 9] [100400, 100600] k ⟨[(0, .int .i64 rs), (1, .int .i64 rg), (2, .ro ta 2 (ar A)), (3, .ro tb 2 (ar B)), (9, .int .i64 i)], [], c⟩ = some (.ret, ⟨E', [], c⟩) ∧ envGet E' 8 = some (.bool true)
  | d, i, 0, hi, hk, hx => by omega
  | 0, i, k + 1, hi, hk, hx => by
    rw [List.drop_of_length_le (by omega)] at hx
    obtain ⟨a, ha, _⟩ := hx
    cases ha
  | d + 1, i, k + 1, hi, hk, hx => by
    have hil : i < A.length := by omega
    have da : A.drop i = gA A i :: A.drop (i + 1) := by rw [gA_of hil]; exact List.drop_eq_getElem_cons hil
    have hLa : LS 2 (ar A) (.ro ta 2 (ar A)) := .inr (.inr ⟨ta, rfl⟩)
    have hLb : LS 2 (ar B) (.ro tb 2 (ar B)) := .inr (.inr ⟨tb, rfl⟩)
    have lp := loop40 Φ F13 h13 c13 ta tb A B hA hB i c hil rs rg B.length 0 3000 (by omega) (by omega)
    rw [List.drop_zero] at lp
    cases hany : B.any (good rs rg (gA A i)) with
    | true =>
      rw [hany, if_pos rfl] at lp
      obtain ⟨E', l1, e1⟩ := lp
      exact ⟨E', step41_yes Φ _ _ _ _ hLa hLb i c k A.length (ar_len A) hil (by omega) rs rg E' l1, e1⟩
    | false =>
      rw [hany, if_neg Bool.false_ne_true] at lp
      obtain ⟨E', l1, e1⟩ := lp
      rw [step41_no Φ _ _ _ _ hLa hLb i c k A.length (ar_len A) hil (by omega) rs rg E' l1 e1]
      refine loop41 Φ F13 h13 c13 ta tb A B hA hB c rs rg d (i + 1) k (by omega) (by omega) ?_
      obtain ⟨a, ha, b, hb, hg⟩ := hx
      rw [da, List.mem_cons] at ha
      rcases ha with rfl | ha
      · rw [List.any_eq_false] at hany
        exact absurd hg (hany b hb)
      · exact ⟨a, ha, b, hb, hg⟩
theorem law4_no (Φ : Nat → Option FnF) (F13 F14 : CallF) {G13 J13 Y13 G14 J14 Y14} (h13 : Φ 13 = some ⟨F13, G13, J13, Y13⟩) (h14 : Φ 14 = some ⟨F14, G14, J14, Y14⟩) (c13 : F13 [] = some (.bool true, []))
    (v w : AV) (R S : List (List AV)) (hv : LS 2 R v) (hw : LS 2 S w) (rs rg : Int) (b1 b2 : Bool) (c14a : R.length ≤ 200 → F14 [.int .i64 rs, .int .i64 rg, v] = some (.bool b1, [])) (c14b : S.length ≤ 200 → F14 [.int .i64 rs, .int .i64 rg, w] = some (.bool b2, []))
    (h : 200 < R.length ∨ 200 < S.length ∨ b1 = false ∨ b2 = false) : evFun Φ 3000 a4 [.int .i64 rs, .int .i64 rg, v, w] = some (.bool true, []) := by
  have hl := hv.len
  have hlw := hw.len
  by_cases q1 : 200 < R.length
  · have n1 : (200 : Int) < R.length := by omega
    simp -implicitDefEqProofs [a4, c4, h13, c13, hl, n1, q1, hv.cell, hv.val, hw.cell, hw.val]
  · have n1 : ¬ (200 : Int) < R.length := by omega
    by_cases q2 : 200 < S.length
    · have n2 : (200 : Int) < S.length := by omega
      simp -implicitDefEqProofs [a4, c4, h13, c13, hl, hlw, n1, q1, n2, q2, hv.cell, hv.val, hw.cell, hw.val]
    · have n2 : ¬ (200 : Int) < S.length := by omega
      have c14a := c14a (by omega)
      have c14b := c14b (by omega)
      cases b1
      · simp -implicitDefEqProofs [a4, c4, h13, h14, c13, c14a, hl, hlw, n1, q1, n2, q2, hv.cell, hv.val, hv.cb, hv.ld, hv.ldc, hv.mv, hw.cell, hw.val]
      · have h2 : b2 = false := by simpa [q1, q2] using h
        subst h2
        simp -implicitDefEqProofs [a4, c4, h13, h14, c13, c14a, c14b, hl, hlw, n1, q1, n2, q2, hv.cell, hv.val, hv.cb, hv.ld, hv.ldc, hv.mv, hw.cell, hw.val, hw.cb, hw.ld, hw.ldc, hw.mv]
theorem law4_yes (Φ : Nat → Option FnF) (F13 F14 : CallF) {G13 J13 Y13 G14 J14 Y14} (h13 : Φ 13 = some ⟨F13, G13, J13, Y13⟩) (h14 : Φ 14 = some ⟨F14, G14, J14, Y14⟩)
    (v w : AV) (R S : List (List AV)) (hv : LS 2 R v) (hw : LS 2 S w) (hn : R.length ≤ 200) (hm : S.length ≤ 200) (rs rg : Int) (c14a : F14 [.int .i64 rs, .int .i64 rg, v] = some (.bool true, [])) (c14b : F14 [.int .i64 rs, .int .i64 rg, w] = some (.bool true, []))
    (E1 : Env) (c1 : Nat) (l1 : iter (ev Φ 3000 b4_1) [0, 1, 2, 3, 9] [100400, 100600] 3000 ⟨[(0, .int .i64 rs), (1, .int .i64 rg), (2, v), (3, w), (9, .int .i64 0)], [], 0⟩ = some (.ret, ⟨E1, [], c1⟩)) (e1 : envGet E1 8 = some (.bool true)) :
    evFun Φ 3000 a4 [.int .i64 rs, .int .i64 rg, v, w] = some (.bool true, []) := by
  have hl := hv.len
  have hlw := hw.len
  have n1 : ¬ (200 : Int) < R.length := by omega
  have n2 : ¬ 200 < R.length := by omega
  have n3 : ¬ (200 : Int) < S.length := by omega
  have n4 : ¬ 200 < S.length := by omega
  simp -implicitDefEqProofs [a4, c4, h13, h14, c14a, c14b, hl, hlw, n1, n2, n3, n4, hv.cell, hv.val, hv.cb, hv.ld, hv.ldc, hv.mv, hv.low, hv.low1, hw.cell, hw.val, hw.cb, hw.ld, hw.ldc, hw.mv, hw.low, hw.low1]
  rw [iter_keep]; simp -implicitDefEqProofs
  rw [l1]; simp -implicitDefEqProofs [e1]
/-- the plain part: two rows with more than half of the other regions each have a region in common -/
theorem hv_two (A B : List Ad) (rg : Int) : ∀ (d : Nat) (s : Int), (∀ x : Int, s ≤ x → x < s + d → x ≠ rg → ¬ (cnt A x > 1 ∧ cnt B x > 1)) → hvFrom A rg s d + hvFrom B rg s d ≤ d - (if s ≤ rg ∧ rg < s + d then 1 else 0)
  | 0, s, h => by simp only [hvFrom]; split <;> omega
  | d + 1, s, h => by
    have ih := hv_two A B rg d (s + 1) (fun x h1 h2 => h x (by omega) (by omega))
    have h0 := h s (Int.le_refl _) (by omega)
    rw [hvFrom, hvFrom]
    have h1 : hv1 A rg s + hv1 B rg s ≤ if s = rg then 0 else 1 := by
      unfold hv1
      by_cases e : s = rg
      · rw [if_pos e, if_neg (fun k => k.1 e), if_neg (fun k => k.1 e)]; omega
      · have := h0 e
        rw [if_neg e]
        by_cases a : cnt A s > 1
        · rw [if_pos ⟨e, a⟩, if_neg (fun k => this ⟨a, k.2⟩)]; omega
        · rw [if_neg (fun k => a k.2)]; split <;> omega
    by_cases e : s = rg
    · rw [if_pos e] at h1
      rw [if_neg (by omega)] at ih
      rw [if_pos (by omega)]
      omega
    · rw [if_neg e] at h1
      by_cases f : s + 1 ≤ rg ∧ rg < s + 1 + d
      · rw [if_pos f] at ih
        rw [if_pos (by omega)]
        omega
      · rw [if_neg f] at ih
        rw [if_neg (by omega)]
        omega
theorem two_of (A B : List Ad) (s : Int) (ha : cnt A s > 1) (hb : cnt B s > 1) : ∃ n : Int, 1 ≤ n ∧ n ≤ 3 ∧ (s, n) ∈ A ∧ (s, n) ∈ B := by
  unfold cnt at ha hb
  by_cases h1 : (s, (1 : Int)) ∈ A ∧ (s, (1 : Int)) ∈ B
  · exact ⟨1, by omega, by omega, h1.1, h1.2⟩
  · by_cases h2 : (s, (2 : Int)) ∈ A ∧ (s, (2 : Int)) ∈ B
    · exact ⟨2, by omega, by omega, h2.1, h2.2⟩
    · by_cases h3 : (s, (3 : Int)) ∈ A ∧ (s, (3 : Int)) ∈ B
      · exact ⟨3, by omega, by omega, h3.1, h3.2⟩
      · exfalso
        by_cases a1 : (s, (1 : Int)) ∈ A <;> by_cases a2 : (s, (2 : Int)) ∈ A <;> by_cases a3 : (s, (3 : Int)) ∈ A <;> simp only [a1, a2, a3, ↓reduceIte, true_and, false_and, not_false_eq_true] at ha h1 h2 h3 <;> (try omega) <;> simp only [h1, h2, h3, ↓reduceIte] at hb <;> revert hb <;> (repeat' split) <;> omega
theorem meet {A B : List Ad} {rs rg : Int} (ha : enV rs rg A = true) (hb : enV rs rg B = true) : ∃ a ∈ A, ∃ b ∈ B, good rs rg a b = true := by
  unfold enV at ha hb
  rw [Bool.and_eq_true, decide_eq_true_eq] at ha hb
  obtain ⟨h1, h2, h3, h4⟩ := okR_true ha.1
  by_cases h : ∀ x : Int, 1 ≤ x → x < 1 + rs.toNat → x ≠ rg → ¬ (cnt A x > 1 ∧ cnt B x > 1)
  · exfalso
    have := hv_two A B rg rs.toNat 1 h
    rw [if_pos (by omega)] at this
    omega
  · have : ∃ x : Int, 1 ≤ x ∧ x < 1 + rs.toNat ∧ x ≠ rg ∧ cnt A x > 1 ∧ cnt B x > 1 := by
      apply Classical.byContradiction
      intro hc
      exact h (fun x q1 q2 q3 q4 => hc ⟨x, q1, q2, q3, q4.1, q4.2⟩)
    obtain ⟨x, q1, q2, q3, q4, q5⟩ := this
    obtain ⟨n, n1, n2, n3, n4⟩ := two_of A B x q4 q5
    refine ⟨(x, n), n3, (x, n), n4, ?_⟩
    unfold good
    simp only [decide_true, Bool.true_and, Bool.and_eq_true, bne_iff_ne, ne_eq, decide_eq_true_eq]
    exact ⟨⟨⟨⟨q3, q1⟩, by omega⟩, n1⟩, n2⟩
theorem law4 (x0 x1 x2 x3 : AV) (o0 : okRow [.int .i64] [x0]) (o1 : okRow [.int .i64] [x1]) (o2 : okRow [.sl shA] [x2]) (o3 : okRow [.sl shA] [x3]) : E 10 4 [x0, x1, x2, x3] = some (.bool true, []) := by
  obtain ⟨rs, _, h0, _, _⟩ := o0.int
  obtain ⟨rfl, _⟩ : x0 = _ ∧ _ := by simpa using h0
  obtain ⟨rg, _, h1, _, _⟩ := o1.int
  obtain ⟨rfl, _⟩ : x1 = _ ∧ _ := by simpa using h1
  obtain ⟨L, hv⟩ := ok_alist o2
  obtain ⟨M, hw⟩ := ok_alist o3
  rw [e4]
  have no : 200 < L.length ∨ 200 < M.length ∨ enV rs rg L = false ∨ enV rs rg M = false → evFun (Q 9) 3000 a4 [.int .i64 rs, .int .i64 rg, x2, x3] = some (.bool true, []) := fun h =>
    law4_no (Q 9) _ _ (q13 8) (q14 8) rows13 x2 x3 (ar L) (ar M) hv hw rs rg (enV rs rg L) (enV rs rg M) (fun hl => enough14 8 L x2 hv (by rw [ar_len] at hl; omega) rs rg) (fun hl => enough14 8 M x3 hw (by rw [ar_len] at hl; omega) rs rg) (by rw [ar_len, ar_len]; exact h)
  by_cases hL : 200 < L.length
  · exact no (.inl hL)
  · by_cases hM : 200 < M.length
    · exact no (.inr (.inl hM))
    · cases ha : enV rs rg L with
      | false => exact no (.inr (.inr (.inl ha)))
      | true =>
        cases hb : enV rs rg M with
        | false => exact no (.inr (.inr (.inr hb)))
        | true =>
          obtain ⟨a, ma, b, mb, hg⟩ := meet ha hb
          have c14a := enough14 8 L x2 hv (by omega) rs rg
          have c14b := enough14 8 M x3 hw (by omega) rs rg
          rw [ha] at c14a
          rw [hb] at c14b
          obtain ⟨t, rfl⟩ := hv.ro (fun h => by have := ar_len L; rw [h] at this; rw [List.length_eq_zero_iff.1 this.symm] at ma; cases ma)
          obtain ⟨t', rfl⟩ := hw.ro (fun h => by have := ar_len M; rw [h] at this; rw [List.length_eq_zero_iff.1 this.symm] at mb; cases mb)
          obtain ⟨E1, l1, e1⟩ := loop41 (Q 9) _ (q13 8) rows13 t t' L M (by omega) (by omega) 0 rs rg L.length 0 3000 (by omega) (by omega) ⟨a, by rw [List.drop_zero]; exact ma, b, mb, hg⟩
          exact law4_yes (Q 9) _ _ (q13 8) (q14 8) _ _ (ar L) (ar M) hv hw (by rw [ar_len]; omega) (by rw [ar_len]; omega) rs rg c14a c14b E1 0 l1 e1
theorem ref4 : Refines Go.Proofs.Try.prog 4 (E 10 4) := ref 10 4 (q4 9)
end Go.Abs.Try
