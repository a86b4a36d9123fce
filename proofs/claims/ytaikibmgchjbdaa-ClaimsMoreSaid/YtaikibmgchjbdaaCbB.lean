/- Part 2 of Cb: what our evaluation of a function's code says, the machine's run does; no condition of its own. -/
import Derived.Test.YtaikibmgchjbdaaCbA
set_option linter.unusedVariables false
set_option linter.unusedSimpArgs false
set_option linter.unusedSectionVars false
namespace Go.Abs.Try
open Go Go.Abs
set_option maxHeartbeats 16000000
set_option maxRecDepth 100000
set_option linter.unusedSimpArgs false
set_option linter.unusedVariables false
def L38 : Option (Nat × List (List AV)) → AV
  | none => .nilS
  | some (_, W) => .ro true 2 W
theorem law5_long (Φ : Nat → Option FnF) (v w : AV) (R S : List (List AV)) (hv : LS 2 R v) (hw : LS 2 S w) (hn : 200 < R.length ∨ 200 < S.length) (rs rg nd : Int) : evFun Φ 3000 a5 [.int .i64 rs, .int .i64 rg, v, w, .int .i64 nd] = some (.bool true, []) := by
  have hl := hv.len
  have hlw := hw.len
  by_cases h1 : 200 < R.length
  · have n1 : (200 : Int) < R.length := by omega
    simp -implicitDefEqProofs [a5, c5, hl, n1, h1, hv.cell, hv.val, hw.cell, hw.val]
  · have h2 := hn.resolve_left h1
    have n1 : ¬ (200 : Int) < R.length := by omega
    have n2 : (200 : Int) < S.length := by omega
    simp -implicitDefEqProofs [a5, c5, hl, hlw, n1, n2, h1, h2, hv.cell, hv.val, hw.cell, hw.val]
theorem law5_of (Φ : Nat → Option FnF) (F13 F14 : CallF) {G13 J13 Y13 G14 J14 Y14} (h13 : Φ 13 = some ⟨F13, G13, J13, Y13⟩) (h14 : Φ 14 = some ⟨F14, G14, J14, Y14⟩)
    (v w : AV) (R S : List (List AV)) (hv : LS 2 R v) (hw : LS 2 S w) (hn : R.length ≤ 200) (hm : S.length ≤ 200) (rs rg nd : Int) (o p : Option (Nat × List (List AV))) (E1 E2 : Env) (c1 c2 : Nat) (ho : ∀ g W, o = some (g, W) → g < c2) (b1 b2 : Bool) (hb : b1 = false ∨ (b1 = true ∧ b2 = true))
    (c13 : F13 [] = some (.bool true, [])) (c14a : F14 [.int .i64 rs, .int .i64 rg, v] = some (.bool b1, [])) (c14b : F14 [.int .i64 rs, .int .i64 rg, L52 v p] = some (.bool b2, [])) (c14c : F14 [.int .i64 rs, .int .i64 rg, L38 o] = some (.bool false, []))
    (l1 : iter (ev Φ 3000 b5_1) [0, 1, 2, 3, 4, 11, 12] [38, 100400, 100600] 3000 ⟨[(0, .int .i64 rs), (1, .int .i64 rg), (2, v), (3, w), (4, .int .i64 nd), (11, .nilS), (12, .int .i64 0)], [], 0⟩ = some (.exit 0, ⟨E1, H38 o, c1⟩))
    (e1 : envOnly [0, 1, 2, 3, 11] E1 = [(0, .int .i64 rs), (1, .int .i64 rg), (2, v), (3, w), (11, O38 o)])
    (l2 : iter (ev Φ 3000 b5_0) [0, 1, 2, 3, 11, 13, 14] [38, 52000, 100400, 100600] 3000 ⟨[(0, .int .i64 rs), (1, .int .i64 rg), (2, v), (3, w), (11, O38 o), (13, v), (14, .int .i64 0)], H38 o, c1⟩ = some (.exit 2, ⟨E2, H38 o ++ H52 p, c2⟩))
    (e2 : envOnly [0, 1, 2, 11, 13] E2 = [(0, .int .i64 rs), (1, .int .i64 rg), (2, v), (11, O38 o), (13, O52 v p)]) :
    evFun Φ 3000 a5 [.int .i64 rs, .int .i64 rg, v, w, .int .i64 nd] = some (.bool true, []) := by
  have hl := hv.len
  have hlw := hw.len
  have n1 : ¬ (200 : Int) < R.length := by omega
  have n2 : ¬ 200 < R.length := by omega
  have n3 : ¬ (200 : Int) < S.length := by omega
  have n4 : ¬ 200 < S.length := by omega
  rcases o with _ | ⟨g, W⟩ <;> rcases p with _ | ⟨g', W'⟩ <;> simp only [O38, H38, O52, H52, L38, L52, List.nil_append, List.cons_append, List.append_nil] at l1 l2 e1 e2 c14b c14c
  · rcases hb with rfl | ⟨rfl, rfl⟩
    · simp -implicitDefEqProofs [a5, c5, h13, h14, hl, hlw, n1, n2, n3, n4, hv.cell, hv.val, hv.low, hv.low1, hw.cell, hw.val]
      rw [iter_keep]; simp -implicitDefEqProofs
      rw [l1]; simp -implicitDefEqProofs [e1, hv.cell, hv.val, hv.low, hv.low1, hw.cell, hw.val]
      rw [iter_keep]; simp -implicitDefEqProofs
      rw [l2]; simp -implicitDefEqProofs [e2, h13, h14, c13, c14a, c14b, c14c, hv.cell, hv.val, hv.cb, hv.ld, hv.ldc, hv.mv, hv.low, hv.low1]
    · simp -implicitDefEqProofs [a5, c5, h13, h14, hl, hlw, n1, n2, n3, n4, hv.cell, hv.val, hv.low, hv.low1, hw.cell, hw.val]
      rw [iter_keep]; simp -implicitDefEqProofs
      rw [l1]; simp -implicitDefEqProofs [e1, hv.cell, hv.val, hv.low, hv.low1, hw.cell, hw.val]
      rw [iter_keep]; simp -implicitDefEqProofs
      rw [l2]; simp -implicitDefEqProofs [e2, h13, h14, c13, c14a, c14b, c14c, hv.cell, hv.val, hv.cb, hv.ld, hv.ldc, hv.mv, hv.low, hv.low1]
  · have tW' : W'.take W'.length = W' := List.take_length
    rcases hb with rfl | ⟨rfl, rfl⟩
    · simp -implicitDefEqProofs [a5, c5, h13, h14, hl, hlw, n1, n2, n3, n4, hv.cell, hv.val, hv.low, hv.low1, hw.cell, hw.val]
      rw [iter_keep]; simp -implicitDefEqProofs
      rw [l1]; simp -implicitDefEqProofs [e1, hv.cell, hv.val, hv.low, hv.low1, hw.cell, hw.val]
      rw [iter_keep]; simp -implicitDefEqProofs
      rw [l2]; simp -implicitDefEqProofs [e2, h13, h14, c13, c14a, c14b, c14c, tW', hv.cell, hv.val, hv.cb, hv.ld, hv.ldc, hv.mv, hv.low, hv.low1]
    · simp -implicitDefEqProofs [a5, c5, h13, h14, hl, hlw, n1, n2, n3, n4, hv.cell, hv.val, hv.low, hv.low1, hw.cell, hw.val]
      rw [iter_keep]; simp -implicitDefEqProofs
      rw [l1]; simp -implicitDefEqProofs [e1, hv.cell, hv.val, hv.low, hv.low1, hw.cell, hw.val]
      rw [iter_keep]; simp -implicitDefEqProofs
      rw [l2]; simp -implicitDefEqProofs [e2, h13, h14, c13, c14a, c14b, c14c, tW', hv.cell, hv.val, hv.cb, hv.ld, hv.ldc, hv.mv, hv.low, hv.low1]
  · have tW : W.take W.length = W := List.take_length
    have hg := ho g W rfl
    rcases hb with rfl | ⟨rfl, rfl⟩
    · simp -implicitDefEqProofs [a5, c5, h13, h14, hl, hlw, n1, n2, n3, n4, hv.cell, hv.val, hv.low, hv.low1, hw.cell, hw.val]
      rw [iter_keep]; simp -implicitDefEqProofs
      rw [l1]; simp -implicitDefEqProofs [e1, hv.cell, hv.val, hv.low, hv.low1, hw.cell, hw.val]
      rw [iter_keep]; simp -implicitDefEqProofs
      rw [l2]; simp -implicitDefEqProofs [e2, h13, h14, c13, c14a, c14b, c14c, tW, hg, hv.cell, hv.val, hv.cb, hv.ld, hv.ldc, hv.mv, hv.low, hv.low1]
    · simp -implicitDefEqProofs [a5, c5, h13, h14, hl, hlw, n1, n2, n3, n4, hv.cell, hv.val, hv.low, hv.low1, hw.cell, hw.val]
      rw [iter_keep]; simp -implicitDefEqProofs
      rw [l1]; simp -implicitDefEqProofs [e1, hv.cell, hv.val, hv.low, hv.low1, hw.cell, hw.val]
      rw [iter_keep]; simp -implicitDefEqProofs
      rw [l2]; simp -implicitDefEqProofs [e2, h13, h14, c13, c14a, c14b, c14c, tW, hg, hv.cell, hv.val, hv.cb, hv.ld, hv.ldc, hv.mv, hv.low, hv.low1]
  · have tW : W.take W.length = W := List.take_length
    have tW' : W'.take W'.length = W' := List.take_length
    have hg := ho g W rfl
    rcases hb with rfl | ⟨rfl, rfl⟩
    · simp -implicitDefEqProofs [a5, c5, h13, h14, hl, hlw, n1, n2, n3, n4, hv.cell, hv.val, hv.low, hv.low1, hw.cell, hw.val]
      rw [iter_keep]; simp -implicitDefEqProofs
      rw [l1]; simp -implicitDefEqProofs [e1, hv.cell, hv.val, hv.low, hv.low1, hw.cell, hw.val]
      rw [iter_keep]; simp -implicitDefEqProofs
      rw [l2]; simp -implicitDefEqProofs [e2, h13, h14, c13, c14a, c14b, c14c, tW, tW', hg, hv.cell, hv.val, hv.cb, hv.ld, hv.ldc, hv.mv, hv.low, hv.low1]
    · simp -implicitDefEqProofs [a5, c5, h13, h14, hl, hlw, n1, n2, n3, n4, hv.cell, hv.val, hv.low, hv.low1, hw.cell, hw.val]
      rw [iter_keep]; simp -implicitDefEqProofs
      rw [l1]; simp -implicitDefEqProofs [e1, hv.cell, hv.val, hv.low, hv.low1, hw.cell, hw.val]
      rw [iter_keep]; simp -implicitDefEqProofs
      rw [l2]; simp -implicitDefEqProofs [e2, h13, h14, c13, c14a, c14b, c14c, tW, tW', hg, hv.cell, hv.val, hv.cb, hv.ld, hv.ldc, hv.mv, hv.low, hv.low1]
theorem loop51_nil (Φ : Nat → Option FnF) (v w : AV) (S : List (List AV)) (hv : LS 2 [] v) (hw : LS 2 S w) (rs rg nd : Int) : iter (ev Φ 3000 b5_1) [0, 1, 2, 3, 4, 11, 12] [38, 100400, 100600] 3000 ⟨[(0, .int .i64 rs), (1, .int .i64 rg), (2, v), (3, w), (4, .int .i64 nd), (11, .nilS), (12, .int .i64 0)], [], 0⟩ =
    some (.exit 0, ⟨[(0, .int .i64 rs), (1, .int .i64 rg), (2, v), (3, w), (4, .int .i64 nd), (11, .nilS), (12, .int .i64 0), (23, .int .i64 0), (24, v), (25, .int .i64 0), (26, .bool false)], [], 0⟩) := by
  have hl := hv.len
  rw [show (3000 : Nat) = 2999 + 1 from rfl, iter_succ]
  simp -implicitDefEqProofs [b5_1, hl, hv.cell, hv.val, hw.cell, hw.val]
theorem loop50_nil (Φ : Nat → Option FnF) (v w : AV) (S : List (List AV)) (hv : LS 2 S v) (hw : LS 2 [] w) (o : Option (Nat × List (List AV))) (c : Nat) (rs rg : Int) : iter (ev Φ 3000 b5_0) [0, 1, 2, 3, 11, 13, 14] [38, 52000, 100400, 100600] 3000 ⟨[(0, .int .i64 rs), (1, .int .i64 rg), (2, v), (3, w), (11, O38 o), (13, v), (14, .int .i64 0)], H38 o, c⟩ =
    some (.exit 2, ⟨[(0, .int .i64 rs), (1, .int .i64 rg), (2, v), (3, w), (11, O38 o), (13, v), (14, .int .i64 0), (40, .int .i64 0), (41, w), (42, .int .i64 0), (43, .bool false)], H38 o, c⟩) := by
  have hl := hw.len
  rw [show (3000 : Nat) = 2999 + 1 from rfl, iter_succ]
  rcases o with _ | ⟨g, W⟩ <;> simp -implicitDefEqProofs [b5_0, O38, H38, hl, hv.cell, hv.val, hw.cell, hw.val]
theorem law5 (x0 x1 x2 x3 x4 : AV) (o0 : okRow [.int .i64] [x0]) (o1 : okRow [.int .i64] [x1]) (o2 : okRow [.sl shA] [x2]) (o3 : okRow [.sl shA] [x3]) (o4 : okRow [.int .i64] [x4]) : E 10 5 [x0, x1, x2, x3, x4] = some (.bool true, []) := by
  obtain ⟨rs, _, h0, _, _⟩ := o0.int
  obtain ⟨rfl, _⟩ : x0 = _ ∧ _ := by simpa using h0
  obtain ⟨rg, _, h1, _, _⟩ := o1.int
  obtain ⟨rfl, _⟩ : x1 = _ ∧ _ := by simpa using h1
  obtain ⟨nd, _, h4, _, _⟩ := o4.int
  obtain ⟨rfl, _⟩ : x4 = _ ∧ _ := by simpa using h4
  obtain ⟨L, hv⟩ := ok_alist o2
  obtain ⟨M, hw⟩ := ok_alist o3
  rw [e5]
  by_cases hn : 200 < L.length ∨ 200 < M.length
  · exact law5_long (Q 9) x2 x3 (ar L) (ar M) hv hw (by rw [ar_len, ar_len]; exact hn) rs rg nd
  · have hL : L.length ≤ 200 := by omega
    have hM : M.length ≤ 200 := by omega
    have w1 : ∃ E' c' o', iter (ev (Q 9) 3000 b5_1) [0, 1, 2, 3, 4, 11, 12] [38, 100400, 100600] 3000 ⟨[(0, .int .i64 rs), (1, .int .i64 rg), (2, x2), (3, x3), (4, .int .i64 nd), (11, .nilS), (12, .int .i64 0)], [], 0⟩ = some (.exit 0, ⟨E', H38 o', c'⟩) ∧
        envOnly [0, 1, 2, 3, 11] E' = [(0, .int .i64 rs), (1, .int .i64 rg), (2, x2), (3, x3), (11, O38 o')] ∧ R38 o' = ar (ones nd L) ∧ (∀ g W, o' = some (g, W) → g < c') := by
      by_cases l0 : L = []
      · subst l0
        exact ⟨_, 0, none, loop51_nil (Q 9) x2 x3 (ar M) hv hw rs rg nd, by simp [O38], rfl, fun g W h => by cases h⟩
      · obtain ⟨t, rfl⟩ := hv.ro (fun h => l0 (List.length_eq_zero_iff.1 (by rw [← ar_len L, h]; rfl)))
        have := loop51 (Q 9) _ (q16 8) t L (by omega) rs rg nd x3 (ar M) hw (fun x => at16 8 x nd) L.length 0 3000 0 none (by omega) (by omega) rfl (fun g W h => by cases h)
        rw [List.drop_zero] at this
        exact this
    obtain ⟨E1, c1, o', l1, f1, r1, g1⟩ := w1
    have w2 : ∃ E' c' p' A', iter (ev (Q 9) 3000 b5_0) [0, 1, 2, 3, 11, 13, 14] [38, 52000, 100400, 100600] 3000 ⟨[(0, .int .i64 rs), (1, .int .i64 rg), (2, x2), (3, x3), (11, O38 o'), (13, x2), (14, .int .i64 0)], H38 o', c1⟩ = some (.exit 2, ⟨E', H38 o' ++ H52 p', c'⟩) ∧
        envOnly [0, 1, 2, 11, 13] E' = [(0, .int .i64 rs), (1, .int .i64 rg), (2, x2), (11, O38 o'), (13, O52 x2 p')] ∧ LS 2 (ar A') (L52 x2 p') ∧ (∀ a ∈ L, a ∈ A') ∧ A'.length ≤ 2900 ∧ c1 ≤ c' := by
      by_cases l0 : M = []
      · subst l0
        exact ⟨_, c1, none, L, by rw [show H38 o' ++ H52 none = H38 o' from List.append_nil _]; exact loop50_nil (Q 9) x2 x3 (ar L) hv hw o' c1 rs rg, by simp [O52], hv, fun _ h => h, by omega, Nat.le_refl _⟩
      · obtain ⟨t, rfl⟩ := hw.ro (fun h => l0 (List.length_eq_zero_iff.1 (by rw [← ar_len M, h]; rfl)))
        have := loop50 (Q 9) _ (q10 8) t M (by omega) rs rg x2 L hv hL o' (fun w A a hA hlA => add10 3 w A hA hlA a) M.length 0 3000 c1 none L (by omega) (by omega) hv (fun _ h => h) (by omega) g1
        obtain ⟨E', c', p', A', k1, k2, k3, k4, k5, k6⟩ := this
        refine ⟨E', c', p', A', ?_, k2, k3, k4, k5, k6⟩
        simpa [H52, O52] using k1
    obtain ⟨E2, c2, p', A', l2, f2, hA, hm, hlA, hc⟩ := w2
    have hOnes : LS 2 (ar (ones nd L)) (L38 o') := by
      rcases o' with _ | ⟨g, W⟩
      · exact .inl ⟨rfl, r1.symm⟩
      · simp only [R38] at r1
        subst r1
        exact .inr (.inr ⟨true, rfl⟩)
    have c14a := enough14 8 L x2 hv (by omega) rs rg
    have c14b := enough14 8 A' _ hA hlA rs rg
    have c14c := enough14 8 (ones nd L) _ hOnes (by unfold ones; rw [List.length_map]; omega) rs rg
    rw [enV_ones] at c14c
    exact law5_of (Q 9) _ _ (q13 8) (q14 8) x2 x3 (ar L) (ar M) hv hw (by rw [ar_len]; exact hL) (by rw [ar_len]; exact hM) rs rg nd o' p' E1 E2 c1 c2 (fun g W h => Nat.lt_of_lt_of_le (g1 g W h) hc) (enV rs rg L) (enV rs rg A') (by cases hb : enV rs rg L; exact .inl rfl; exact .inr ⟨rfl, enV_mono hm hb⟩) rows13 c14a c14b c14c l1 f1 l2 f2
theorem ref5 : Refines Go.Proofs.Try.prog 5 (E 10 5) := ref 10 5 (q5 9)
end Go.Abs.Try
