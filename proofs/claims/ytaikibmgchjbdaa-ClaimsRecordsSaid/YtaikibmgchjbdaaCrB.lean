/- Part 2 of Cr: what our evaluation of a function's code says, the machine's run does; no condition of its own. -/
import Derived.Test.YtaikibmgchjbdaaCrA
set_option linter.unusedVariables false
set_option linter.unusedSimpArgs false
set_option linter.unusedSectionVars false
namespace Go.Abs.Try
open Go Go.Abs
set_option maxHeartbeats 16000000
set_option maxRecDepth 100000
set_option linter.unusedSimpArgs false
set_option linter.unusedVariables false
theorem hit_eq {a b : Cl} (h : hit a b.rg b.ep = true) : a.rg = b.rg ∧ a.ep = b.ep := by unfold hit at h; simpa using h
theorem not_there {D : List Cl} (h : Srt D) {x : Cl} {p : Nat} (C : Cut D x p) (ht : there D x p = false) : foundV D x.rg x.ep = .tup [.agg z39, .bool false] := by
  have pw := h.2
  rw [List.pairwise_iff_getElem] at pw
  have : findFrom D x.rg x.ep 0 D.length = none := by
    refine find_none (fun j _ hj => ?_)
    rw [Nat.zero_add] at hj
    cases hh : hit (gC D j) x.rg x.ep
    · rfl
    · exfalso
      by_cases h1 : j < p
      · exact lt_irr (C.lo j h1) hh
      · by_cases h2 : j = p
        · subst h2
          unfold there at ht
          rw [decide_eq_true hj, Bool.true_and, hh] at ht
          cases ht
        · have h3 := pw p j (by omega) hj (by omega)
          rw [← gC_of (by omega : p < D.length), ← gC_of hj] at h3
          have h4 := C.hi p (by omega) (by omega)
          have h5 := hit_eq hh
          rw [lt_iff, h5.1, h5.2, ← lt_iff] at h3
          rw [h3] at h4
          cases h4
  unfold foundV
  rw [this]
theorem is_there {D : List Cl} (h : Srt D) {x : Cl} {p : Nat} (ht : there D x p = true) : p < D.length ∧ foundV D x.rg x.ep = .tup [.agg (cv (gC D p)), .bool true] := by
  unfold there at ht
  rw [Bool.and_eq_true, decide_eq_true_eq] at ht
  refine ⟨ht.1, ?_⟩
  have e := hit_eq ht.2
  have := found_of h (c := gC D p) (by rw [gC_of ht.1]; exact List.getElem_mem _)
  rw [e.1, e.2] at this
  exact this
theorem loop23_nil (Φ : Nat → Option FnF) (v : AV) (hv : LS 36 [] v) (X : List AV) (b : Bool) : iter (ev Φ 3000 b23_0) [0, 3, 8, 9, 10] [3, 54, 61, 67, 100000] 3000 ⟨[(0, v), (3, .ptr 3 0 0), (8, .nilS), (9, .bool b), (10, .int .i64 0)], [⟨3, 0, .var X⟩], 2⟩ =
    some (.exit 0, ⟨[(0, v), (3, .ptr 3 0 0), (8, .nilS), (9, .bool b), (10, .int .i64 0), (35, .int .i64 0), (36, v), (37, .int .i64 0), (38, .bool false)], [⟨3, 0, .var X⟩], 2⟩) := by
  have hl : alen v = some 0 := hv.len
  rw [iter_succ]
  simp -implicitDefEqProofs [b23_0, hl]
theorem record23 (n : Nat) (v : AV) (D : List Cl) (hv : LS 36 (cr D) v) (hD : AW D) (hb : D.length ≤ 2900) (x : Cl) (hx : W32 x) (p : Nat) (C : okL D = true → Cut D x p) : E (n + 4) 23 [v, .agg (cv x)] = some (recV v D x p, []) := by
  rw [e23]
  have c26 := right26 n v D hv hD hb
  have c44 := right44 (n + 1) x hx
  unfold recV
  cases ha : okL D && okC x
  · rw [if_neg (by simp)]
    exact rec23_no (Q (n + 3)) _ _ (q26 (n + 2)) (q44 (n + 2)) v (cr D) hv (cv x) (cv_len hx) (cv_plain _) (okL D) (okC x) ha c26 c44
  · rw [if_pos rfl]
    rw [Bool.and_eq_true] at ha
    have C := C ha.1
    have hs := (okL_iff D).1 ha.1
    rw [ha.1] at c26
    rw [ha.2] at c44
    have c21 := find21 (n + 2) v D hv hD hb x.rg x.ep
    have lz : z39.length = 36 := rfl
    have pz : z39.all AV.plain = true := rfl
    cases ht : there D x p
    · rw [if_neg (by simp)]
      rw [not_there hs C ht] at c21
      rw [← refR_ins x D p C ht]
      by_cases h0 : D = []
      · subst h0
        have := rec23_ok (Q (n + 3)) _ _ _ (q26 (n + 2)) (q44 (n + 2)) (q21 (n + 2)) v [] hv (cv x) z39 x (cf hx) lz pz false c26 c44 c21 (by intro h; cases h) _ _ none (by simp [rows23]) false (by intro h; cases h) (loop23_nil _ v hv _ _) (by simp [out23])
        rw [this]
        rfl
      · obtain ⟨t, rfl⟩ := hv.ro (by simpa [cr] using h0)
        obtain ⟨E', c', gb', nm', e1, e2⟩ := loop23 (n + 2) t D hD hb x hx 0 D.length 0 3000 2 0 true false [] (by omega) (by omega) (by omega) (by simp)
        rw [List.nil_append, List.drop_zero] at e1 e2
        have hr := oC_rows nm' gb' (goC x false D).1
        have := rec23_ok (Q (n + 3)) _ _ _ (q26 (n + 2)) (q44 (n + 2)) (q21 (n + 2)) _ (cr D) hv (cv x) z39 x (cf hx) lz pz false c26 c44 c21 (by intro h; cases h) E' c' (oC nm' gb' (goC x false D).1) (by rw [hr, cr_len]; have := goC_len x D false; omega) (goC x false D).2 (fun hb2 => by
          unfold oC
          rw [if_neg]
          · intro h; cases h
          · intro h
            cases D with
            | nil => exact h0 rfl
            | cons y r => rw [goC] at h; simp at h) e1 e2
        rw [this, hr]
        unfold refR
        rw [cr_app]
        cases (goC x false D).2 <;> rfl
    · rw [if_pos rfl]
      obtain ⟨hp, hf⟩ := is_there hs ht
      rw [hf] at c21
      have h0 : D ≠ [] := by intro e; subst e; simp at hp
      obtain ⟨t, rfl⟩ := hv.ro (by simpa [cr] using h0)
      have w := hD.g hp
      by_cases he : gC D p = x
      · rw [if_pos he]
        obtain ⟨E', c', gb', nm', e1, e2⟩ := loop23 (n + 2) t D hD hb x hx 0 D.length 0 3000 2 0 true true [] (by omega) (by omega) (by omega) (by simp)
        rw [List.nil_append, List.drop_zero, goC_true] at e1 e2
        have hr := oC_rows nm' gb' D
        have := rec23_ok (Q (n + 3)) _ _ _ (q26 (n + 2)) (q44 (n + 2)) (q21 (n + 2)) _ (cr D) hv (cv x) (cv (gC D p)) x (cf hx) (cv_len w) (cv_plain _) true c26 c44 c21 (fun _ => by rw [aeq36 _ _ w hx, he]; simp) E' c' (oC nm' gb' D) (by rw [hr, cr_len]; omega) true (fun _ => by unfold oC; rw [if_neg h0]; intro h; cases h) e1 e2
        rw [this, hr]
        simp
      · rw [if_neg he]
        exact rec23_other (Q (n + 3)) _ _ _ (q26 (n + 2)) (q44 (n + 2)) (q21 (n + 2)) _ (cr D) hv (cv x) (cv (gC D p)) x (cf hx) (cv_len w) (cv_plain _) c26 c44 c21 (by rw [aeq36 _ _ w hx]; simp [he])
def Y7 (Y : List AV) (g1 g2 gb : Nat) (OB : AH) (W : List (List AV)) : AH := [⟨11, g1, .var Y⟩, ⟨13, g2, .var Y⟩] ++ OB ++ [⟨46000, gb, .arr 36 W false⟩]
def Ob (OB : AH) : Prop := OB = [] ∨ ∃ go R, OB = [⟨26000, go, .arr 36 R false⟩]
theorem loop7 (Φ : Nat → Option FnF) (v own e b1 b2 sm : AV) (Y : List AV) (OB : AH) (hO : Ob OB) (g1 g2 gb c : Nat) (len : Nat) (hb : len ≤ 100000) : ∀ (d i k : Nat) (W : List (List AV)), i + d = len → d < k → W.length = len → (∀ r ∈ W, r.length = 36) →
    ∃ E' W', iter (ev Φ 3000 b7_0) [0, 9, 10, 11, 12, 13, 14, 15, 19, 20] [11, 13, 26000, 46000, 100000] k ⟨[(0, v), (9, own), (10, e), (11, .ptr 11 g1 0), (12, b1), (13, .ptr 13 g2 0), (14, b2), (15, .own 46000 gb 0 W.length), (19, sm), (20, .int .i64 i)], Y7 Y g1 g2 gb OB W, c⟩ = some (.exit 0, ⟨E', Y7 Y g1 g2 gb OB W', c⟩) ∧
      envOnly [0, 9, 10, 11, 12, 13, 14, 19] E' = [(0, v), (9, own), (10, e), (11, .ptr 11 g1 0), (12, b1), (13, .ptr 13 g2 0), (14, b2), (19, sm)]
  | d, i, 0, W, hi, hk, hW, hr => by omega
  | 0, i, k + 1, W, hi, hk, hW, hr => by
    obtain rfl : i = len := by omega
    rw [← hW]
    have n1 : ¬ ((W.length : Int) < W.length) := by omega
    refine ⟨[(0, v), (9, own), (10, e), (11, .ptr 11 g1 0), (12, b1), (13, .ptr 13 g2 0), (14, b2), (15, .own 46000 gb 0 W.length), (19, sm), (20, .int .i64 W.length), (62, .int .i64 W.length), (63, .own 46000 gb 0 W.length), (64, .int .i64 W.length), (65, .bool false)], W, ?_, by simp⟩
    rw [iter_succ]
    unfold Y7
    rcases hO with rfl | ⟨go, R, rfl⟩ <;> simp -implicitDefEqProofs [b7_0]
  | d + 1, i, k + 1, W, hi, hk, hW, hr => by
    have hil : i < W.length := by omega
    have g1' : W[i]? = some W[i] := List.getElem?_eq_getElem hil
    have l1 := hr W[i] (List.getElem_mem _)
    obtain ⟨vs, hvs⟩ : ∃ vs : List AV, splice W[i] 2 [AV.int .i64 77] = vs := ⟨_, rfl⟩
    have lv : vs.length = 36 := by rw [← hvs, splice_len (by rw [l1]; decide), l1]
    obtain ⟨E', W', e1, e2⟩ := loop7 Φ v own e b1 b2 sm Y OB hO g1 g2 gb c len hb d (i + 1) k (W.set i vs) (by omega) (by omega) (by rw [List.length_set]; exact hW) (fun r hr' => by
      rcases List.mem_or_eq_of_mem_set hr' with h | h
      · exact hr r h
      · rw [h]; exact lv)
    refine ⟨E', W', ?_, e2⟩
    rw [← e1]
    apply iter_norm
    have i1 : (i : Int) < W.length := by omega
    have w1 : IntKind.i64.wrap ((i : Int) + 1) = ((i + 1 : Nat) : Int) := by rw [wrap_i64 _ (by omega) (by omega)]; omega
    have ls : (W.set i vs).length = W.length := List.length_set
    generalize ((i + 1 : Nat) : Int) = j at *
    generalize W[i] = r at *
    have g1'' := (List.getElem?_eq_some_iff.1 g1').2
    have hvs' : List.take 2 r ++ AV.int IntKind.i64 77 :: List.drop 3 r = vs := by rw [← hvs]; rfl
    unfold Y7
    rw [ls]
    generalize hset : W.set i vs = W2 at *
    rcases hO with rfl | ⟨go, R, rfl⟩ <;>
    simp -implicitDefEqProofs [b7_0, St.keep, i1, hil, g1', g1'', l1, hvs, hvs', lv, w1, hset]
end Go.Abs.Try

namespace Go.Abs.Try
open Go Go.Abs
set_option maxHeartbeats 16000000
set_option maxRecDepth 100000
set_option linter.unusedSimpArgs false
set_option linter.unusedVariables false
theorem law7_long (Φ : Nat → Option FnF) (v : AV) (R : List (List AV)) (hv : LS 36 R v) (hn : 200 < R.length) (X : List AV) (lX : X.length = 36) (pX : X.all AV.plain = true) (rg ep : Int) : evFun Φ 3000 a7 [v, .agg X, .int .i64 rg, .int .i64 ep] = some (.bool true, []) := by
  have hl := hv.len
  have n1 : (200 : Int) < R.length := by omega
  simp -implicitDefEqProofs [a7, c7, hl, n1, hn, hv.cell, hv.val, plains_cells pX, plains_in pX]
theorem law7_of (Φ : Nat → Option FnF) (F18 F19 F20 F21 F22 F23 F24 F25 F26 : CallF) {G18 J18 Y18 G19 J19 Y19 G20 J20 Y20 G21 J21 Y21 G22 J22 Y22 G23 J23 Y23 G24 J24 Y24 G25 J25 Y25 G26 J26 Y26}
    (h18 : Φ 18 = some ⟨F18, G18, J18, Y18⟩) (h19 : Φ 19 = some ⟨F19, G19, J19, Y19⟩) (h20 : Φ 20 = some ⟨F20, G20, J20, Y20⟩) (h21 : Φ 21 = some ⟨F21, G21, J21, Y21⟩) (h22 : Φ 22 = some ⟨F22, G22, J22, Y22⟩) (h23 : Φ 23 = some ⟨F23, G23, J23, Y23⟩) (h24 : Φ 24 = some ⟨F24, G24, J24, Y24⟩) (h25 : Φ 25 = some ⟨F25, G25, J25, Y25⟩) (h26 : Φ 26 = some ⟨F26, G26, J26, Y26⟩)
    (v own w V lv : AV) (R W : List (List AV)) (hv : LS 36 R v) (hn : R.length ≤ 200) (how : (own = .nilS ∧ w = .nilS) ∨ (own = .fr 36 R ∧ w = .ro true 36 R)) (hVw : (V = .nilS ∧ lv = .nilS) ∨ (V = .fr 36 W ∧ lv = .ro true 36 W)) (hW : ∀ r ∈ W, r.length = 36) (hWl : W.length ≤ 2900)
    (X Y : List AV) (lX : X.length = 36) (pX : X.all AV.plain = true) (lY : Y.length = 36) (pY : Y.all AV.plain = true) (hq : aeqCells k36 Y Y = some true) (rg ep : Int) (okl fd : Bool) (e2 : Int)
    (c18 : F18 [v] = some (own, [])) (c19 : F19 [v] = some (.int .i64 (if okl then 0 else 110), [])) (c20 : F20 [v, .int .i64 rg, .int .i64 ep] = some (.tup [.agg Y, .bool fd], [])) (c21 : F21 [w, .int .i64 rg, .int .i64 ep] = some (.tup [.agg Y, .bool fd], []))
    (c22 : F22 [v, .agg X] = some (.tup [V, .int .i64 e2], [])) (c23 : F23 [w, .agg X] = some (.tup [V, .int .i64 e2], [])) (c24 : F24 [lv, lv] = some (.bool true, [])) (c24' : F24 [v, w] = some (.bool true, [])) (c25 : F25 [] = some (.bool true, [])) (c26 : F26 [w] = some (.bool okl, [])) :
    evFun Φ 3000 a7 [v, .agg X, .int .i64 rg, .int .i64 ep] = some (.bool true, []) := by
  have hl := hv.len
  have n1 : ¬ (200 : Int) < R.length := by omega
  have n2 : ¬ 200 < R.length := by omega
  have tX : X.take 36 = X := List.take_of_length_le (by omega)
  have tY : Y.take 36 = Y := List.take_of_length_le (by omega)
  have dY : Y.drop 36 = [] := List.drop_of_length_le (by omega)
  have z1 : z39.length = 36 := rfl
  have zd : z39.drop 36 = [] := rfl
  have pz : z39.all AV.plain = true := rfl
  have tR : R.take R.length = R := List.take_length
  have tW : W.take W.length = W := List.take_length
  rcases how with ⟨rfl, rfl⟩ | ⟨rfl, rfl⟩ <;> rcases hVw with ⟨rfl, rfl⟩ | ⟨rfl, rfl⟩
  · cases okl <;> cases fd <;> simp only [Bool.false_eq_true, ↓reduceIte] at c19 <;>
    simp -implicitDefEqProofs (maxSteps := 5000000) [a7, c7, h18, h19, h20, h21, h22, h23, h24, h25, h26, c18, c19, c20, c21, c22, c23, c24, c24', c25, c26, hl, n1, n2, hq, hv.cell, hv.val, hv.cb, hv.cells1, hv.ld, hv.ldc, hv.mv, hv.low, hv.low1, lX, tX, lY, tY, dY, z1, zd, tR, tW, plains_cells pX, plains_in pX, plains_lend pX, plains_low pX, plains_mv pX, plains_cells pY, plains_in pY, plains_lend pY, plains_low pY, plains_mv pY, plains_cells pz, plains_low pz] <;>
    rw [iter_succ] <;>
    simp -implicitDefEqProofs (maxSteps := 5000000) [b7_0, h18, h19, h20, h21, h22, h23, h24, h25, h26, c24', c25, c26, hl, hq, hv.cell, hv.val, hv.cb, hv.cells1, hv.ld, hv.ldc, hv.mv, hv.low, hv.low1, lY, tY, dY, plains_cells pY, plains_in pY, plains_lend pY, plains_low pY, plains_mv pY]
  · obtain ⟨E', W', e1, e2'⟩ := loop7 Φ v .nilS (.int .i64 (if okl then 0 else 110)) (.bool fd) (.bool fd) (.bool true) Y [] (by exact .inl rfl) 1 2 3 5 W.length (by omega) W.length 0 3000 W (by omega) (by omega) rfl hW
    rw [show ((0 : Nat) : Int) = 0 from rfl] at e1
    simp only [Y7, List.append_nil, List.nil_append, List.cons_append] at e1
    cases okl <;> cases fd <;> simp only [Bool.false_eq_true, ↓reduceIte] at c19 e1 e2' <;>
    simp -implicitDefEqProofs (maxSteps := 5000000) [a7, c7, h18, h19, h20, h21, h22, h23, h24, h25, h26, c18, c19, c20, c21, c22, c23, c24, c24', c25, c26, hl, n1, n2, hq, hv.cell, hv.val, hv.cb, hv.cells1, hv.ld, hv.ldc, hv.mv, hv.low, hv.low1, lX, tX, lY, tY, dY, z1, zd, tR, tW, plains_cells pX, plains_in pX, plains_lend pX, plains_low pX, plains_mv pX, plains_cells pY, plains_in pY, plains_lend pY, plains_low pY, plains_mv pY, plains_cells pz, plains_low pz] <;>
    rw [iter_keep] <;> simp -implicitDefEqProofs <;> rw [e1] <;>
    simp -implicitDefEqProofs (maxSteps := 5000000) [e2', h18, h19, h20, h21, h22, h23, h24, h25, h26, c24', c25, c26, hl, hq, tR, hv.cell, hv.val, hv.cb, hv.cells1, hv.ld, hv.ldc, hv.mv, hv.low, hv.low1, lY, tY, dY, plains_cells pY, plains_in pY, plains_lend pY, plains_low pY, plains_mv pY]
  · cases okl <;> cases fd <;> simp only [Bool.false_eq_true, ↓reduceIte] at c19 <;>
    simp -implicitDefEqProofs (maxSteps := 5000000) [a7, c7, h18, h19, h20, h21, h22, h23, h24, h25, h26, c18, c19, c20, c21, c22, c23, c24, c24', c25, c26, hl, n1, n2, hq, hv.cell, hv.val, hv.cb, hv.cells1, hv.ld, hv.ldc, hv.mv, hv.low, hv.low1, lX, tX, lY, tY, dY, z1, zd, tR, tW, plains_cells pX, plains_in pX, plains_lend pX, plains_low pX, plains_mv pX, plains_cells pY, plains_in pY, plains_lend pY, plains_low pY, plains_mv pY, plains_cells pz, plains_low pz] <;>
    rw [iter_succ] <;>
    simp -implicitDefEqProofs (maxSteps := 5000000) [b7_0, h18, h19, h20, h21, h22, h23, h24, h25, h26, c24', c25, c26, hl, hq, tR, hv.cell, hv.val, hv.cb, hv.cells1, hv.ld, hv.ldc, hv.mv, hv.low, hv.low1, lY, tY, dY, plains_cells pY, plains_in pY, plains_lend pY, plains_low pY, plains_mv pY]
  · obtain ⟨E', W', e1, e2'⟩ := loop7 Φ v (.own 26000 1 0 R.length) (.int .i64 (if okl then 0 else 110)) (.bool fd) (.bool fd) (.bool true) Y [⟨26000, 1, .arr 36 R false⟩] (by exact .inr ⟨_, _, rfl⟩) 2 3 4 6 W.length (by omega) W.length 0 3000 W (by omega) (by omega) rfl hW
    rw [show ((0 : Nat) : Int) = 0 from rfl] at e1
    simp only [Y7, List.append_nil, List.nil_append, List.cons_append] at e1
    cases okl <;> cases fd <;> simp only [Bool.false_eq_true, ↓reduceIte] at c19 e1 e2' <;>
    simp -implicitDefEqProofs (maxSteps := 5000000) [a7, c7, h18, h19, h20, h21, h22, h23, h24, h25, h26, c18, c19, c20, c21, c22, c23, c24, c24', c25, c26, hl, n1, n2, hq, hv.cell, hv.val, hv.cb, hv.cells1, hv.ld, hv.ldc, hv.mv, hv.low, hv.low1, lX, tX, lY, tY, dY, z1, zd, tR, tW, plains_cells pX, plains_in pX, plains_lend pX, plains_low pX, plains_mv pX, plains_cells pY, plains_in pY, plains_lend pY, plains_low pY, plains_mv pY, plains_cells pz, plains_low pz] <;>
    rw [iter_keep] <;> simp -implicitDefEqProofs <;> rw [e1] <;>
    simp -implicitDefEqProofs (maxSteps := 5000000) [e2', h18, h19, h20, h21, h22, h23, h24, h25, h26, c24', c25, c26, hl, hq, tR, hv.cell, hv.val, hv.cb, hv.cells1, hv.ld, hv.ldc, hv.mv, hv.low, hv.low1, lY, tY, dY, plains_cells pY, plains_in pY, plains_lend pY, plains_low pY, plains_mv pY]
end Go.Abs.Try

namespace Go.Abs.Try
open Go Go.Abs
set_option maxHeartbeats 16000000
set_option maxRecDepth 100000
set_option linter.unusedSimpArgs false
set_option linter.unusedVariables false
theorem frC_lent (D : List Cl) : ∃ w, LS 36 (cr D) w ∧ ((frC D = .nilS ∧ w = .nilS) ∨ (frC D = .fr 36 (cr D) ∧ w = .ro true 36 (cr D))) := by
  unfold frC
  by_cases h : D = []
  · subst h; exact ⟨.nilS, .inl ⟨rfl, rfl⟩, .inl ⟨rfl, rfl⟩⟩
  · exact ⟨.ro true 36 (cr D), .inr (.inr ⟨true, rfl⟩), .inr ⟨by rw [if_neg h], rfl⟩⟩
theorem lv_nil (n : Nat) : E (n + 1) 24 [.nilS, .nilS] = some (.bool true, []) := by
  have := same24 n .nilS .nilS [] [] (.inl ⟨rfl, rfl⟩) (.inl ⟨rfl, rfl⟩) (fun c hc => by cases hc) (fun c hc => by cases hc) (by simp)
  simpa using this
theorem lv_fr (n : Nat) (W : List Cl) (hW : AW W) (hn : W.length ≤ 2900) : E (n + 1) 24 [.ro true 36 (cr W), .ro true 36 (cr W)] = some (.bool true, []) := by
  have := same24 n (.ro true 36 (cr W)) (.ro true 36 (cr W)) W W (.inr (.inr ⟨true, rfl⟩)) (.inr (.inr ⟨true, rfl⟩)) hW hW hn
  simpa using this
theorem cr_36 {W : List Cl} (h : AW W) : ∀ r ∈ cr W, r.length = 36 := by
  intro r hr
  obtain ⟨c, hc, rfl⟩ := List.mem_map.1 hr
  exact cv_len (h c hc)
theorem z39_cv : ∃ c : Cl, W32 c ∧ z39 = cv c := ⟨(0, 0, 0, 0, List.replicate 32 0), rfl, rfl⟩
theorem found_cv (D : List Cl) (hD : AW D) (rg ep : Int) : ∃ (c : Cl) (b : Bool), W32 c ∧ foundV D rg ep = .tup [.agg (cv c), .bool b] := by
  unfold foundV
  cases h : findFrom D rg ep 0 D.length with
  | none =>
    obtain ⟨c, h1, h2⟩ := z39_cv
    exact ⟨c, false, h1, by rw [h2]⟩
  | some j => exact ⟨gC D j, true, hD.g (by have := find_lt h; omega), rfl⟩
/-- what Record answers: refused, or a row -/
theorem recV_of (v : AV) (D : List Cl) (hD : AW D) (x : Cl) (hx : W32 x) (p : Nat) : (∃ e, recV v D x p = .tup [.nilS, .int .i64 e]) ∨ (∃ W e, AW W ∧ W.length ≤ D.length + 1 ∧ recV v D x p = .tup [.fr 36 (cr W), .int .i64 e]) := by
  unfold recV
  split
  · split
    · split
      · exact .inr ⟨D, 0, hD, by omega, rfl⟩
      · exact .inl ⟨111, rfl⟩
    · exact .inr ⟨_, 0, hD.ins hx p, by rw [ins_len]; exact Nat.le_refl _, rfl⟩
  · exact .inl ⟨110, rfl⟩
theorem recV_v (v w : AV) (D : List Cl) (x : Cl) (p : Nat) : recV v D x p = recV w D x p := rfl
theorem law7 (x0 x1 x2 x3 : AV) (o0 : okRow [.sl shC] [x0]) (o1 : ∃ cs, x1 = .agg cs ∧ okRow shC cs) (o2 : okRow [.int .i64] [x2]) (o3 : okRow [.int .i64] [x3]) : E 10 7 [x0, x1, x2, x3] = some (.bool true, []) := by
  obtain ⟨D, hD, hv⟩ := ok_list o0
  obtain ⟨cs, rfl, oc⟩ := o1
  obtain ⟨x, hx, rfl⟩ := ok_claim oc
  obtain ⟨rg, _, e, _, _⟩ := o2.int
  obtain ⟨rfl, _⟩ : x2 = .int .i64 rg ∧ _ := by simpa using e
  obtain ⟨ep, _, e, _, _⟩ := o3.int
  obtain ⟨rfl, _⟩ : x3 = .int .i64 ep ∧ _ := by simpa using e
  rw [e7]
  by_cases hn : 200 < D.length
  · exact law7_long (Q 9) x0 (cr D) hv (by rw [cr_len]; exact hn) _ (cv_len hx) (cv_plain _) rg ep
  · obtain ⟨p, C⟩ := cut_of D x
    obtain ⟨w, hw, how⟩ := frC_lent D
    have c18 := own18 8 x0 D hv (by omega)
    have c19 := check19 5 x0 D hv hD (by omega)
    have c20 := find20 6 x0 D hv hD (by omega) rg ep
    have c21 := find21 8 w D hw hD (by omega) rg ep
    obtain ⟨y, fd, hy, hf⟩ := found_cv D hD rg ep
    rw [hf] at c20 c21
    have c22 := record22 4 x0 D hv hD (by omega) x hx p C
    have c23 := record23 5 w D hw hD (by omega) x hx p C
    rw [recV_v w x0] at c23
    have c26 := right26 6 w D hw hD (by omega)
    have c24 := same24 8 x0 w D D hv hw hD hD (by omega)
    rw [decide_eq_true rfl] at c24
    have hq := aeq36 y y hy hy
    rw [decide_eq_true rfl] at hq
    rcases recV_of x0 D hD x hx p with ⟨e, h⟩ | ⟨W, e, hW, hl, h⟩
    · rw [h] at c22 c23
      exact law7_of (Q 9) _ _ _ _ _ _ _ _ _ (q18 8) (q19 8) (q20 8) (q21 8) (q22 8) (q23 8) (q24 8) (q25 8) (q26 8) x0 (frC D) w .nilS .nilS (cr D) [] hv (by rw [cr_len]; omega) how (.inl ⟨rfl, rfl⟩) (fun r hr => by cases hr) (by simp) (cv x) (cv y) (cv_len hx) (cv_plain _) (cv_len hy) (cv_plain _) hq rg ep (okL D) fd e c18 c19 c20 c21 c22 c23 (lv_nil 8) c24 rows25 c26
    · rw [h] at c22 c23
      exact law7_of (Q 9) _ _ _ _ _ _ _ _ _ (q18 8) (q19 8) (q20 8) (q21 8) (q22 8) (q23 8) (q24 8) (q25 8) (q26 8) x0 (frC D) w (.fr 36 (cr W)) (.ro true 36 (cr W)) (cr D) (cr W) hv (by rw [cr_len]; omega) how (.inr ⟨rfl, rfl⟩) (cr_36 hW) (by rw [cr_len]; omega) (cv x) (cv y) (cv_len hx) (cv_plain _) (cv_len hy) (cv_plain _) hq rg ep (okL D) fd e c18 c19 c20 c21 c22 c23 (lv_fr 8 W hW (by omega)) c24 rows25 c26
theorem ref7 : Refines Go.Proofs.Try.prog 7 (E 10 7) := ref 10 7 (q7 9)
end Go.Abs.Try
