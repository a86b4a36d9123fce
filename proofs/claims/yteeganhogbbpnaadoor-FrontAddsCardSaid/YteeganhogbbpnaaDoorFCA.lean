/- Part 1 of FC: what our evaluation of a function's code says, the machine's run does; no condition of its own. -/
import Derived.Test.YteeganhogbbpnaaDoorFBB
set_option linter.unusedVariables false
set_option linter.unusedSimpArgs false
set_option linter.unusedSectionVars false
namespace Go.Abs.Tryd
open Go Go.Abs Go.Abs.Sha
set_option maxHeartbeats 16000000
set_option maxRecDepth 100000
set_option linter.unusedSimpArgs false
set_option linter.unusedVariables false
/-- the memory of the law: the answer's front, and the peaks' copy -/
def H5 (OB : AH) (g gb : Nat) (s1 : Int) (W : List (List AV)) : AH := [⟨8, g, .var [.int .i64 s1, .own 23001 gb 0 W.length]⟩] ++ OB ++ [⟨23001, gb, .arr 32 W false⟩]
def Ob (OB : AH) : Prop := OB = [] ∨ ∃ go R, OB = [⟨17000, go, .arr 32 R false⟩]
def Ob.lp (OB : AH) : Prop := Ob OB
theorem loop5 (Φ : Nat → Option FnF) (v own : AV) (OB : AH) (hO : Ob OB) (g gb c : Nat) (s1 : Int) (len : Nat) (hb : len ≤ 100000) : ∀ (d i k : Nat) (W : List (List AV)), i + d = len → d < k → W.length = len → (∀ r ∈ W, r.length = 32) →
    ∃ E' W', iter (ev Φ 3000 b5_0) [1, 7, 8, 10, 11] [8, 17000, 23001, 100200] k ⟨[(1, v), (7, own), (8, .ptr 8 g 0), (10, .bool true), (11, .int .i64 i)], H5 OB g gb s1 W, c⟩ = some (.exit 0, ⟨E', H5 OB g gb s1 W', c⟩) ∧ envOnly [1, 7, 10] E' = [(1, v), (7, own), (10, .bool true)]
  | d, i, 0, W, hi, hk, hW, hr => by omega
  | 0, i, k + 1, W, hi, hk, hW, hr => by
    obtain rfl : i = len := by omega
    rw [← hW]
    have n1 : ¬ ((W.length : Int) < W.length) := by omega
    refine ⟨[(1, v), (7, own), (8, .ptr 8 g 0), (10, .bool true), (11, .int .i64 W.length), (81, .int .i64 W.length), (82, .ptr 8 g 1), (83, .own 23001 gb 0 W.length), (84, .int .i64 W.length), (85, .bool false)], W, ?_, by simp⟩
    rw [iter_succ]
    unfold H5
    rcases hO with rfl | ⟨go, R, rfl⟩ <;> simp -implicitDefEqProofs [b5_0]
  | d + 1, i, k + 1, W, hi, hk, hW, hr => by
    have hil : i < W.length := by omega
    have g1 : W[i]? = some W[i] := List.getElem?_eq_getElem hil
    have l1 := hr W[i] (List.getElem_mem _)
    obtain ⟨vs, hvs⟩ : ∃ vs : List AV, AV.int .u8 77 :: z29.tail = vs := ⟨_, rfl⟩
    have lv : vs.length = 32 := by rw [← hvs]; rfl
    have pv : vs.all AV.plain = true := by rw [← hvs]; rfl
    have hs : splice W[i] 0 vs = vs := by
      unfold splice; rw [List.take_zero, List.nil_append, lv, List.drop_of_length_le (by omega), List.append_nil]
    obtain ⟨E', W', e1, e2⟩ := loop5 Φ v own OB hO g gb c s1 len hb d (i + 1) k (W.set i vs) (by omega) (by omega) (by rw [List.length_set]; exact hW) (fun r hr' => by
      rcases List.mem_or_eq_of_mem_set hr' with h | h
      · exact hr r h
      · rw [h]; exact lv)
    refine ⟨E', W', ?_, e2⟩
    rw [← e1]
    apply iter_norm
    have i1 : (i : Int) < W.length := by omega
    have w1 : IntKind.i64.wrap ((i : Int) + 1) = ((i + 1 : Nat) : Int) := by rw [wrap_i64 _ (by omega) (by omega)]; omega
    have z1 : z29.length = 32 := rfl
    have ls : (W.set i vs).length = W.length := List.length_set
    generalize ((i + 1 : Nat) : Int) = j at *
    generalize W[i] = r at *
    have g1' := (List.getElem?_eq_some_iff.1 g1).2
    have ld : r.drop 32 = [] := List.drop_of_length_le (by omega)
    unfold H5
    rw [ls]
    generalize hset : W.set i vs = W2 at *
    rcases hO with rfl | ⟨go, R, rfl⟩ <;>
    simp -implicitDefEqProofs [b5_0, St.keep, i1, hil, g1, g1', l1, ld, hvs, lv, hs, w1, z1, hset, plains_fz pv]
theorem law5_long (Φ : Nat → Option FnF) (s : Int) (v : AV) (P : List Dg) (hv : LD P v) (hn : 200 < P.length) (leaf : List AV) (lp : leaf.all AV.plain = true) : evFun Φ 3000 a5 [.int .i64 s, v, .agg leaf] = some (.bool true, []) := by
  have hl := hv.len
  have n1 : (200 : Int) < P.length := by omega
  simp -implicitDefEqProofs [a5, c5, hl, n1, hn, hv.cell, hv.val, plains_in lp, plains_cells lp]
/-- refused -/
theorem law5_no (Φ : Nat → Option FnF) (F8 F11 F13 F17 : CallF) {G8 J8 Y8 G11 J11 Y11 G13 J13 Y13 G17 J17 Y17} (h8 : Φ 8 = some ⟨F8, G8, J8, Y8⟩) (h11 : Φ 11 = some ⟨F11, G11, J11, Y11⟩) (h13 : Φ 13 = some ⟨F13, G13, J13, Y13⟩) (h17 : Φ 17 = some ⟨F17, G17, J17, Y17⟩)
    (s : Int) (v own w : AV) (P : List Dg) (hv : LD P v) (hn : P.length ≤ 200) (R : List (List AV)) (how : (own = .nilS ∧ w = .nilS) ∨ (own = .fr 32 R ∧ w = .ro true 32 R)) (leaf : List AV) (ll : leaf.length = 32) (lp : leaf.all AV.plain = true) (ok : Bool)
    (hs : ok = true → s = 100000) (c8 : F8 [v] = some (own, [])) (c11 : F11 [.int .i64 s, w] = some (.bool ok, [])) (c17 : F17 [.agg [.int .i64 s, v], .agg leaf] = some (.tup [.agg [.int .i64 0, .nilS], .int .i64 (if ok then 2 else 30)], [])) (c13 : F13 [] = some (.bool true, [])) :
    evFun Φ 3000 a5 [.int .i64 s, v, .agg leaf] = some (.bool true, []) := by
  have hl := hv.len
  have n1 : ¬ (200 : Int) < P.length := by omega
  have tk : R.take R.length = R := List.take_length
  have lt : leaf.take 32 = leaf := List.take_of_length_le (by omega)
  rcases how with ⟨rfl, rfl⟩ | ⟨rfl, rfl⟩ <;> cases ok <;> (try (obtain rfl := hs rfl)) <;> simp only [Bool.false_eq_true, if_false, ↓reduceIte] at c17 <;>
  simp -implicitDefEqProofs [a5, c5, h8, h11, h13, h17, c8, c11, c13, c17, hl, n1, tk, lt, ll, z25, hv.cell, hv.val, hv.cb, hv.cells1, hv.ld, hv.ldc, hv.mv, plains_cells lp, plains_in lp, plains_lend lp]
end Go.Abs.Tryd

namespace Go.Abs.Tryd
open Go Go.Abs Go.Abs.Sha
set_option maxHeartbeats 16000000
set_option maxRecDepth 100000
set_option linter.unusedSimpArgs false
set_option linter.unusedVariables false
theorem law5_ok (Φ : Nat → Option FnF) (F8 F11 F13 F14 F17 F18 : CallF) {G8 J8 Y8 G11 J11 Y11 G13 J13 Y13 G14 J14 Y14 G17 J17 Y17 G18 J18 Y18} (h8 : Φ 8 = some ⟨F8, G8, J8, Y8⟩) (h11 : Φ 11 = some ⟨F11, G11, J11, Y11⟩) (h13 : Φ 13 = some ⟨F13, G13, J13, Y13⟩) (h14 : Φ 14 = some ⟨F14, G14, J14, Y14⟩) (h17 : Φ 17 = some ⟨F17, G17, J17, Y17⟩) (h18 : Φ 18 = some ⟨F18, G18, J18, Y18⟩)
    (s s1 : Int) (v own w : AV) (P : List Dg) (hv : LD P v) (hn : P.length ≤ 200) (R : List (List AV)) (how : (own = .nilS ∧ w = .nilS) ∨ (own = .fr 32 R ∧ w = .ro true 32 R)) (leaf : List AV) (ll : leaf.length = 32) (lp : leaf.all AV.plain = true) (W : List (List AV)) (hW : ∀ r ∈ W, r.length = 32) (hWl : W.length ≤ 1000)
    (hs : (s == 100000) = false) (w1 : IntKind.i64.wrap (s + 1) = s1) (c8 : F8 [v] = some (own, [])) (c11 : F11 [.int .i64 s, w] = some (.bool true, [])) (c17 : F17 [.agg [.int .i64 s, v], .agg leaf] = some (.tup [.agg [.int .i64 s1, .fr 32 W], .int .i64 0], [])) (c13 : F13 [] = some (.bool true, []))
    (c18 : F18 [.int .i64 s, w, .agg leaf] = some (.fr 32 W, [])) (c14 : F14 [.ro true 32 W, .ro true 32 W] = some (.bool true, [])) (c14' : F14 [v, w] = some (.bool true, [])) :
    evFun Φ 3000 a5 [.int .i64 s, v, .agg leaf] = some (.bool true, []) := by
  have hl := hv.len
  have n1 : ¬ (200 : Int) < P.length := by omega
  have n2 : ¬ s = 100000 := by simpa using hs
  have tk : R.take R.length = R := List.take_length
  have tw : W.take W.length = W := List.take_length
  have lt : leaf.take 32 = leaf := List.take_of_length_le (by omega)
  rcases how with ⟨rfl, rfl⟩ | ⟨rfl, rfl⟩
  · obtain ⟨E', W', e1, e2⟩ := loop5 Φ v .nilS [] (.inl rfl) 2 1 4 s1 W.length (by omega) W.length 0 3000 W (by omega) (by omega) rfl hW
    rw [show ((0 : Nat) : Int) = 0 from rfl] at e1
    simp only [H5, List.append_nil, List.nil_append, List.cons_append] at e1
    simp -implicitDefEqProofs [a5, c5, h8, h11, h13, h14, h17, h18, c8, c11, c13, c14, c14', c17, c18, hl, n1, n2, hs, w1, tk, tw, lt, ll, z25, hv.cell, hv.val, hv.cb, hv.cells1, hv.ld, hv.ldc, hv.mv, plains_cells lp, plains_in lp, plains_lend lp, plains_low lp]
    rw [e1]
    simp -implicitDefEqProofs [e2, h13, h14, c13, c14', hv.ld, hv.ldc, hv.mv]
  · obtain ⟨E', W', e1, e2⟩ := loop5 Φ v (.own 17000 1 0 R.length) [⟨17000, 1, .arr 32 R false⟩] (.inr ⟨_, _, rfl⟩) 3 2 5 s1 W.length (by omega) W.length 0 3000 W (by omega) (by omega) rfl hW
    rw [show ((0 : Nat) : Int) = 0 from rfl] at e1
    simp only [H5, List.nil_append, List.cons_append] at e1
    simp -implicitDefEqProofs [a5, c5, h8, h11, h13, h14, h17, h18, c8, c11, c13, c14, c14', c17, c18, hl, n1, n2, hs, w1, tk, tw, lt, ll, z25, hv.cell, hv.val, hv.cb, hv.cells1, hv.ld, hv.ldc, hv.mv, plains_cells lp, plains_in lp, plains_lend lp, plains_low lp]
    rw [e1]
    simp -implicitDefEqProofs [e2, h13, h14, c13, c14', hv.ld, hv.ldc, hv.mv, tk]
theorem law5 (x0 x1 x2 : AV) (o0 : okRow [.int .i64] [x0]) (o1 : okRow [.sl (List.replicate 32 (.int .u8))] [x1]) (o2 : ∃ cs, x2 = .agg cs ∧ okRow (List.replicate 32 (.int .u8)) cs) : E 10 5 [x0, x1, x2] = some (.bool true, []) := by
  obtain ⟨s, _, e, _, _⟩ := o0.int
  obtain ⟨rfl, _⟩ : x0 = .int .i64 s ∧ _ := by simpa using e
  obtain ⟨P, hP, hv, _⟩ := ok_peaks o1
  obtain ⟨cs, rfl, oc⟩ := o2
  obtain ⟨leaf, h32, rfl⟩ := ok_dg oc
  have ll := u8s_len leaf
  rw [h32] at ll
  rw [e5]
  by_cases hn : 200 < P.length
  · exact law5_long (Q 9) s x1 P hv hn _ (u8s_plain _)
  · have hn' : P.length ≤ 200 := by omega
    obtain ⟨w, hw, how⟩ := frD_lent P
    have c8 := own8 8 x1 P hv (by omega)
    have c11 := right11 7 s w P hw (by omega)
    have c17 := front17 1 s x1 P hv hP (by omega) leaf h32
    have c13 := rows13 0
    by_cases hgo : okF s P.length = true ∧ s ≠ 100000
    · obtain ⟨hok, hne⟩ := hgo
      rw [hok] at c11
      have eF : addF s P leaf = .tup [.agg [.int .i64 ((s.toNat + 1 : Nat) : Int), .fr 32 (dr (addL s.toNat leaf P))], .int .i64 0] := by
        unfold addF; rw [if_pos hok, if_neg hne]
      rw [eF] at c17
      obtain ⟨t, rfl, ht, hpop⟩ := okF_spec hok
      rw [Int.toNat_natCast] at c17
      have hA := addL_32 (s := t) hP h32
      have hAl := addL_len (leaf := leaf) hpop
      have hpl := pop_le 17 (t + 1) (by omega)
      have c18 := add18 3 t ht w P hP hw hpop leaf h32 (by omega)
      have c14 := digests14 8 (.ro true 32 (dr (addL t leaf P))) (.ro true 32 (dr (addL t leaf P))) _ _ hA hA (.inr (.inr ⟨true, rfl⟩)) (.inr (.inr ⟨true, rfl⟩)) (by omega)
      rw [decide_eq_true rfl] at c14
      have c14' := digests14 8 x1 w P P hP hP hv hw (by omega)
      rw [decide_eq_true rfl] at c14'
      exact law5_ok (Q 9) _ _ _ _ _ _ (q8 8) (q11 8) (q13 8) (q14 8) (q17 8) (q18 8) t _ x1 (frD P) w P hv hn' (dr P) how _ ll (u8s_plain _) (dr (addL t leaf P)) (fun r hr => by
        obtain ⟨d, hd, rfl⟩ := List.mem_map.1 hr
        rw [u8s_len]; exact hA d hd) (by rw [dr_len]; omega) (by simpa using hne) (by rw [wrap_i64 _ (by omega) (by omega)]; omega) c8 c11 c17 c13 c18 c14 c14'
    · have e17 : addF s P leaf = .tup [.agg [.int .i64 0, .nilS], .int .i64 (if okF s P.length then 2 else 30)] := by
        unfold addF
        cases hok : okF s P.length
        · rfl
        · have : s = 100000 := by
            by_cases h : s = 100000
            · exact h
            · exact absurd ⟨hok, h⟩ hgo
          rw [if_pos rfl, if_pos this, if_pos rfl]
      rw [e17] at c17
      exact law5_no (Q 9) _ _ _ _ (q8 8) (q11 8) (q13 8) (q17 8) s x1 (frD P) w P hv hn' (dr P) how _ ll (u8s_plain _) (okF s P.length) (fun hok => by
        by_cases h : s = 100000
        · exact h
        · exact absurd ⟨hok, h⟩ hgo) c8 c11 c17 c13
theorem ref5 : Refines Go.Proofs.Tryd.prog 5 (E 10 5) := ref 10 5 (q5 9)
end Go.Abs.Tryd
