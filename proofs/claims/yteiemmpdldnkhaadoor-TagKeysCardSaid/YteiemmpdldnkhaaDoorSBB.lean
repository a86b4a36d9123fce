/- Part 2 of SB: what our evaluation of a function's code says, the machine's run does; no condition of its own. -/
import Derived.Test.YteiemmpdldnkhaaDoorSBA
set_option linter.unusedVariables false
set_option linter.unusedSimpArgs false
set_option linter.unusedSectionVars false
namespace Go.Abs.Tryd
open Go Go.Abs Go.Proofs Go.Abs.Sha
set_option maxHeartbeats 64000000
set_option maxRecDepth 100000
set_option linter.unusedSimpArgs false
set_option linter.unusedVariables false
/-- bytes in a slice of the call's own -/
inductive R22 (c : Nat) : AV → List UInt8 → AH → Prop
  | nil : R22 c .nilS [] []
  | own (l : List UInt8) (g : Nat) (hg : g < c) : R22 c (.own 22 g 0 l.length) l [⟨22, g, .arr 1 (byteRows l) false⟩]
theorem step23b (Φ : Nat → Option FnF) (K : Nat) (key : List UInt8) (hk : key.length = 32) (by' : UInt8) (g2 c k i : Nat) (hi : i < 64) (v : AV) (P : List UInt8) (h : AH) (R : R22 c v P h) (hP : P.length ≤ 100) :
    ∃ v' h' c', iter (ev Φ K b23_0) [1, 2, 4, 5, 6] [2, 22] (k + 1) ⟨[(1, .int .u8 by'.toNat), (2, .ptr 2 g2 0), (4, .str ⟨#[]⟩), (5, v), (6, .int .i64 i)], ⟨2, g2, .var (u8s key)⟩ :: h, c⟩ =
    iter (ev Φ K b23_0) [1, 2, 4, 5, 6] [2, 22] k ⟨[(1, .int .u8 by'.toNat), (2, .ptr 2 g2 0), (4, .str ⟨#[]⟩), (5, v'), (6, .int .i64 (i + 1 : Nat))], ⟨2, g2, .var (u8s key)⟩ :: h', c'⟩ ∧ R22 c' v' (P ++ [kk key i ^^^ by']) h' := by
  have h1 : (i : Int) < 64 := by omega
  have w1 : IntKind.i64.wrap ((i : Int) + 1) = (i : Int) + 1 := wrap_i64 _ (by omega) (by omega)
  have bx := b_xor (kk key i) by'
  have bx0 : i ≥ 32 → kk key i = 0 := fun h => by unfold kk; rw [if_neg (by omega)]
  have dl : (u8s key).length = 32 := by rw [u8s_len, hk]
  have e1 : (byteRows P).length = P.length := rows_len P
  have e2 : (byteRows P).take P.length = byteRows P := List.take_of_length_le (by omega)
  have e3 : P.length + 1 ≤ 17592186044416 := by omega
  have e4 : P.length ≤ 17592186044415 := by omega
  have e5 : ¬ P.length + 1 ≤ P.length := by omega
  have ea : byteRows (P ++ [kk key i ^^^ by']) = byteRows P ++ [[AV.int .u8 (((kk key i ^^^ by').toNat : Nat) : Int)]] := by simp [byteRows]
  by_cases h32 : i < 32
  · have h2 : (i : Int) < 32 := by omega
    have a0 : (u8s key)[i]? = some (.int .u8 (kk key i).toNat) := by
      rw [u8s_at (by omega)]; unfold kk; rw [if_pos h32]
    have b0 := (List.getElem?_eq_some_iff.1 a0).2
    cases R with
    | nil =>
      refine ⟨.own 22 (c + 1) 0 1, [⟨22, c + 1, .arr 1 (byteRows ([] ++ [kk key i ^^^ by'])) false⟩], c + 2, ?_, .own [kk key i ^^^ by'] (c + 1) (by omega)⟩
      rw [ea]
      generalize (kk key i ^^^ by').toNat = r at *
      generalize (kk key i).toNat = x at *
      apply iter_norm
      simp -implicitDefEqProofs [b23_0, St.keep, h1, h2, h32, w1, a0, b0, dl, bx, aappend, maxBytes, abin]
      all_goals simp [byteRows]
    | own _ g hg =>
      refine ⟨.own 22 (c + 1) 0 (P ++ [kk key i ^^^ by']).length, [⟨22, c + 1, .arr 1 (byteRows (P ++ [kk key i ^^^ by'])) false⟩], c + 2, ?_, .own _ (c + 1) (by omega)⟩
      rw [ea]
      generalize (kk key i ^^^ by') = rr at *
      generalize rr.toNat = r at *
      generalize (kk key i).toNat = x at *
      apply iter_norm
      simp -implicitDefEqProofs [b23_0, St.keep, h1, h2, h32, w1, a0, b0, dl, bx, aappend, maxBytes, abin, e1, e2, e3, e4, e5]
  · have h2 : ¬ (i : Int) < 32 := by omega
    rw [bx0 (by omega)] at bx ea ⊢
    have bx' : abits .xor .u8 0 (by'.toNat : Int) = some (.int .u8 (((0 ^^^ by' : UInt8).toNat : Nat) : Int)) := bx
    cases R with
    | nil =>
      refine ⟨.own 22 (c + 1) 0 1, [⟨22, c + 1, .arr 1 (byteRows ([] ++ [0 ^^^ by'])) false⟩], c + 2, ?_, .own [0 ^^^ by'] (c + 1) (by omega)⟩
      rw [ea]
      generalize (0 ^^^ by' : UInt8).toNat = r at *
      apply iter_norm
      simp -implicitDefEqProofs [b23_0, St.keep, h1, h2, h32, w1, dl, bx', aappend, maxBytes, abin]
      all_goals simp [byteRows]
    | own _ g hg =>
      refine ⟨.own 22 (c + 1) 0 (P ++ [0 ^^^ by']).length, [⟨22, c + 1, .arr 1 (byteRows (P ++ [0 ^^^ by'])) false⟩], c + 2, ?_, .own _ (c + 1) (by omega)⟩
      rw [ea]
      generalize (0 ^^^ by' : UInt8) = rr at *
      generalize rr.toNat = r at *
      apply iter_norm
      simp -implicitDefEqProofs [b23_0, St.keep, h1, h2, h32, w1, dl, bx', aappend, maxBytes, abin, e1, e2, e3, e4, e5]
theorem tb_take (key : List UInt8) (by' : UInt8) (i : Nat) (h : i < 64) : (tb key by').take (i + 1) = (tb key by').take i ++ [kk key i ^^^ by'] := by
  rw [List.take_add_one, List.getElem?_eq_getElem (by rw [tb_len]; omega)]
  simp [tb, bs]
theorem loop23b (Φ : Nat → Option FnF) (K : Nat) (key : List UInt8) (hk : key.length = 32) (by' : UInt8) (g2 : Nat) : ∀ (d i k c : Nat) (v : AV) (h : AH), i + d = 64 → d < k → R22 c v ((tb key by').take i) h →
    ∃ v' h' c', iter (ev Φ K b23_0) [1, 2, 4, 5, 6] [2, 22] k ⟨[(1, .int .u8 by'.toNat), (2, .ptr 2 g2 0), (4, .str ⟨#[]⟩), (5, v), (6, .int .i64 i)], ⟨2, g2, .var (u8s key)⟩ :: h, c⟩ =
      some (.exit 0, ⟨[(1, .int .u8 by'.toNat), (2, .ptr 2 g2 0), (4, .str ⟨#[]⟩), (5, v'), (6, .int .i64 64), (8, .int .i64 64), (9, .bool false)], ⟨2, g2, .var (u8s key)⟩ :: h', c'⟩) ∧ R22 c' v' (tb key by') h'
  | 0, i, 0, c, v, h, hi, hk', R => by omega
  | 0, i, k + 1, c, v, h, hi, hk', R => by
    obtain rfl : i = 64 := by omega
    rw [List.take_of_length_le (by rw [tb_len]; omega)] at R
    refine ⟨v, h, c, ?_, R⟩
    rw [iter_succ]
    generalize tb key by' = T at *
    cases R <;> simp -implicitDefEqProofs [b23_0, abin]
  | d + 1, i, 0, c, v, h, hi, hk', R => by omega
  | d + 1, i, k + 1, c, v, h, hi, hk', R => by
    obtain ⟨v1, h1, c1, e1, R1⟩ := step23b Φ K key hk by' g2 c k i (by omega) v _ h R (by rw [List.length_take, tb_len]; omega)
    rw [e1]
    exact loop23b Φ K key hk by' g2 d (i + 1) k c1 v1 h1 (by omega) (by omega) (by rw [tb_take _ _ _ (by omega)]; exact R1)
theorem block23t (n : Nat) (key : List UInt8) (hk : key.length = 32) (by' : UInt8) : E (n + 1) 23 [.agg (u8s key), .int .u8 by'.toNat] = some (.str ⟨(tb key by').toArray⟩, []) := by
  rw [e23]
  obtain ⟨v, h, c, lb, R⟩ := loop23b (Q n) 3000 key hk by' 0 64 0 3000 1 .nilS [] (by omega) (by omega) .nil
  have pk := u8s_plain key
  have tr := toBytes_rows (tb key by')
  have rl := rows_len (tb key by')
  have tk : (byteRows (tb key by')).take (tb key by').length = byteRows (tb key by') := List.take_of_length_le (by omega)
  have t0 : tb key by' ≠ [] := by intro h; have := tb_len key by'; rw [h] at this; simp at this
  generalize tb key by' = T at *
  generalize u8s key = C at *
  generalize by'.toNat = y at *
  have hb : ∃ e h c, ev (Q n) 3000 a23.code ⟨[(0, .agg C), (1, .int .u8 y)], [], 0⟩ = some (.ret, ⟨(4, .str ⟨T.toArray⟩) :: e, h, c⟩) := by
    rw [show a23.code = Tryd.c23 from rfl, Tryd.c23]
    cases R with
    | nil => exact absurd rfl t0
    | own _ g hg =>
    refine ⟨[(5, .own 22 g 0 T.length), (23, .own 22 g 0 T.length), (24, .str ⟨T.toArray⟩)], [⟨22, g, .arr 1 (byteRows T) false⟩], c, ?_⟩
    refine ev_seqN (s1 := ⟨[(0, .agg C), (1, .int .u8 y), (2, .ptr 2 0 0), (4, .str ⟨#[]⟩)], [⟨2, 0, .var C⟩], 1⟩) (by simp [plains_cells pk]) ?_
    refine ev_seqN (s1 := ⟨[(0, .agg C), (1, .int .u8 y), (2, .ptr 2 0 0), (4, .str ⟨#[]⟩), (5, .nilS)], [⟨2, 0, .var C⟩], 1⟩) (by simp) ?_
    refine ev_seqN (ev_loopN (by simp [St.keep]) lb) ?_
    refine ev_keepN ?_
    simp -implicitDefEqProofs [tr, rl, tk]
  obtain ⟨e, h, c, hb⟩ := hb
  refine fun_of (q := ([.agg C, .int .u8 y], [], 0)) (by simp [a23]) (by simp [plains_in pk]) hb (.inr rfl) ?_
  simp -implicitDefEqProofs [a23]
end Go.Abs.Tryd

namespace Go.Abs.Tryd
open Go Go.Abs Go.Proofs Go.Abs.Sha
set_option maxHeartbeats 64000000
set_option maxRecDepth 100000
set_option linter.unusedSimpArgs false
set_option linter.unusedVariables false
def mac (key data : List UInt8) : List UInt8 := sha (tb key 92 ++ sha (tb key 54 ++ data))
theorem mac_len (key data) : (mac key data).length = 32 := sha_len _
theorem z25_len : z25.length = 32 := rfl
theorem z25_drop : z25.drop 32 = [] := rfl
theorem z23_len : z23.length = 32 := rfl
theorem z23_drop : z23.drop 32 = [] := rfl
theorem z23_plain : z23.all AV.plain = true := by kernel_rfl
theorem z23_u8s : z23 = u8s (List.replicate 32 0) := by kernel_rfl
theorem mac10_of (Φ : Nat → Option FnF) (K : Nat) (F21 F8 : CallF) (G21 G8 : InlF) (h21 : Φ 21 = some ⟨F21, G21⟩) (h8 : Φ 8 = some ⟨F8, G8⟩) (C : List AV) (pk : C.all AV.plain = true) (kl : C.length = 32) (s B1 B2 : ByteArray) (d : List UInt8) (hd : d.length = 32) (R : List AV) (pr : R.all AV.plain = true) (lr : R.length = 32)
    (c1 : F21 [.agg C, .int .u8 54] = some (.str B1, [])) (c2 : F21 [.agg C, .int .u8 92] = some (.str B2, []))
    (o1 : F8 [.ro true 1 [[.str B1], [.str s]]] = some (.agg (u8s d), [])) (o2 : F8 [.ro true 1 [[.str B2], [.str ⟨d.toArray⟩]]] = some (.agg R, [])) :
    evFun Φ K a10 [.agg C, .str s] = some (.agg R, []) := by
  have kt : C.take 32 = C := List.take_of_length_le (by omega)
  have pd := u8s_plain d
  have dl : (u8s d).length = 32 := by rw [u8s_len, hd]
  have dt : (u8s d).take 32 = u8s d := List.take_of_length_le (by omega)
  have dm := u8s_map d
  have dr := toBytes_rows d
  have rt : R.take 32 = R := List.take_of_length_le (by omega)
  generalize u8s d = D at *
  simp -implicitDefEqProofs [a10, Tryd.c10, h21, h8, c1, c2, o1, o2, kl, kt, dl, dt, dm, dr, lr, rt, pd, plains_cells pk, plains_in pk, plains_low pk, plains_lend pk, plains_cells pd, plains_in pd, plains_low pd, plains_cells pr, plains_in pr, plains_low pr, plains_mv pr, z25_len, z25_drop]
theorem mac10 (n : Nat) (key data : List UInt8) (hk : key.length = 32) (hd : data.length ≤ 90000) : E (n + 6) 10 [.agg (u8s key), .str ⟨data.toArray⟩] = some (.agg (u8s (mac key data)), []) := by
  rw [e10]
  exact mac10_of _ _ _ _ _ _ (q21 (n + 4)) (q8 (n + 4)) _ (u8s_plain _) (by rw [u8s_len, hk]) _ _ _ (sha (tb key 54 ++ data)) (sha_len _) _ (u8s_plain _) (by rw [u8s_len, mac_len])
    (block21t (n + 4) key hk 54) (block21t (n + 4) key hk 92)
    (of10' n (.ro true 1 (strRows [tb key 54, data])) [tb key 54, data] (tb key 54 ++ data) (.ro true _) (by simp) (by simp) (by simp [tb_len]; omega))
    (of10' n (.ro true 1 (strRows [tb key 92, sha (tb key 54 ++ data)])) [tb key 92, sha (tb key 54 ++ data)] (tb key 92 ++ sha (tb key 54 ++ data)) (.ro true _) (by simp) (by simp) (by simp [tb_len, sha_len]))
theorem text24 (n : Nat) (a : List UInt8) (ha : a.length = 32) : E (n + 1) 24 [.agg (u8s a)] = some (.str ⟨a.toArray⟩, []) := by
  rw [e24]
  have pa := u8s_plain a
  have la : (u8s a).length = 32 := by rw [u8s_len, ha]
  have ta : (u8s a).take 32 = u8s a := List.take_of_length_le (by omega)
  have ma := u8s_map a
  have ra := toBytes_rows a
  simp -implicitDefEqProofs [a24, Tryd.c24, plains_cells pa, plains_in pa, la, ta, ma, ra, pa]
theorem mac11_of (Φ : Nat → Option FnF) (K : Nat) (F23 F22 F24 : CallF) (G23 G22 G24 : InlF) (h23 : Φ 23 = some ⟨F23, G23⟩) (h22 : Φ 22 = some ⟨F22, G22⟩) (h24 : Φ 24 = some ⟨F24, G24⟩) (C : List AV) (pk : C.all AV.plain = true) (kl : C.length = 32) (s B1 B2 S1 S2 T : ByteArray) (D : List AV) (pd : D.all AV.plain = true) (dl : D.length = 32) (R : List AV) (pr : R.all AV.plain = true) (lr : R.length = 32)
    (c1 : F23 [.agg C, .int .u8 54] = some (.str B1, [])) (c2 : F23 [.agg C, .int .u8 92] = some (.str B2, []))
    (a1 : astr .add B1 s = some (.str S1)) (a2 : astr .add B2 T = some (.str S2)) (t1 : F24 [.agg D] = some (.str T, []))
    (o1 : F22 [.str S1] = some (.agg D, [])) (o2 : F22 [.str S2] = some (.agg R, [])) :
    evFun Φ K a11 [.agg C, .str s] = some (.agg R, []) := by
  have kt : C.take 32 = C := List.take_of_length_le (by omega)
  have dt : D.take 32 = D := List.take_of_length_le (by omega)
  have rt : R.take 32 = R := List.take_of_length_le (by omega)
  simp -implicitDefEqProofs [a11, Tryd.c11, h23, h22, h24, c1, c2, a1, a2, t1, o1, o2, kl, kt, dl, dt, lr, rt, plains_cells pk, plains_in pk, plains_low pk, plains_lend pk, plains_cells pd, plains_in pd, plains_low pd, plains_lend pd, plains_cells pr, plains_in pr, plains_low pr, plains_mv pr, z25_len, z25_drop, abin]
theorem mac11 (n : Nat) (key data : List UInt8) (hk : key.length = 32) (hd : data.length ≤ 90000) : E (n + 5) 11 [.agg (u8s key), .str ⟨data.toArray⟩] = some (.agg (u8s (mac key data)), []) := by
  rw [e11]
  exact mac11_of _ _ _ _ _ _ _ _ (q23 (n + 3)) (q22 (n + 3)) (q24 (n + 3)) _ (u8s_plain _) (by rw [u8s_len, hk]) _ _ _ _ _ _ _ (u8s_plain _) (by rw [u8s_len, sha_len]) _ (u8s_plain _) (by rw [u8s_len, mac_len])
    (block23t (n + 3) key hk 54) (block23t (n + 3) key hk 92)
    (astr_add_bytes (tb key 54) data (by rw [tb_len]; omega)) (astr_add_bytes (tb key 92) (sha (tb key 54 ++ data)) (by rw [tb_len, sha_len]; omega))
    (text24 (n + 3) (sha (tb key 54 ++ data)) (sha_len _))
    (sum11 n (tb key 54 ++ data) (by simp [tb_len]; omega)) (sum11 n (tb key 92 ++ sha (tb key 54 ++ data)) (by simp [tb_len, sha_len]))
/-- what Same has gathered -/
def acc (a b : List UInt8) : Nat → UInt8
  | 0 => 0
  | i + 1 => acc a b i ||| (a.getD i 0 ^^^ b.getD i 0)
theorem acc_zero (a b : List UInt8) : ∀ i, acc a b i = 0 ↔ ∀ j, j < i → a.getD j 0 = b.getD j 0
  | 0 => by simp [acc]
  | i + 1 => by
    rw [acc, UInt8.or_eq_zero_iff, acc_zero a b i, UInt8.xor_eq_zero_iff]
    constructor
    · rintro ⟨h1, h2⟩ j hj
      by_cases e : j = i
      · subst e; exact h2
      · exact h1 j (by omega)
    · intro h; exact ⟨fun j hj => h j (by omega), h i (by omega)⟩
theorem acc_eq (a b : List UInt8) (ha : a.length = 32) (hb : b.length = 32) : acc a b 32 = 0 ↔ a = b := by
  rw [acc_zero]
  constructor
  · intro h
    apply List.ext_getElem (by omega)
    intro j h1 h2
    have := h j (by omega)
    simpa [List.getD, h1, h2] using this
  · rintro rfl j _; rfl
theorem step12 (Φ : Nat → Option FnF) (K : Nat) (a b : List UInt8) (ha : a.length = 32) (hb : b.length = 32) (g2 g3 c k i : Nat) (hi : i < 32) (x : UInt8) (hg2 : g2 < c) (hg3 : g3 < c) :
    iter (ev Φ K b12_0) [2, 3, 4, 5, 7] [2, 3] (k + 1) ⟨[(2, .ptr 2 g2 0), (3, .ptr 3 g3 0), (4, .bool false), (5, .int .u8 x.toNat), (7, .int .i64 i)], [⟨2, g2, .var (u8s a)⟩, ⟨3, g3, .var (u8s b)⟩], c⟩ =
    iter (ev Φ K b12_0) [2, 3, 4, 5, 7] [2, 3] k ⟨[(2, .ptr 2 g2 0), (3, .ptr 3 g3 0), (4, .bool false), (5, .int .u8 (x ||| (a.getD i 0 ^^^ b.getD i 0)).toNat), (7, .int .i64 (i + 1 : Nat))], [⟨2, g2, .var (u8s a)⟩, ⟨3, g3, .var (u8s b)⟩], c⟩ := by
  have h1 : (i : Int) < 32 := by omega
  have w1 : IntKind.i64.wrap ((i : Int) + 1) = (i : Int) + 1 := wrap_i64 _ (by omega) (by omega)
  have a0 := u8s_at (l := a) (i := i) (by omega)
  have a1 := (List.getElem?_eq_some_iff.1 a0).2
  have b0 := u8s_at (l := b) (i := i) (by omega)
  have b1 := (List.getElem?_eq_some_iff.1 b0).2
  have la : (u8s a).length = 32 := by rw [u8s_len, ha]
  have lb : (u8s b).length = 32 := by rw [u8s_len, hb]
  have pa := u8s_plain a
  have pb := u8s_plain b
  have bx := b_xor (a.getD i 0) (b.getD i 0)
  have bo := b_or x (a.getD i 0 ^^^ b.getD i 0)
  generalize u8s a = A at *
  generalize u8s b = B at *
  generalize (x ||| (a.getD i 0 ^^^ b.getD i 0)).toNat = r at *
  generalize (a.getD i 0 ^^^ b.getD i 0).toNat = y at *
  generalize (a.getD i 0).toNat = u at *
  generalize (b.getD i 0).toNat = v at *
  generalize x.toNat = w at *
  apply iter_norm
  simp -implicitDefEqProofs [b12_0, St.keep, h1, hi, w1, a0, a1, b0, b1, la, lb, bx, bo, hg2, hg3, plains_low pa, plains_low pb, abin]
theorem loop12 (Φ : Nat → Option FnF) (K : Nat) (a b : List UInt8) (ha : a.length = 32) (hb : b.length = 32) (g2 g3 c : Nat) (hg2 : g2 < c) (hg3 : g3 < c) : ∀ (d i k : Nat), i + d = 32 → d < k →
    iter (ev Φ K b12_0) [2, 3, 4, 5, 7] [2, 3] k ⟨[(2, .ptr 2 g2 0), (3, .ptr 3 g3 0), (4, .bool false), (5, .int .u8 (acc a b i).toNat), (7, .int .i64 i)], [⟨2, g2, .var (u8s a)⟩, ⟨3, g3, .var (u8s b)⟩], c⟩ =
    some (.exit 0, ⟨[(2, .ptr 2 g2 0), (3, .ptr 3 g3 0), (4, .bool false), (5, .int .u8 (acc a b 32).toNat), (7, .int .i64 32), (8, .bool false)], [⟨2, g2, .var (u8s a)⟩, ⟨3, g3, .var (u8s b)⟩], c⟩)
  | 0, i, 0, hi, hk => by omega
  | 0, i, k + 1, hi, hk => by
    obtain rfl : i = 32 := by omega
    rw [iter_succ]
    generalize acc a b 32 = x
    simp -implicitDefEqProofs [b12_0, abin]
  | d + 1, i, 0, hi, hk => by omega
  | d + 1, i, k + 1, hi, hk => by
    rw [step12 Φ K a b ha hb g2 g3 c k i (by omega) (acc a b i) hg2 hg3]
    exact loop12 Φ K a b ha hb g2 g3 c hg2 hg3 d (i + 1) k (by omega) (by omega)
theorem u8_zero (x : UInt8) : ((x.toNat : Int) == 0) = decide (x = 0) := by
  by_cases h : x = 0
  · subst h; rfl
  · have : x.toNat ≠ 0 := fun e => h (UInt8.toNat_inj.1 (by rw [e]; rfl))
    rw [decide_eq_false h, beq_eq_false_iff_ne]
    omega
theorem same12 (n : Nat) (a b : List UInt8) (ha : a.length = 32) (hb : b.length = 32) : E (n + 1) 12 [.agg (u8s a), .agg (u8s b)] = some (.bool (decide (a = b)), []) := by
  rw [e12]
  have lb := loop12 (Q n) 3000 a b ha hb 0 1 2 (by omega) (by omega) 32 0 3000 (by omega) (by omega)
  have hz := u8_zero (acc a b 32)
  have he : decide (acc a b 32 = 0) = decide (a = b) := decide_eq_decide.2 (acc_eq a b ha hb)
  rw [he] at hz
  have pa := u8s_plain a
  have pb := u8s_plain b
  have hacc : acc a b 0 = 0 := rfl
  rw [hacc] at lb
  generalize acc a b 32 = x at *
  generalize u8s a = A at *
  generalize u8s b = B at *
  have hb' : ∃ e, ev (Q n) 3000 a12.code ⟨[(0, .agg A), (1, .agg B)], [], 0⟩ = some (.ret, ⟨(4, .bool (decide (a = b))) :: e, [], 2⟩) := by
    refine ⟨[(5, .int .u8 x.toNat), (20, .int .u8 x.toNat), (21, .bool (decide (a = b)))], ?_⟩
    rw [show a12.code = Tryd.c12 from rfl, Tryd.c12]
    refine ev_seqN (s1 := ⟨[(0, .agg A), (1, .agg B), (2, .ptr 2 0 0), (3, .ptr 3 1 0), (4, .bool false)], [⟨2, 0, .var A⟩, ⟨3, 1, .var B⟩], 2⟩) (by simp [plains_cells pa, plains_cells pb]) ?_
    refine ev_seqN (s1 := ⟨[(0, .agg A), (1, .agg B), (2, .ptr 2 0 0), (3, .ptr 3 1 0), (4, .bool false), (5, .int .u8 0)], [⟨2, 0, .var A⟩, ⟨3, 1, .var B⟩], 2⟩) (by simp) ?_
    refine ev_seqN (ev_loopN (by simp [St.keep]) lb) ?_
    refine ev_keepN ?_
    simp -implicitDefEqProofs [hz, abin]
  obtain ⟨e, hb'⟩ := hb'
  refine fun_of (q := ([.agg A, .agg B], [], 0)) (by simp [a12]) (by simp [plains_in pa, plains_in pb]) hb' (.inr rfl) ?_
  simp -implicitDefEqProofs [a12]
end Go.Abs.Tryd

namespace Go.Abs.Tryd
open Go Go.Abs Go.Proofs Go.Abs.Sha
set_option maxHeartbeats 64000000
set_option maxRecDepth 100000
set_option linter.unusedSimpArgs false
set_option linter.unusedVariables false
/-- may there be such a node? -/
def okn (r m : Int) : Prop := 1 ≤ r ∧ r ≤ 5 ∧ 1 ≤ m ∧ m ≤ 3
instance (r m : Int) : Decidable (okn r m) := by unfold okn; infer_instance
def kd (r m : Int) : List UInt8 := [75, UInt8.ofNat r.toNat, UInt8.ofNat m.toNat]
def tkey (key : List UInt8) (r m : Int) : List UInt8 := if okn r m then mac key (kd r m) else List.replicate 32 0
theorem tkey_len (key r m) : (tkey key r m).length = 32 := by unfold tkey; split <;> simp [mac_len]
def tkE (r m : Int) : Int := if okn r m then 0 else 50
theorem kd_bytes (r m : Int) (h : okn r m) : IntKind.u8.wrap r = r ∧ IntKind.u8.wrap m = m ∧ toBytes [[.int .u8 75], [.int .u8 r], [.int .u8 m]] = some (kd r m) := by
  unfold okn at h
  refine ⟨by rw [wrap_u8]; omega, by rw [wrap_u8]; omega, ?_⟩
  simp [toBytes, kd]
theorem key13_bad (Φ : Nat → Option FnF) (K : Nat) (C : List AV) (pk : C.all AV.plain = true) (r m : Int) (h : ¬ okn r m) : evFun Φ K a13 [.agg C, .int .i64 r, .int .i64 m] = some (.tup [.agg z23, .int .i64 50], []) := by
  unfold okn at h
  have zt : z23.take 32 = z23 := List.take_of_length_le (by rw [z23_len]; omega)
  by_cases h1 : r < 1
  · simp -implicitDefEqProofs [a13, Tryd.c13, h1, plains_cells pk, plains_in pk, plains_cells z23_plain, plains_mv z23_plain, z23_len, z23_drop, zt, abin]
  by_cases h2 : 5 < r
  · simp -implicitDefEqProofs [a13, Tryd.c13, h1, h2, plains_cells pk, plains_in pk, plains_cells z23_plain, plains_mv z23_plain, z23_len, z23_drop, zt, abin]
  by_cases h3 : m < 1
  · simp -implicitDefEqProofs [a13, Tryd.c13, h1, h2, h3, plains_cells pk, plains_in pk, plains_cells z23_plain, plains_mv z23_plain, z23_len, z23_drop, zt, abin]
  have h4 : 3 < m := by omega
  simp -implicitDefEqProofs [a13, Tryd.c13, h1, h2, h3, h4, plains_cells pk, plains_in pk, plains_cells z23_plain, plains_mv z23_plain, z23_len, z23_drop, zt, abin]
theorem key13_ok (Φ : Nat → Option FnF) (K : Nat) (F10 : CallF) (G10 : InlF) (h10 : Φ 10 = some ⟨F10, G10⟩) (C : List AV) (pk : C.all AV.plain = true) (kl : C.length = 32) (r m : Int) (h : okn r m) (R : List AV) (pr : R.all AV.plain = true) (lr : R.length = 32)
    (o : F10 [.agg C, .str ⟨(kd r m).toArray⟩] = some (.agg R, [])) : evFun Φ K a13 [.agg C, .int .i64 r, .int .i64 m] = some (.tup [.agg R, .int .i64 0], []) := by
  obtain ⟨w1, w2, tb⟩ := kd_bytes r m h
  unfold okn at h
  have h1 : ¬ r < 1 := by omega
  have h2 : ¬ 5 < r := by omega
  have h3 : ¬ m < 1 := by omega
  have h4 : ¬ 3 < m := by omega
  have kt : C.take 32 = C := List.take_of_length_le (by omega)
  have rt : R.take 32 = R := List.take_of_length_le (by omega)
  simp -implicitDefEqProofs [a13, Tryd.c13, h10, o, h1, h2, h3, h4, w1, w2, tb, kl, kt, lr, rt, plains_cells pk, plains_in pk, plains_lend pk, plains_cells pr, plains_in pr, plains_mv pr, plains_cells z23_plain, plains_mv z23_plain, z23_len, z23_drop, abin]
theorem key13 (n : Nat) (key : List UInt8) (hk : key.length = 32) (r m : Int) : E (n + 7) 13 [.agg (u8s key), .int .i64 r, .int .i64 m] = some (.tup [.agg (u8s (tkey key r m)), .int .i64 (tkE r m)], []) := by
  rw [e13]
  by_cases h : okn r m
  · rw [tkey, tkE, if_pos h, if_pos h]
    exact key13_ok _ _ _ _ (q10 (n + 5)) _ (u8s_plain _) (by rw [u8s_len, hk]) r m h _ (u8s_plain _) (by rw [u8s_len, mac_len]) (mac10 n key (kd r m) hk (by simp [kd]))
  · rw [tkey, tkE, if_neg h, if_neg h, ← z23_u8s]
    exact key13_bad _ _ _ (u8s_plain _) r m h
theorem owner14 (n : Nat) (r m : Int) : E (n + 1) 14 [.int .i64 r, .int .i64 m] = some (.bool (decide (okn r m)), []) := by
  rw [e14]
  by_cases h1 : 1 ≤ r
  · by_cases h2 : r ≤ 5
    · by_cases h3 : 1 ≤ m
      · by_cases h4 : m ≤ 3
        · have h : okn r m := ⟨h1, h2, h3, h4⟩
          simp -implicitDefEqProofs [a14, Tryd.c14, h, h1, h2, h3, h4, abin]
        · have h : ¬ okn r m := fun h => h4 h.2.2.2
          simp -implicitDefEqProofs [a14, Tryd.c14, h, h1, h2, h3, h4, abin]
      · have h : ¬ okn r m := fun h => h3 h.2.2.1
        simp -implicitDefEqProofs [a14, Tryd.c14, h, h1, h2, h3, abin]
    · have h : ¬ okn r m := fun h => h2 h.2.1
      simp -implicitDefEqProofs [a14, Tryd.c14, h, h1, h2, abin]
  · have h : ¬ okn r m := fun h => h1 h.1
    simp -implicitDefEqProofs [a14, Tryd.c14, h, h1, abin]
theorem key15_of (Φ : Nat → Option FnF) (K : Nat) (F11 : CallF) (G11 : InlF) (h11 : Φ 11 = some ⟨F11, G11⟩) (C : List AV) (pk : C.all AV.plain = true) (kl : C.length = 32) (r m : Int) (h : okn r m) (R : List AV) (pr : R.all AV.plain = true) (lr : R.length = 32)
    (o : F11 [.agg C, .str ⟨(kd r m).toArray⟩] = some (.agg R, [])) : evFun Φ K a15 [.agg C, .int .i64 r, .int .i64 m] = some (.agg R, []) := by
  obtain ⟨w1, w2, tb⟩ := kd_bytes r m h
  have kt : C.take 32 = C := List.take_of_length_le (by omega)
  have rt : R.take 32 = R := List.take_of_length_le (by omega)
  simp -implicitDefEqProofs [a15, Tryd.c15, h11, o, w1, w2, tb, kl, kt, lr, rt, plains_cells pk, plains_in pk, plains_lend pk, plains_cells pr, plains_in pr, plains_mv pr, plains_cells z23_plain, plains_mv z23_plain, z23_len, z23_drop, abin]
theorem key15 (n : Nat) (key : List UInt8) (hk : key.length = 32) (r m : Int) (h : okn r m) : E (n + 6) 15 [.agg (u8s key), .int .i64 r, .int .i64 m] = some (.agg (u8s (mac key (kd r m))), []) := by
  rw [e15]
  exact key15_of _ _ _ _ (q11 (n + 4)) _ (u8s_plain _) (by rw [u8s_len, hk]) r m h _ (u8s_plain _) (by rw [u8s_len, mac_len]) (mac11 n key (kd r m) hk (by simp [kd]))
def hold (key : List UInt8) (r m : Int) (data t : List UInt8) : Int := if okn r m then (if mac (tkey key r m) data = t then 0 else 72) else 50
theorem holds16_of (Φ : Nat → Option FnF) (K : Nat) (F10 F12 F13 : CallF) (G10 G12 G13 : InlF) (h10 : Φ 10 = some ⟨F10, G10⟩) (h12 : Φ 12 = some ⟨F12, G12⟩) (h13 : Φ 13 = some ⟨F13, G13⟩) (C T N : List AV) (pk : C.all AV.plain = true) (kl : C.length = 32) (pt : T.all AV.plain = true) (tl : T.length = 32) (pn : N.all AV.plain = true) (nl : N.length = 32)
    (r m e : Int) (he : e = 0 ∨ e = 50) (s : ByteArray) (R : List AV) (pr : R.all AV.plain = true) (lr : R.length = 32) (b : Bool)
    (o13 : F13 [.agg C, .int .i64 r, .int .i64 m] = some (.tup [.agg N, .int .i64 e], []))
    (o10 : F10 [.agg N, .str s] = some (.agg R, [])) (o12 : F12 [.agg R, .agg T] = some (.bool b, [])) :
    evFun Φ K a16 [.agg C, .int .i64 r, .int .i64 m, .str s, .agg T] = some (.int .i64 (if e = 0 then (if b = true then 0 else 72) else 50), []) := by
  have kt : C.take 32 = C := List.take_of_length_le (by omega)
  have tt : T.take 32 = T := List.take_of_length_le (by omega)
  have nt : N.take 32 = N := List.take_of_length_le (by omega)
  rcases he with rfl | rfl
  · cases b <;> simp -implicitDefEqProofs [a16, Tryd.c16, h10, h12, h13, o10, o12, o13, kl, kt, tl, tt, nl, nt, plains_cells pk, plains_in pk, plains_low pk, plains_lend pk, plains_cells pt, plains_in pt, plains_low pt, plains_lend pt, plains_cells pn, plains_in pn, plains_low pn, plains_lend pn, plains_in pr, plains_low pr, plains_lend pr, z23_len, z23_drop, abin]
  · simp -implicitDefEqProofs [a16, Tryd.c16, h10, h12, h13, o10, o12, o13, kl, kt, tl, tt, nl, nt, plains_cells pk, plains_in pk, plains_low pk, plains_lend pk, plains_cells pt, plains_in pt, plains_low pt, plains_lend pt, plains_cells pn, plains_in pn, plains_low pn, plains_lend pn, plains_in pr, plains_low pr, plains_lend pr, z23_len, z23_drop, abin]
theorem holds16 (n : Nat) (key t data : List UInt8) (hk : key.length = 32) (ht : t.length = 32) (hd : data.length ≤ 90000) (r m : Int) : E (n + 8) 16 [.agg (u8s key), .int .i64 r, .int .i64 m, .str ⟨data.toArray⟩, .agg (u8s t)] = some (.int .i64 (hold key r m data t), []) := by
  rw [e16]
  have h := holds16_of _ 3000 _ _ _ _ _ _ (q10 (n + 6)) (q12 (n + 6)) (q13 (n + 6)) _ _ _ (u8s_plain key) (by rw [u8s_len, hk]) (u8s_plain t) (by rw [u8s_len, ht]) (u8s_plain (tkey key r m)) (by rw [u8s_len, tkey_len]) r m (tkE r m) (by unfold tkE; split <;> simp) ⟨data.toArray⟩ _ (u8s_plain _) (by rw [u8s_len, mac_len]) _
    (key13 n key hk r m) (mac10 (n + 1) (tkey key r m) data (tkey_len _ _ _) hd) (same12 (n + 6) (mac (tkey key r m) data) t (mac_len _ _) ht)
  rw [show (if tkE r m = 0 then (if decide (mac (tkey key r m) data = t) = true then (0 : Int) else 72) else 50) = hold key r m data t by
    unfold tkE hold
    by_cases ho : okn r m
    · simp [ho]
    · simp [ho]] at h
  exact h
theorem holds17_of (Φ : Nat → Option FnF) (K : Nat) (F11 F14 F15 : CallF) (G11 G14 G15 : InlF) (h11 : Φ 11 = some ⟨F11, G11⟩) (h14 : Φ 14 = some ⟨F14, G14⟩) (h15 : Φ 15 = some ⟨F15, G15⟩) (C T N : List AV) (pk : C.all AV.plain = true) (kl : C.length = 32) (pt : T.all AV.plain = true) (tl : T.length = 32) (pn : N.all AV.plain = true)
    (r m : Int) (s : ByteArray) (R : List AV) (pr : R.all AV.plain = true) (lr : R.length = 32) (b : Bool)
    (o14 : F14 [.int .i64 r, .int .i64 m] = some (.bool true, [])) (o15 : F15 [.agg C, .int .i64 r, .int .i64 m] = some (.agg N, []))
    (o11 : F11 [.agg N, .str s] = some (.agg R, [])) (hb : aeqCells k32 R T = some b) :
    evFun Φ K a17 [.agg C, .int .i64 r, .int .i64 m, .str s, .agg T] = some (.int .i64 (if b = true then 0 else 72), []) := by
  have kt : C.take 32 = C := List.take_of_length_le (by omega)
  have tt : T.take 32 = T := List.take_of_length_le (by omega)
  cases b <;> simp -implicitDefEqProofs [a17, Tryd.c17, h11, h14, h15, o11, o14, o15, hb, kl, kt, tl, tt, lr, plains_cells pk, plains_in pk, plains_low pk, plains_lend pk, plains_cells pt, plains_in pt, plains_low pt, plains_lend pt, plains_in pn, plains_low pn, plains_lend pn, plains_in pr, plains_low pr, plains_lend pr, abin]
theorem holds17_no (Φ : Nat → Option FnF) (K : Nat) (F14 : CallF) (G14 : InlF) (h14 : Φ 14 = some ⟨F14, G14⟩) (C T : List AV) (pk : C.all AV.plain = true) (pt : T.all AV.plain = true)
    (r m : Int) (s : ByteArray) (o14 : F14 [.int .i64 r, .int .i64 m] = some (.bool false, [])) :
    evFun Φ K a17 [.agg C, .int .i64 r, .int .i64 m, .str s, .agg T] = some (.int .i64 50, []) := by
  simp -implicitDefEqProofs [a17, Tryd.c17, h14, o14, plains_cells pk, plains_in pk, plains_cells pt, plains_in pt, abin]
/-- equality of two rows of bytes -/
theorem aeq_bytes : ∀ a b : List UInt8, a.length = b.length → aeqCells (List.replicate a.length 0) (u8s a) (u8s b) = some (decide (a = b))
  | [], [], _ => rfl
  | x :: a, y :: b, h => by
    have ih := aeq_bytes a b (by simpa using h)
    have e1 : u8s (x :: a) = .int .u8 x.toNat :: u8s a := rfl
    have e2 : u8s (y :: b) = .int .u8 y.toNat :: u8s b := rfl
    rw [List.length_cons, List.replicate_succ, e1, e2, aeqCells, aeq1]
    by_cases hxy : x = y
    · subst hxy
      simp [ih]
    · have : ((x.toNat : Int) == (y.toNat : Int)) = false := by
        rw [beq_eq_false_iff_ne]; intro e; exact hxy (UInt8.toNat_inj.1 (by omega))
      simp [this, hxy]
theorem aeq32 (a b : List UInt8) (ha : a.length = 32) (hb : b.length = 32) : aeqCells k32 (u8s a) (u8s b) = some (decide (a = b)) := by
  have := aeq_bytes a b (by omega)
  rw [ha] at this
  exact this
theorem holds17 (n : Nat) (key t data : List UInt8) (hk : key.length = 32) (ht : t.length = 32) (hd : data.length ≤ 90000) (r m : Int) : E (n + 7) 17 [.agg (u8s key), .int .i64 r, .int .i64 m, .str ⟨data.toArray⟩, .agg (u8s t)] = some (.int .i64 (hold key r m data t), []) := by
  rw [e17]
  have ho := owner14 (n + 5) r m
  by_cases h : okn r m
  · rw [decide_eq_true h] at ho
    have h2 := holds17_of _ 3000 _ _ _ _ _ _ (q11 (n + 5)) (q14 (n + 5)) (q15 (n + 5)) _ _ _ (u8s_plain key) (by rw [u8s_len, hk]) (u8s_plain t) (by rw [u8s_len, ht]) (u8s_plain _) r m ⟨data.toArray⟩ _ (u8s_plain _) (by rw [u8s_len, mac_len]) _
      ho (key15 n key hk r m h) (mac11 (n + 1) (mac key (kd r m)) data (mac_len _ _) hd) (aeq32 _ t (mac_len _ _) ht)
    rw [show (if decide (mac (mac key (kd r m)) data = t) = true then (0 : Int) else 72) = hold key r m data t by unfold hold tkey; simp [h]] at h2
    exact h2
  · rw [decide_eq_false h] at ho
    rw [show hold key r m data t = 50 by unfold hold; rw [if_neg h]]
    exact holds17_no _ _ _ _ (q14 (n + 5)) _ _ (u8s_plain _) (u8s_plain _) r m _ ho
end Go.Abs.Tryd

namespace Go.Abs.Tryd
open Go Go.Abs Go.Proofs Go.Abs.Sha
set_option maxHeartbeats 64000000
set_option maxRecDepth 100000
set_option linter.unusedSimpArgs false
set_option linter.unusedVariables false
abbrev zk : List UInt8 := List.replicate 32 0
theorem mac_zero : mac zk [] = [182, 19, 103, 154, 8, 20, 217, 236, 119, 47, 149, 215, 120, 195, 95, 197, 255, 22, 151, 196, 147, 113, 86, 83, 198, 199, 18, 20, 66, 146, 197, 173] := by decide +kernel
theorem hex_zero (n : Nat) : E (n + 1) 20 [.agg (u8s [182, 19, 103, 154, 8, 20, 217, 236, 119, 47, 149, 215, 120, 195, 95, 197, 255, 22, 151, 196, 147, 113, 86, 83, 198, 199, 18, 20, 66, 146, 197, 173])] = some (.str ⟨#[98, 54, 49, 51, 54, 55, 57, 97, 48, 56, 49, 52, 100, 57, 101, 99, 55, 55, 50, 102, 57, 53, 100, 55, 55, 56, 99, 51, 53, 102, 99, 53, 102, 102, 49, 54, 57, 55, 99, 52, 57, 51, 55, 49, 53, 54, 53, 51, 99, 54, 99, 55, 49, 50, 49, 52, 52, 50, 57, 50, 99, 53, 97, 100]⟩, []) := by kernel_rfl
theorem macs_of (Φ : Nat → Option FnF) (K : Nat) (F13 F10 F20 : CallF) (G13 G10 G20 : InlF) (h13 : Φ 13 = some ⟨F13, G13⟩) (h10 : Φ 10 = some ⟨F10, G10⟩) (h20 : Φ 20 = some ⟨F20, G20⟩) (N1 N2 N3 D : List AV) (p1 : N1.all AV.plain = true) (l1 : N1.length = 32) (p2 : N2.all AV.plain = true) (l2 : N2.length = 32) (p3 : N3.all AV.plain = true) (l3 : N3.length = 32) (pd : D.all AV.plain = true)
    (o1 : F13 [.agg z23, .int .i64 0, .int .i64 1] = some (.tup [.agg N1, .int .i64 50], [])) (o2 : F13 [.agg z23, .int .i64 1, .int .i64 4] = some (.tup [.agg N2, .int .i64 50], [])) (o3 : F13 [.agg z23, .int .i64 5, .int .i64 3] = some (.tup [.agg N3, .int .i64 0], []))
    (o10 : F10 [.agg z23, .str ⟨#[]⟩] = some (.agg D, [])) (o20 : F20 [.agg D] = some (.str ⟨#[98, 54, 49, 51, 54, 55, 57, 97, 48, 56, 49, 52, 100, 57, 101, 99, 55, 55, 50, 102, 57, 53, 100, 55, 55, 56, 99, 51, 53, 102, 99, 53, 102, 102, 49, 54, 57, 55, 99, 52, 57, 51, 55, 49, 53, 54, 53, 51, 99, 54, 99, 55, 49, 50, 49, 52, 52, 50, 57, 50, 99, 53, 97, 100]⟩, [])) : evFun Φ K a9 [] = some (.bool true, []) := by
  simp -implicitDefEqProofs [a9, Tryd.c9, h13, h10, h20, o1, o2, o3, o10, o20, plains_cells p1, plains_in p1, plains_cells p2, plains_in p2, plains_cells p3, plains_in p3, plains_in pd, plains_lend pd, plains_lend z23_plain, l1, l2, l3, z23_len, z23_drop, abin]
theorem macs9 (n : Nat) : E (n + 8) 9 [] = some (.bool true, []) := by
  rw [e9]
  have k (r m : Int) : E (n + 7) 13 [.agg z23, .int .i64 r, .int .i64 m] = some (.tup [.agg (u8s (tkey zk r m)), .int .i64 (tkE r m)], []) := by rw [z23_u8s]; exact key13 n zk (by simp) r m
  have o10 : E (n + 7) 10 [.agg z23, .str ⟨#[]⟩] = some (.agg (u8s (mac zk [])), []) := by rw [z23_u8s]; exact mac10 (n + 1) zk [] (by simp) (by simp)
  have x1 : tkE 0 1 = 50 := by decide
  have x2 : tkE 1 4 = 50 := by decide
  have x3 : tkE 5 3 = 0 := by decide
  have o1 := k 0 1
  have o2 := k 1 4
  have o3 := k 5 3
  rw [x1] at o1
  rw [x2] at o2
  rw [x3] at o3
  rw [mac_zero] at o10
  exact macs_of _ _ _ _ _ _ _ _ (q13 (n + 6)) (q10 (n + 6)) (q20 (n + 6)) _ _ _ _ (u8s_plain _) (by rw [u8s_len, tkey_len]) (u8s_plain _) (by rw [u8s_len, tkey_len]) (u8s_plain _) (by rw [u8s_len, tkey_len]) (u8s_plain _) o1 o2 o3 o10 (hex_zero _)

theorem law7_long (Φ : Nat → Option FnF) (K : Nat) (C T U : List AV) (pk : C.all AV.plain = true) (pt : T.all AV.plain = true) (pu : U.all AV.plain = true) (r m : Int) (s : ByteArray) (hs : 16384 < (s.size : Int)) :
    evFun Φ K a7 [.agg C, .int .i64 r, .int .i64 m, .str s, .agg T, .agg U] = some (.bool true, []) := by
  simp -implicitDefEqProofs [a7, Tryd.c7, hs, plains_cells pk, plains_in pk, plains_low pk, plains_lend pk, plains_mv pk, plains_cells pt, plains_in pt, plains_low pt, plains_lend pt, plains_mv pt, plains_cells pu, plains_in pu, plains_low pu, plains_lend pu, plains_mv pu, abin]
theorem law7_of (Φ : Nat → Option FnF) (K : Nat) (F16 F9 : CallF) (G16 G9 : InlF) (h16 : Φ 16 = some ⟨F16, G16⟩) (h9 : Φ 9 = some ⟨F9, G9⟩) (C T U : List AV) (pk : C.all AV.plain = true) (kl : C.length = 32) (pt : T.all AV.plain = true) (tl : T.length = 32) (pu : U.all AV.plain = true) (ul : U.length = 32) (r m : Int) (s : ByteArray) (hs : ¬ 16384 < (s.size : Int)) (e1 e2 : Int)
    (o1 : F16 [.agg C, .int .i64 r, .int .i64 m, .str s, .agg T] = some (.int .i64 e1, [])) (o2 : F16 [.agg C, .int .i64 r, .int .i64 m, .str s, .agg U] = some (.int .i64 e2, [])) (o9 : F9 [] = some (.bool true, []))
    (hq : e1 = 0 → e2 = 0 → aeqCells k32 T U = some true) : evFun Φ K a7 [.agg C, .int .i64 r, .int .i64 m, .str s, .agg T, .agg U] = some (.bool true, []) := by
  have kt : C.take 32 = C := List.take_of_length_le (by omega)
  have tt : T.take 32 = T := List.take_of_length_le (by omega)
  have ut : U.take 32 = U := List.take_of_length_le (by omega)
  by_cases h1 : e1 = 0
  · by_cases h2 : e2 = 0
    · have hq' := hq h1 h2
      subst h1
      subst h2
      simp -implicitDefEqProofs [a7, Tryd.c7, h16, h9, hs, o1, o2, o9, hq', kl, kt, tl, tt, ul, ut, plains_cells pk, plains_in pk, plains_low pk, plains_lend pk, plains_mv pk, plains_cells pt, plains_in pt, plains_low pt, plains_lend pt, plains_mv pt, plains_cells pu, plains_in pu, plains_low pu, plains_lend pu, plains_mv pu, abin]
    · have h2' : (e2 == 0) = false := by rw [beq_eq_false_iff_ne]; exact h2
      have h2n : (e2 != 0) = true := by simp [bne, h2']
      subst h1
      simp -implicitDefEqProofs [a7, Tryd.c7, h16, h9, hs, o1, o2, o9, h2, h2', h2n, kl, kt, tl, tt, ul, ut, plains_cells pk, plains_in pk, plains_low pk, plains_lend pk, plains_mv pk, plains_cells pt, plains_in pt, plains_low pt, plains_lend pt, plains_mv pt, plains_cells pu, plains_in pu, plains_low pu, plains_lend pu, plains_mv pu, abin]
  · have h1' : (e1 == 0) = false := by rw [beq_eq_false_iff_ne]; exact h1
    have h1n : (e1 != 0) = true := by simp [bne, h1']
    simp -implicitDefEqProofs [a7, Tryd.c7, h16, h9, hs, o1, o2, o9, h1, h1', h1n, kl, kt, tl, tt, ul, ut, plains_cells pk, plains_in pk, plains_low pk, plains_lend pk, plains_mv pk, plains_cells pt, plains_in pt, plains_low pt, plains_lend pt, plains_mv pt, plains_cells pu, plains_in pu, plains_low pu, plains_lend pu, plains_mv pu, abin]
theorem hold_zero {key t data : List UInt8} {r m : Int} (h : hold key r m data t = 0) : okn r m ∧ mac (tkey key r m) data = t := by
  unfold hold at h
  by_cases h1 : okn r m
  · rw [if_pos h1] at h
    by_cases h2 : mac (tkey key r m) data = t
    · exact ⟨h1, h2⟩
    · rw [if_neg h2] at h; cases h
  · rw [if_neg h1] at h; cases h
theorem law7 (x0 x1 x2 x3 x4 x5 : AV) (o0 : ∃ cs, x0 = .agg cs ∧ okRow (List.replicate 32 (.int .u8)) cs) (o1 : okRow [.int .i64] [x1]) (o2 : okRow [.int .i64] [x2]) (o3 : okRow [.str] [x3]) (o4 : ∃ cs, x4 = .agg cs ∧ okRow (List.replicate 32 (.int .u8)) cs) (o5 : ∃ cs, x5 = .agg cs ∧ okRow (List.replicate 32 (.int .u8)) cs) : E 11 7 [x0, x1, x2, x3, x4, x5] = some (.bool true, []) := by
  obtain ⟨cs, rfl, h0⟩ := o0
  obtain ⟨key, hk, rfl⟩ := ok_bytes 32 cs h0
  obtain ⟨r, vs, e1, _, _⟩ := o1.int
  obtain ⟨rfl, _⟩ : x1 = .int .i64 r ∧ _ := by simpa using e1
  obtain ⟨m, vs2, e2, _, _⟩ := o2.int
  obtain ⟨rfl, _⟩ : x2 = .int .i64 m ∧ _ := by simpa using e2
  obtain ⟨s, vs3, e3, _, _⟩ := o3.str
  obtain ⟨rfl, _⟩ : x3 = .str s ∧ _ := by simpa using e3
  obtain ⟨ct, rfl, h4⟩ := o4
  obtain ⟨t, ht, rfl⟩ := ok_bytes 32 ct h4
  obtain ⟨cu, rfl, h5⟩ := o5
  obtain ⟨u, hu, rfl⟩ := ok_bytes 32 cu h5
  obtain ⟨l, rfl⟩ := mkB s
  rw [e7]
  by_cases hs : 16384 < (((⟨l.toArray⟩ : ByteArray).size : Nat) : Int)
  · exact law7_long _ _ _ _ _ (u8s_plain _) (u8s_plain _) (u8s_plain _) r m _ hs
  · have hl : l.length ≤ 90000 := by rw [size_of] at hs; omega
    refine law7_of _ _ _ _ _ _ (q16 9) (q9 9) _ _ _ (u8s_plain _) (by rw [u8s_len, hk]) (u8s_plain _) (by rw [u8s_len, ht]) (u8s_plain _) (by rw [u8s_len, hu]) r m _ hs _ _ (holds16 2 key t l hk ht hl r m) (holds16 2 key u l hk hu hl r m) (macs9 2) ?_
    intro z1 z2
    rw [aeq32 t u ht hu, decide_eq_true ((hold_zero z1).2.symm.trans (hold_zero z2).2)]
theorem ref7 : Refines Go.Proofs.Tryd.prog 7 (E 11 7) := ref 11 7 (q7 10)
theorem law4_long (Φ : Nat → Option FnF) (K : Nat) (C T U : List AV) (pk : C.all AV.plain = true) (pt : T.all AV.plain = true) (pu : U.all AV.plain = true) (s : ByteArray) (hs : 16384 < (s.size : Int)) :
    evFun Φ K a4 [.agg C, .str s, .agg T, .agg U] = some (.bool true, []) := by
  simp -implicitDefEqProofs [a4, Tryd.c4, hs, plains_cells pk, plains_in pk, plains_low pk, plains_lend pk, plains_mv pk, plains_cells pt, plains_in pt, plains_low pt, plains_lend pt, plains_mv pt, plains_cells pu, plains_in pu, plains_low pu, plains_lend pu, plains_mv pu, abin]
theorem law4_of (Φ : Nat → Option FnF) (K : Nat) (F9 F10 F11 F12 : CallF) (G9 G10 G11 G12 : InlF) (h9 : Φ 9 = some ⟨F9, G9⟩) (h10 : Φ 10 = some ⟨F10, G10⟩) (h11 : Φ 11 = some ⟨F11, G11⟩) (h12 : Φ 12 = some ⟨F12, G12⟩) (C T U R : List AV) (pk : C.all AV.plain = true) (kl : C.length = 32) (pt : T.all AV.plain = true) (tl : T.length = 32) (pu : U.all AV.plain = true) (ul : U.length = 32) (pr : R.all AV.plain = true) (rl : R.length = 32) (s : ByteArray) (hs : ¬ 16384 < (s.size : Int)) (b : Bool)
    (o9 : F9 [] = some (.bool true, [])) (o10 : F10 [.agg C, .str s] = some (.agg R, [])) (o11 : F11 [.agg C, .str s] = some (.agg R, [])) (o12 : F12 [.agg T, .agg U] = some (.bool b, [])) (o12' : F12 [.agg T, .agg T] = some (.bool true, []))
    (k1 : aeqCells k32 R R = some true) (k2 : aeqCells k32 T U = some b) : evFun Φ K a4 [.agg C, .str s, .agg T, .agg U] = some (.bool true, []) := by
  have kt : C.take 32 = C := List.take_of_length_le (by omega)
  have tt : T.take 32 = T := List.take_of_length_le (by omega)
  have ut : U.take 32 = U := List.take_of_length_le (by omega)
  cases b <;> simp -implicitDefEqProofs [a4, Tryd.c4, h9, h10, h11, h12, hs, o9, o10, o11, o12, o12', k1, k2, kl, kt, tl, tt, ul, ut, rl, plains_cells pk, plains_in pk, plains_low pk, plains_lend pk, plains_mv pk, plains_cells pt, plains_in pt, plains_low pt, plains_lend pt, plains_mv pt, plains_cells pu, plains_in pu, plains_low pu, plains_lend pu, plains_mv pu, plains_cells pr, plains_in pr, plains_low pr, plains_lend pr, plains_mv pr, abin]
theorem law4 (x0 x1 x2 x3 : AV) (o0 : ∃ cs, x0 = .agg cs ∧ okRow (List.replicate 32 (.int .u8)) cs) (o1 : okRow [.str] [x1]) (o2 : ∃ cs, x2 = .agg cs ∧ okRow (List.replicate 32 (.int .u8)) cs) (o3 : ∃ cs, x3 = .agg cs ∧ okRow (List.replicate 32 (.int .u8)) cs) : E 11 4 [x0, x1, x2, x3] = some (.bool true, []) := by
  obtain ⟨cs, rfl, h0⟩ := o0
  obtain ⟨key, hk, rfl⟩ := ok_bytes 32 cs h0
  obtain ⟨s, vs3, e3, _, _⟩ := o1.str
  obtain ⟨rfl, _⟩ : x1 = .str s ∧ _ := by simpa using e3
  obtain ⟨ct, rfl, h4⟩ := o2
  obtain ⟨t, ht, rfl⟩ := ok_bytes 32 ct h4
  obtain ⟨cu, rfl, h5⟩ := o3
  obtain ⟨u, hu, rfl⟩ := ok_bytes 32 cu h5
  obtain ⟨l, rfl⟩ := mkB s
  rw [e4]
  by_cases hs : 16384 < (((⟨l.toArray⟩ : ByteArray).size : Nat) : Int)
  · exact law4_long _ _ _ _ _ (u8s_plain _) (u8s_plain _) (u8s_plain _) _ hs
  · have hl : l.length ≤ 90000 := by rw [size_of] at hs; omega
    have hself := same12 9 t t ht ht
    rw [decide_eq_true rfl] at hself
    exact law4_of _ _ _ _ _ _ _ _ _ _ (q9 9) (q10 9) (q11 9) (q12 9) _ _ _ _ (u8s_plain _) (by rw [u8s_len, hk]) (u8s_plain _) (by rw [u8s_len, ht]) (u8s_plain _) (by rw [u8s_len, hu]) (u8s_plain _) (by rw [u8s_len, mac_len]) _ hs _ (macs9 2) (mac10 4 key l hk hl) (mac11 5 key l hk hl) (same12 9 t u ht hu) hself (self32 _ (mac_len _ _)) (aeq32 t u ht hu)
theorem ref4 : Refines Go.Proofs.Tryd.prog 4 (E 11 4) := ref 11 4 (q4 10)
end Go.Abs.Tryd

namespace Go.Abs.Tryd
open Go Go.Abs Go.Proofs Go.Abs.Sha
set_option maxHeartbeats 64000000
set_option maxRecDepth 100000
set_option linter.unusedSimpArgs false
set_option linter.unusedVariables false
theorem law5_long (Φ : Nat → Option FnF) (K : Nat) (C T : List AV) (pk : C.all AV.plain = true) (pt : T.all AV.plain = true) (r m : Int) (s : ByteArray) (hs : 16384 < (s.size : Int)) :
    evFun Φ K a5 [.agg C, .int .i64 r, .int .i64 m, .str s, .agg T] = some (.bool true, []) := by
  simp -implicitDefEqProofs [a5, Tryd.c5, hs, plains_cells pk, plains_in pk, plains_low pk, plains_lend pk, plains_mv pk, plains_cells pt, plains_in pt, plains_low pt, plains_lend pt, plains_mv pt, abin]
theorem law5_ok (Φ : Nat → Option FnF) (K : Nat) (F9 F13 F14 F15 F16 F17 : CallF) (G9 G13 G14 G15 G16 G17 : InlF) (h9 : Φ 9 = some ⟨F9, G9⟩) (h13 : Φ 13 = some ⟨F13, G13⟩) (h14 : Φ 14 = some ⟨F14, G14⟩) (h15 : Φ 15 = some ⟨F15, G15⟩) (h16 : Φ 16 = some ⟨F16, G16⟩) (h17 : Φ 17 = some ⟨F17, G17⟩) (C T N : List AV) (pk : C.all AV.plain = true) (kl : C.length = 32) (pt : T.all AV.plain = true) (tl : T.length = 32) (pn : N.all AV.plain = true) (nl : N.length = 32) (r m : Int) (s : ByteArray) (hs : ¬ 16384 < (s.size : Int)) (e : Int)
    (o9 : F9 [] = some (.bool true, [])) (o13 : F13 [.agg C, .int .i64 r, .int .i64 m] = some (.tup [.agg N, .int .i64 0], [])) (o14 : F14 [.int .i64 r, .int .i64 m] = some (.bool true, [])) (o15 : F15 [.agg C, .int .i64 r, .int .i64 m] = some (.agg N, []))
    (o16 : F16 [.agg C, .int .i64 r, .int .i64 m, .str s, .agg T] = some (.int .i64 e, [])) (o17 : F17 [.agg C, .int .i64 r, .int .i64 m, .str s, .agg T] = some (.int .i64 e, [])) (k1 : aeqCells k32 N N = some true) :
    evFun Φ K a5 [.agg C, .int .i64 r, .int .i64 m, .str s, .agg T] = some (.bool true, []) := by
  have kt : C.take 32 = C := List.take_of_length_le (by omega)
  have tt : T.take 32 = T := List.take_of_length_le (by omega)
  have nt : N.take 32 = N := List.take_of_length_le (by omega)
  simp -implicitDefEqProofs [a5, Tryd.c5, h9, h13, h14, h15, h16, h17, hs, o9, o13, o14, o15, o16, o17, k1, kl, kt, tl, tt, nl, nt, plains_cells pk, plains_in pk, plains_low pk, plains_lend pk, plains_mv pk, plains_cells pt, plains_in pt, plains_low pt, plains_lend pt, plains_mv pt, plains_cells pn, plains_in pn, plains_low pn, plains_lend pn, plains_mv pn, plains_cells z23_plain, plains_in z23_plain, plains_low z23_plain, plains_lend z23_plain, plains_mv z23_plain, z23_len, z23_drop, abin]
theorem law5_no (Φ : Nat → Option FnF) (K : Nat) (F9 F13 F14 F16 F17 : CallF) (G9 G13 G14 G16 G17 : InlF) (h9 : Φ 9 = some ⟨F9, G9⟩) (h13 : Φ 13 = some ⟨F13, G13⟩) (h14 : Φ 14 = some ⟨F14, G14⟩) (h16 : Φ 16 = some ⟨F16, G16⟩) (h17 : Φ 17 = some ⟨F17, G17⟩) (C T : List AV) (pk : C.all AV.plain = true) (kl : C.length = 32) (pt : T.all AV.plain = true) (tl : T.length = 32) (r m : Int) (s : ByteArray) (hs : ¬ 16384 < (s.size : Int)) (e : Int)
    (o9 : F9 [] = some (.bool true, [])) (o13 : F13 [.agg C, .int .i64 r, .int .i64 m] = some (.tup [.agg z23, .int .i64 50], [])) (o14 : F14 [.int .i64 r, .int .i64 m] = some (.bool false, []))
    (o16 : F16 [.agg C, .int .i64 r, .int .i64 m, .str s, .agg T] = some (.int .i64 e, [])) (o17 : F17 [.agg C, .int .i64 r, .int .i64 m, .str s, .agg T] = some (.int .i64 e, [])) (k1 : aeqCells k32 z23 z23 = some true) :
    evFun Φ K a5 [.agg C, .int .i64 r, .int .i64 m, .str s, .agg T] = some (.bool true, []) := by
  have kt : C.take 32 = C := List.take_of_length_le (by omega)
  have tt : T.take 32 = T := List.take_of_length_le (by omega)
  have zt : z23.take 32 = z23 := List.take_of_length_le (by rw [z23_len]; omega)
  simp -implicitDefEqProofs [a5, Tryd.c5, h9, h13, h14, h16, h17, hs, o9, o13, o14, o16, o17, k1, kl, kt, tl, tt, zt, plains_cells pk, plains_in pk, plains_low pk, plains_lend pk, plains_mv pk, plains_cells pt, plains_in pt, plains_low pt, plains_lend pt, plains_mv pt, plains_cells z23_plain, plains_in z23_plain, plains_low z23_plain, plains_lend z23_plain, plains_mv z23_plain, z23_len, z23_drop, abin]
theorem law5 (x0 x1 x2 x3 x4 : AV) (o0 : ∃ cs, x0 = .agg cs ∧ okRow (List.replicate 32 (.int .u8)) cs) (o1 : okRow [.int .i64] [x1]) (o2 : okRow [.int .i64] [x2]) (o3 : okRow [.str] [x3]) (o4 : ∃ cs, x4 = .agg cs ∧ okRow (List.replicate 32 (.int .u8)) cs) : E 11 5 [x0, x1, x2, x3, x4] = some (.bool true, []) := by
  obtain ⟨cs, rfl, h0⟩ := o0
  obtain ⟨key, hk, rfl⟩ := ok_bytes 32 cs h0
  obtain ⟨r, vs, e1, _, _⟩ := o1.int
  obtain ⟨rfl, _⟩ : x1 = .int .i64 r ∧ _ := by simpa using e1
  obtain ⟨m, vs2, e2, _, _⟩ := o2.int
  obtain ⟨rfl, _⟩ : x2 = .int .i64 m ∧ _ := by simpa using e2
  obtain ⟨s, vs3, e3, _, _⟩ := o3.str
  obtain ⟨rfl, _⟩ : x3 = .str s ∧ _ := by simpa using e3
  obtain ⟨ct, rfl, h4⟩ := o4
  obtain ⟨t, ht, rfl⟩ := ok_bytes 32 ct h4
  obtain ⟨l, rfl⟩ := mkB s
  rw [e5]
  by_cases hs : 16384 < (((⟨l.toArray⟩ : ByteArray).size : Nat) : Int)
  · exact law5_long _ _ _ _ (u8s_plain _) (u8s_plain _) r m _ hs
  · have hl : l.length ≤ 90000 := by rw [size_of] at hs; omega
    have k13 := key13 3 key hk r m
    have k14 := owner14 9 r m
    by_cases ho : okn r m
    · rw [decide_eq_true ho] at k14
      rw [tkey, tkE, if_pos ho, if_pos ho] at k13
      exact law5_ok _ _ _ _ _ _ _ _ _ _ _ _ _ _ (q9 9) (q13 9) (q14 9) (q15 9) (q16 9) (q17 9) _ _ _ (u8s_plain _) (by rw [u8s_len, hk]) (u8s_plain _) (by rw [u8s_len, ht]) (u8s_plain _) (by rw [u8s_len, mac_len]) r m _ hs _ (macs9 2) k13 k14 (key15 4 key hk r m ho) (holds16 2 key t l hk ht hl r m) (holds17 3 key t l hk ht hl r m) (self32 _ (mac_len _ _))
    · rw [decide_eq_false ho] at k14
      rw [tkey, tkE, if_neg ho, if_neg ho, ← z23_u8s] at k13
      exact law5_no _ _ _ _ _ _ _ _ _ _ _ _ (q9 9) (q13 9) (q14 9) (q16 9) (q17 9) _ _ (u8s_plain _) (by rw [u8s_len, hk]) (u8s_plain _) (by rw [u8s_len, ht]) r m _ hs _ (macs9 2) k13 k14 (holds16 2 key t l hk ht hl r m) (holds17 3 key t l hk ht hl r m) (by rw [z23_u8s]; exact self32 _ (by simp))
theorem ref5 : Refines Go.Proofs.Tryd.prog 5 (E 11 5) := ref 11 5 (q5 10)
theorem law6_skip (Φ : Nat → Option FnF) (K : Nat) (C : List AV) (pk : C.all AV.plain = true) (r m a y : Int) (s : ByteArray) (hs : 16384 < (s.size : Int) ∨ a < 0 ∨ 32 ≤ a) :
    evFun Φ K a6 [.agg C, .int .i64 r, .int .i64 m, .str s, .int .i64 a, .int .u8 y] = some (.bool true, []) := by
  by_cases h1 : 16384 < (s.size : Int)
  · simp -implicitDefEqProofs [a6, Tryd.c6, h1, plains_cells pk, plains_in pk, plains_low pk, plains_lend pk, plains_mv pk, abin]
  by_cases h2 : a < 0
  · simp -implicitDefEqProofs [a6, Tryd.c6, h1, h2, plains_cells pk, plains_in pk, plains_low pk, plains_lend pk, plains_mv pk, abin]
  have h3 : 32 ≤ a := by omega
  simp -implicitDefEqProofs [a6, Tryd.c6, h1, h2, h3, plains_cells pk, plains_in pk, plains_low pk, plains_lend pk, plains_mv pk, abin]
theorem law6_no (Φ : Nat → Option FnF) (K : Nat) (F9 F10 F13 F16 : CallF) (G9 G10 G13 G16 : InlF) (h9 : Φ 9 = some ⟨F9, G9⟩) (h10 : Φ 10 = some ⟨F10, G10⟩) (h13 : Φ 13 = some ⟨F13, G13⟩) (h16 : Φ 16 = some ⟨F16, G16⟩) (C N T : List AV) (pk : C.all AV.plain = true) (kl : C.length = 32) (pn : N.all AV.plain = true) (nl : N.length = 32) (pt : T.all AV.plain = true) (tl : T.length = 32) (r m a y : Int) (s : ByteArray) (h1 : ¬ 16384 < (s.size : Int)) (h2 : ¬ a < 0) (h3 : ¬ 32 ≤ a)
    (o9 : F9 [] = some (.bool true, [])) (o13 : F13 [.agg C, .int .i64 r, .int .i64 m] = some (.tup [.agg N, .int .i64 50], [])) (o10 : F10 [.agg N, .str s] = some (.agg T, [])) (o16 : F16 [.agg C, .int .i64 r, .int .i64 m, .str s, .agg T] = some (.int .i64 50, [])) :
    evFun Φ K a6 [.agg C, .int .i64 r, .int .i64 m, .str s, .int .i64 a, .int .u8 y] = some (.bool true, []) := by
  have kt : C.take 32 = C := List.take_of_length_le (by omega)
  have nt : N.take 32 = N := List.take_of_length_le (by omega)
  have tt : T.take 32 = T := List.take_of_length_le (by omega)
  simp -implicitDefEqProofs [a6, Tryd.c6, h9, h10, h13, h16, o9, o10, o13, o16, h1, h2, h3, kl, kt, nl, nt, tl, tt, plains_cells pk, plains_in pk, plains_low pk, plains_lend pk, plains_mv pk, plains_cells pn, plains_in pn, plains_low pn, plains_lend pn, plains_mv pn, plains_cells pt, plains_in pt, plains_low pt, plains_lend pt, plains_mv pt, z23_len, z23_drop, z25_len, z25_drop, abin]
theorem law6_of (Φ : Nat → Option FnF) (K : Nat) (F9 F10 F12 F13 F16 : CallF) (G9 G10 G12 G13 G16 : InlF) (h9 : Φ 9 = some ⟨F9, G9⟩) (h10 : Φ 10 = some ⟨F10, G10⟩) (h12 : Φ 12 = some ⟨F12, G12⟩) (h13 : Φ 13 = some ⟨F13, G13⟩) (h16 : Φ 16 = some ⟨F16, G16⟩) (C N T U : List AV) (pk : C.all AV.plain = true) (kl : C.length = 32) (pn : N.all AV.plain = true) (nl : N.length = 32) (pt : T.all AV.plain = true) (tl : T.length = 32) (pu : U.all AV.plain = true) (ul : U.length = 32) (r m y x z : Int) (i : Nat) (hi : i < 32) (s : ByteArray) (h1 : ¬ 16384 < (s.size : Int)) (b : Bool) (hb : (y == 0) = b)
    (ti : T[i]? = some (.int .u8 x)) (bx : abits .xor .u8 x y = some (.int .u8 z)) (hu : T.take i ++ AV.int .u8 z :: T.drop (i + 1) = U)
    (o9 : F9 [] = some (.bool true, [])) (o13 : F13 [.agg C, .int .i64 r, .int .i64 m] = some (.tup [.agg N, .int .i64 0], [])) (o10 : F10 [.agg N, .str s] = some (.agg T, [])) (o16 : F16 [.agg C, .int .i64 r, .int .i64 m, .str s, .agg T] = some (.int .i64 0, []))
    (o16' : F16 [.agg C, .int .i64 r, .int .i64 m, .str s, .agg U] = some (.int .i64 (if b = true then 0 else 72), [])) (o12 : F12 [.agg T, .agg U] = some (.bool b, [])) :
    evFun Φ K a6 [.agg C, .int .i64 r, .int .i64 m, .str s, .int .i64 i, .int .u8 y] = some (.bool true, []) := by
  have kt : C.take 32 = C := List.take_of_length_le (by omega)
  have nt : N.take 32 = N := List.take_of_length_le (by omega)
  have tt : T.take 32 = T := List.take_of_length_le (by omega)
  have ut : U.take 32 = U := List.take_of_length_le (by omega)
  have h2 : ¬ (i : Int) < 0 := by omega
  have h3 : ¬ (32 : Int) ≤ (i : Int) := by omega
  have ti2 := (List.getElem?_eq_some_iff.1 ti).2
  have p1 : i + 1 ≤ 32 := by omega
  cases b <;> simp -implicitDefEqProofs [a6, Tryd.c6, h9, h10, h12, h13, h16, o9, o10, o12, o13, o16, o16', hb, ti, ti2, bx, hu, p1, hi, h1, h2, h3, kl, kt, nl, nt, tl, tt, ul, ut, plains_cells pk, plains_in pk, plains_low pk, plains_lend pk, plains_mv pk, plains_cells pn, plains_in pn, plains_low pn, plains_lend pn, plains_mv pn, plains_cells pt, plains_in pt, plains_low pt, plains_lend pt, plains_mv pt, plains_cells pu, plains_in pu, plains_low pu, plains_lend pu, plains_mv pu, z23_len, z23_drop, z25_len, z25_drop, abin]
theorem set_u8s (t : List UInt8) (i : Nat) (z : UInt8) (h : i < t.length) : (u8s t).take i ++ AV.int .u8 ((z.toNat : Nat) : Int) :: (u8s t).drop (i + 1) = u8s (t.set i z) := by
  rw [List.set_eq_take_append_cons_drop, if_pos h]
  simp [u8s]
theorem set_same (t : List UInt8) (i : Nat) (h : i < t.length) (y : UInt8) : (t = t.set i (t.getD i 0 ^^^ y)) ↔ y = 0 := by
  constructor
  · intro e
    have := congrArg (fun l => l.getD i 0) e
    simp only [List.getD_eq_getElem?_getD, List.getElem?_set_self h, Option.getD_some] at this
    generalize (t[i]?.getD 0) = x at this
    have h2 : x ^^^ (x ^^^ y) = x ^^^ x := by rw [← this]
    rw [← UInt8.xor_assoc, UInt8.xor_self, UInt8.zero_xor] at h2
    exact h2
  · rintro rfl
    have : t.getD i 0 = t[i] := by simp [List.getD, h]
    rw [UInt8.xor_zero, this, List.set_getElem_self]
theorem law6 (x0 x1 x2 x3 x4 x5 : AV) (o0 : ∃ cs, x0 = .agg cs ∧ okRow (List.replicate 32 (.int .u8)) cs) (o1 : okRow [.int .i64] [x1]) (o2 : okRow [.int .i64] [x2]) (o3 : okRow [.str] [x3]) (o4 : okRow [.int .i64] [x4]) (o5 : okRow [.int .u8] [x5]) : E 11 6 [x0, x1, x2, x3, x4, x5] = some (.bool true, []) := by
  obtain ⟨cs, rfl, h0⟩ := o0
  obtain ⟨key, hk, rfl⟩ := ok_bytes 32 cs h0
  obtain ⟨r, vs, e1, _, _⟩ := o1.int
  obtain ⟨rfl, _⟩ : x1 = .int .i64 r ∧ _ := by simpa using e1
  obtain ⟨m, vs2, e2, _, _⟩ := o2.int
  obtain ⟨rfl, _⟩ : x2 = .int .i64 m ∧ _ := by simpa using e2
  obtain ⟨s, vs3, e3, _, _⟩ := o3.str
  obtain ⟨rfl, _⟩ : x3 = .str s ∧ _ := by simpa using e3
  obtain ⟨a, vs4, e4', _, _⟩ := o4.int
  obtain ⟨rfl, _⟩ : x4 = .int .i64 a ∧ _ := by simpa using e4'
  obtain ⟨ds, hd, e5'⟩ := ok_bytes 1 [x5] o5
  obtain ⟨y, rfl⟩ : ∃ y, ds = [y] := by
    match ds, hd with
    | [y], _ => exact ⟨y, rfl⟩
  obtain rfl : x5 = .int .u8 y.toNat := by simpa [u8s] using e5'
  obtain ⟨l, rfl⟩ := mkB s
  rw [e6]
  by_cases hs : 16384 < (((⟨l.toArray⟩ : ByteArray).size : Nat) : Int) ∨ a < 0 ∨ 32 ≤ a
  · exact law6_skip _ _ _ (u8s_plain _) r m a _ _ hs
  · have hl : l.length ≤ 90000 := by rw [size_of] at hs; omega
    have hs1 : ¬ 16384 < (((⟨l.toArray⟩ : ByteArray).size : Nat) : Int) := fun h => hs (.inl h)
    obtain ⟨i, rfl⟩ : ∃ i : Nat, a = i := ⟨a.toNat, by omega⟩
    have hi : i < 32 := by omega
    have k13 := key13 3 key hk r m
    have k10 := mac10 4 (tkey key r m) l (tkey_len _ _ _) hl
    by_cases ho : okn r m
    · rw [tkE, if_pos ho] at k13
      have hh : ∀ t : List UInt8, hold key r m l t = if decide (mac (tkey key r m) l = t) = true then 0 else 72 := by
        intro t; unfold hold; simp [ho]
      have ht := mac_len (tkey key r m) l
      have hA : ∀ T : List UInt8, T.length = 32 → E 10 16 [.agg (u8s key), .int .i64 r, .int .i64 m, .str ⟨l.toArray⟩, .agg (u8s T)] = some (.int .i64 (if decide (mac (tkey key r m) l = T) = true then 0 else 72), []) := by
        intro T hT; rw [← hh]; exact holds16 2 key T l hk hT hl r m
      have h1 := hA _ ht
      rw [decide_eq_true rfl, if_pos rfl] at h1
      generalize mac (tkey key r m) l = t at *
      have hset : (t.set i (t.getD i 0 ^^^ y)).length = 32 := by simp [ht]
      have hss := set_same t i (by omega) y
      have hdec : decide (t = t.set i (t.getD i 0 ^^^ y)) = decide (y = 0) := decide_eq_decide.2 hss
      have h2 := hA _ hset
      rw [hdec] at h2
      have h12 := same12 9 t _ ht hset
      rw [hdec] at h12
      exact law6_of _ _ _ _ _ _ _ _ _ _ _ _ (q9 9) (q10 9) (q12 9) (q13 9) (q16 9) _ _ _ _ (u8s_plain _) (by rw [u8s_len, hk]) (u8s_plain _) (by rw [u8s_len, tkey_len]) (u8s_plain _) (by rw [u8s_len, ht]) (u8s_plain _) (by rw [u8s_len, hset]) r m _ _ _ i hi _ hs1 (decide (y = 0)) (u8_zero y) (u8s_at (by omega)) (b_xor _ y) (set_u8s t i _ (by omega)) (macs9 2) k13 k10 h1 h2 h12
    · rw [tkE, if_neg ho] at k13
      have h1 := holds16 2 key (mac (tkey key r m) l) l hk (mac_len _ _) hl r m
      rw [show hold key r m l (mac (tkey key r m) l) = 50 by unfold hold; rw [if_neg ho]] at h1
      exact law6_no _ _ _ _ _ _ _ _ _ _ (q9 9) (q10 9) (q13 9) (q16 9) _ _ _ (u8s_plain _) (by rw [u8s_len, hk]) (u8s_plain _) (by rw [u8s_len, tkey_len]) (u8s_plain _) (by rw [u8s_len, mac_len]) r m _ _ _ hs1 (by omega) (by omega) (macs9 2) k13 k10 h1
theorem ref6 : Refines Go.Proofs.Tryd.prog 6 (E 11 6) := ref 11 6 (q6 10)
end Go.Abs.Tryd
