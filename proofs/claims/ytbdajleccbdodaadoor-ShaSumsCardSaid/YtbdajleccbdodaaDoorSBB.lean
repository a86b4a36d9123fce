/- Part 2 of SB: what our evaluation of a function's code says, the machine's run does; no condition of its own. -/
import Derived.Test.YtbdajleccbdodaaDoorSBA
set_option linter.unusedVariables false
set_option linter.unusedSimpArgs false
set_option linter.unusedSectionVars false
namespace Go.Abs.Tryd
open Go Go.Abs Go.Proofs Go.Abs.Sha
set_option maxHeartbeats 64000000
set_option maxRecDepth 100000
set_option linter.unusedSimpArgs false
set_option linter.unusedVariables false
theorem leaf14_of (Φ : Nat → Option FnF) (K : Nat) (F : CallF) (G : InlF) (D : List AV) (l : List UInt8) (hl : l.length ≤ 100000) (hF : Φ 11 = some ⟨F, G⟩) (h : F [.str ⟨(0 :: l).toArray⟩] = some (.agg D, [])) (hp : D.all AV.plain = true) (hl2 : D.length = 32) : evFun Φ K a14 [.str ⟨l.toArray⟩] = some (.agg D, []) := by
  have ht : D.take 32 = D := List.take_of_length_le (by omega)
  have s2 := astr_add_bytes [0] l (by simp; omega)
  change astr .add ⟨#[0]⟩ _ = some (.str ⟨(0 :: l).toArray⟩) at s2
  generalize (0 :: l).toArray = A at *
  simp -implicitDefEqProofs [a14, Tryd.c14, hF, h, s2, abin, plains_cells hp, plains_mv hp, plains_in hp, hl2, ht, z27_len, z27_drop]
theorem leaf14 (n : Nat) (l : List UInt8) (hl : l.length ≤ 90000) : E (n + 5) 14 [.str ⟨l.toArray⟩] = some (.agg (u8s (sha (0 :: l))), []) := by
  rw [e14]
  exact leaf14_of _ _ _ _ _ l (by omega) (q11 (n + 3)) (sum11 n (0 :: l) (by simp; omega)) (u8s_plain _) (cells32 _)
theorem text22 (n : Nat) (a : List UInt8) (ha : a.length = 32) : E (n + 1) 22 [.agg (u8s a)] = some (.str ⟨a.toArray⟩, []) := by
  rw [e22]
  have pa := u8s_plain a
  have la : (u8s a).length = 32 := by rw [u8s_len, ha]
  have ta : (u8s a).take 32 = u8s a := List.take_of_length_le (by omega)
  have ma := u8s_map a
  have ra := toBytes_rows a
  simp -implicitDefEqProofs [a22, Tryd.c22, plains_cells pa, plains_in pa, la, ta, ma, ra, pa]
theorem knot16_of (Φ : Nat → Option FnF) (K : Nat) (F F22 : CallF) (G G22 : InlF) (D : List AV) (a b : List UInt8) (ha : a.length = 32) (hb : b.length = 32) (hF : Φ 11 = some ⟨F, G⟩) (hF22 : Φ 22 = some ⟨F22, G22⟩) (h : F [.str ⟨(1 :: (a ++ b)).toArray⟩] = some (.agg D, []))
    (ta' : F22 [.agg (u8s a)] = some (.str ⟨a.toArray⟩, [])) (tb' : F22 [.agg (u8s b)] = some (.str ⟨b.toArray⟩, [])) (hp : D.all AV.plain = true) (hl : D.length = 32) : evFun Φ K a16 [.agg (u8s a), .agg (u8s b)] = some (.agg D, []) := by
  have ht : D.take 32 = D := List.take_of_length_le (by omega)
  have pa := u8s_plain a
  have pb := u8s_plain b
  have la : (u8s a).length = 32 := by rw [u8s_len, ha]
  have lb : (u8s b).length = 32 := by rw [u8s_len, hb]
  have ta : (u8s a).take 32 = u8s a := List.take_of_length_le (by omega)
  have tb : (u8s b).take 32 = u8s b := List.take_of_length_le (by omega)
  have s1 := astr_add_bytes [1] a (by simp; omega)
  have s2 := astr_add_bytes (1 :: a) b (by simp; omega)
  change astr .add ⟨#[1]⟩ _ = some (.str ⟨(1 :: a).toArray⟩) at s1
  rw [List.cons_append] at s2
  generalize (1 :: (a ++ b)).toArray = A at *
  generalize (1 :: a).toArray = A1 at *
  simp -implicitDefEqProofs [a16, Tryd.c16, hF, hF22, h, ta', tb', s1, s2, abin, plains_cells hp, plains_mv hp, plains_in hp, plains_low hp, plains_cells pa, plains_in pa, plains_low pa, plains_lend pa, plains_cells pb, plains_in pb, plains_low pb, plains_lend pb, hl, ht, z27_len, z27_drop, la, lb, ta, tb]
theorem knot16 (n : Nat) (a b : List UInt8) (ha : a.length = 32) (hb : b.length = 32) : E (n + 5) 16 [.agg (u8s a), .agg (u8s b)] = some (.agg (u8s (sha (1 :: (a ++ b)))), []) := by
  rw [e16]
  exact knot16_of _ _ _ _ _ _ _ a b ha hb (q11 (n + 3)) (q22 (n + 3)) (sum11 n (1 :: (a ++ b)) (by simp; omega)) (text22 (n + 3) a ha) (text22 (n + 3) b hb) (u8s_plain _) (cells32 _)
theorem law3_no (Φ : Nat → Option FnF) (K : Nat) (F8 : CallF) (G8 : InlF) (h8 : Φ 8 = some ⟨F8, G8⟩) (a : AV) (hin : ∀ h c nm, inVal h c nm a = some (a, h, c)) (hmv : ∀ h r mv, mvArgs h (a :: r) mv = (mvArgs h r mv.tail).map fun q => (a :: q.1, q.2.1, q.2.2)) (hle : ∀ h, lendArg h a = some a)
    (c8 : F8 [a] = some (.tup [.str ⟨#[]⟩, .bool false], [])) : evFun Φ K a3 [a] = some (.bool true, []) := by
  simp -implicitDefEqProofs [a3, Tryd.c3, h8, c8, hin, hmv, hle, abin]
theorem law3_of (Φ : Nat → Option FnF) (K : Nat) (F8 F9 F10 F11 : CallF) (G8 G9 G10 G11 : InlF) (h8 : Φ 8 = some ⟨F8, G8⟩) (h9 : Φ 9 = some ⟨F9, G9⟩) (h10 : Φ 10 = some ⟨F10, G10⟩) (h11 : Φ 11 = some ⟨F11, G11⟩) (a : AV) (hin : ∀ h c nm, inVal h c nm a = some (a, h, c)) (hmv : ∀ h r mv, mvArgs h (a :: r) mv = (mvArgs h r mv.tail).map fun q => (a :: q.1, q.2.1, q.2.2)) (hle : ∀ h, lendArg h a = some a)
    (s : ByteArray) (D : List AV) (c8 : F8 [a] = some (.tup [.str s, .bool true], [])) (c9 : F9 [] = some (.bool true, [])) (o1 : F10 [a] = some (.agg D, [])) (o2 : F11 [.str s] = some (.agg D, []))
    (p : D.all AV.plain = true) (l : D.length = 32) (k1 : aeqCells k32 D D = some true) : evFun Φ K a3 [a] = some (.bool true, []) := by
  simp -implicitDefEqProofs [a3, Tryd.c3, h8, h9, h10, h11, c8, c9, o1, o2, hin, hmv, hle, abin, p, l, k1, plains_in p]
theorem law3 (x0 : AV) (o0 : okRow [.sl [.str]] [x0]) : E 9 3 [x0] = some (.bool true, []) := by
  obtain ⟨ps, hA⟩ := ok_strs o0
  have hin : ∀ h c nm, inVal h c nm x0 = some (x0, h, c) := by intro h c nm; cases hA <;> rfl
  have hmv : ∀ h r mv, mvArgs h (x0 :: r) mv = (mvArgs h r mv.tail).map fun q => (x0 :: q.1, q.2.1, q.2.2) := by intro h r mv; cases hA <;> rfl
  have hle : ∀ h, lendArg h x0 = some x0 := by intro h; cases hA <;> rfl
  rw [e3]
  rcases joined8 7 x0 ps hA with ⟨hj, hp, hf⟩ | hj
  · exact law3_of _ _ _ _ _ _ _ _ _ _ (q8 7) (q9 7) (q10 7) (q11 7) x0 hin hmv hle _ _ hj (sums9 1) (of10' 3 x0 ps ps.flatten hA (by omega) rfl (by omega)) (sum11 4 ps.flatten (by omega)) (u8s_plain _) (cells32 _) (self32 _ (sha_len _))
  · exact law3_no _ _ _ _ (q8 7) x0 hin hmv hle hj
theorem ref3 : Refines Go.Proofs.Tryd.prog 3 (E 9 3) := ref 9 3 (q3 8)
theorem law5_long (Φ : Nat → Option FnF) (K : Nat) (s : ByteArray) (hs : 65536 < (s.size : Int)) (a b : List UInt8) (ha : a.length = 32) (hb : b.length = 32) : evFun Φ K a5 [.str s, .agg (u8s a), .agg (u8s b)] = some (.bool true, []) := by
  have pa := u8s_plain a
  have pb := u8s_plain b
  simp -implicitDefEqProofs [a5, Tryd.c5, hs, plains_cells pa, plains_in pa, plains_low pa, plains_lend pa, plains_mv pa, plains_cells pb, plains_in pb, plains_low pb, plains_lend pb, plains_mv pb, abin]
theorem law5_of (Φ : Nat → Option FnF) (K : Nat) (F9 F11 F12 F13 F14 F15 F16 : CallF) (G9 G11 G12 G13 G14 G15 G16 : InlF) (h9 : Φ 9 = some ⟨F9, G9⟩) (h11 : Φ 11 = some ⟨F11, G11⟩) (h12 : Φ 12 = some ⟨F12, G12⟩) (h13 : Φ 13 = some ⟨F13, G13⟩) (h14 : Φ 14 = some ⟨F14, G14⟩) (h15 : Φ 15 = some ⟨F15, G15⟩) (h16 : Φ 16 = some ⟨F16, G16⟩)
    (s : ByteArray) (hs : ¬ 65536 < (s.size : Int)) (a b : List UInt8) (ha : a.length = 32) (hb : b.length = 32) (D1 D2 D3 : List AV)
    (c9 : F9 [] = some (.bool true, [])) (c13 : F13 [.str s] = some (.agg D1, [])) (c14 : F14 [.str s] = some (.agg D1, []))
    (c15 : F15 [.agg (u8s a), .agg (u8s b)] = some (.agg D2, [])) (c16 : F16 [.agg (u8s a), .agg (u8s b)] = some (.agg D2, []))
    (c12 : F12 [] = some (.agg D3, [])) (c11 : F11 [.str ⟨#[]⟩] = some (.agg D3, []))
    (p1 : D1.all AV.plain = true) (p2 : D2.all AV.plain = true) (p3 : D3.all AV.plain = true) (l1 : D1.length = 32) (l2 : D2.length = 32) (l3 : D3.length = 32)
    (k1 : aeqCells k32 D1 D1 = some true) (k2 : aeqCells k32 D2 D2 = some true) (k3 : aeqCells k32 D3 D3 = some true) :
    evFun Φ K a5 [.str s, .agg (u8s a), .agg (u8s b)] = some (.bool true, []) := by
  have pa := u8s_plain a
  have pb := u8s_plain b
  have la : (u8s a).length = 32 := by rw [u8s_len, ha]
  have lb : (u8s b).length = 32 := by rw [u8s_len, hb]
  have ta : (u8s a).take 32 = u8s a := List.take_of_length_le (by omega)
  have tb : (u8s b).take 32 = u8s b := List.take_of_length_le (by omega)
  simp -implicitDefEqProofs [a5, Tryd.c5, h9, h11, h12, h13, h14, h15, h16, hs, c9, c11, c12, c13, c14, c15, c16, p1, p2, p3, l1, l2, l3, k1, k2, k3, plains_cells pa, plains_in pa, plains_low pa, plains_lend pa, plains_mv pa, plains_cells pb, plains_in pb, plains_low pb, plains_lend pb, plains_mv pb,
    plains_in p1, plains_low p1, plains_in p2, plains_low p2, plains_in p3, plains_low p3, la, lb, ta, tb, pa, pb, abin]
theorem law5 (x0 x1 x2 : AV) (o0 : okRow [.str] [x0]) (o1 : ∃ cs, x1 = .agg cs ∧ okRow (List.replicate 32 (.int .u8)) cs) (o2 : ∃ cs, x2 = .agg cs ∧ okRow (List.replicate 32 (.int .u8)) cs) : E 9 5 [x0, x1, x2] = some (.bool true, []) := by
  obtain ⟨s, vs, e, _, _⟩ := o0.str
  obtain ⟨rfl, _⟩ : x0 = .str s ∧ _ := by simpa using e
  obtain ⟨cs, rfl, h0⟩ := o1
  obtain ⟨ds, hd, rfl⟩ := ok_bytes 32 cs h0
  obtain ⟨ct, rfl, h1⟩ := o2
  obtain ⟨dt, hdt, rfl⟩ := ok_bytes 32 ct h1
  obtain ⟨l, rfl⟩ := mkB s
  rw [e5]
  by_cases hs : 65536 < (((⟨l.toArray⟩ : ByteArray).size : Nat) : Int)
  · exact law5_long _ _ _ hs _ _ hd hdt
  · have hl : l.length ≤ 65536 := by rw [size_of] at hs; omega
    exact law5_of _ _ _ _ _ _ _ _ _ _ _ _ _ _ _ _ (q9 7) (q11 7) (q12 7) (q13 7) (q14 7) (q15 7) (q16 7) _ hs ds dt hd hdt _ _ _ (sums9 1) (leaf13 2 l (by omega)) (leaf14 3 l (by omega)) (knot15 2 ds dt hd hdt) (knot16 3 ds dt hd hdt) (empty12 2) (sum11 4 [] (by simp))
      (u8s_plain _) (u8s_plain _) (u8s_plain _) (cells32 _) (cells32 _) (cells32 _) (self32 _ (sha_len _)) (self32 _ (sha_len _)) (self32 _ (sha_len _))
theorem ref5 : Refines Go.Proofs.Tryd.prog 5 (E 9 5) := ref 9 5 (q5 8)
end Go.Abs.Tryd
