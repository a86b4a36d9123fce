/- Part 1 of Ris: what our evaluation of a function's code says, the machine's run does; no condition of its own. -/
import Derived.Test.YtilfmhcbfchigaaNumA
set_option linter.unusedVariables false
set_option linter.unusedSimpArgs false
set_option linter.unusedSectionVars false
namespace Go.Abs.Try
open Go Go.Abs

theorem bytesLess_val : ∀ (x y : List UInt8) (n : Nat), x.length = y.length → Op.bytesLess x y = decide (val n x < val n y)
  | [], [], n, _ => by simp [Op.bytesLess]
  | a :: x, b :: y, n, h => by
    simp only [List.length_cons, Nat.add_right_cancel_iff] at h
    rw [val_cons, val_cons]
    by_cases hab : a = b
    · subst hab
      rw [← bytesLess_val x y (n * 256 + a.toNat) h]
      have : ¬ (a < a) := by rw [UInt8.lt_iff_toNat_lt]; omega
      simp [Op.bytesLess]
    · have hne : a.toNat ≠ b.toNat := fun e => hab (UInt8.toNat.inj e)
      have h1 := val_lo x (n * 256 + a.toNat)
      have h2 := val_hi x (n * 256 + a.toNat)
      have h3 := val_lo y (n * 256 + b.toNat)
      have h4 := val_hi y (n * 256 + b.toNat)
      rw [← h] at h3 h4
      by_cases hlt : a.toNat < b.toNat
      · have e1 : a < b := by rw [UInt8.lt_iff_toNat_lt]; exact hlt
        have h5 : (n * 256 + a.toNat + 1) * 256 ^ x.length ≤ (n * 256 + b.toNat) * 256 ^ x.length := Nat.mul_le_mul_right _ (by omega)
        simp only [Op.bytesLess, e1, decide_true, Bool.true_or]
        symm; rw [decide_eq_true_eq]; omega
      · have e1 : ¬ a < b := by rw [UInt8.lt_iff_toNat_lt]; omega
        have h5 : (n * 256 + b.toNat + 1) * 256 ^ x.length ≤ (n * 256 + a.toNat) * 256 ^ x.length := Nat.mul_le_mul_right _ (by omega)
        have e2 : (a == b) = false := by simpa using hab
        simp only [Op.bytesLess, e1, e2, decide_false, Bool.false_or, Bool.false_and]
        symm; rw [decide_eq_false_iff_not]; omega
  | [], _ :: _, _, h => by simp at h
  | _ :: _, [], _, h => by simp at h

/-- more digits, a greater number -/
theorem len_val (x y : List UInt8) (hy : y.head? ≠ some 0) (h : x.length < y.length) : val 0 x < val 0 y := by
  match y, hy, h with
  | b :: q, hy, h =>
    have h1 := val_hi x 0
    rw [val_cons]
    have h2 := val_lo q (0 * 256 + b.toNat)
    have hb : 1 ≤ b.toNat := by
      rcases Nat.eq_zero_or_pos b.toNat with e | e
      · exact absurd (by simp only [List.head?_cons, Option.some.injEq]; apply UInt8.toNat.inj; simpa using e) hy
      · exact e
    have h3 : 256 ^ x.length ≤ 256 ^ q.length := Nat.pow_le_pow_right (by omega) (by simp at h; omega)
    have h4 : 1 * 256 ^ q.length ≤ (0 * 256 + b.toNat) * 256 ^ q.length := Nat.mul_le_mul_right _ (by omega)
    omega

theorem law5 (n m : Int) : ∃ k, evFun F2 k a5 [.int .i64 n, .int .i64 m] = some (.bool true, []) := by
  refine ⟨1, ?_⟩
  obtain ⟨x, e, h1, hx⟩ := num_some n
  obtain ⟨y, f, h2, hy⟩ := num_some m
  rcases hx with ⟨rfl, _⟩ | ⟨rfl, rfl, p1, p2⟩
  · simp -implicitDefEqProofs [a5, c5, F2, F1, okF, h1, h2]
  · rcases hy with ⟨rfl, _⟩ | ⟨rfl, rfl, q1, q2⟩
    · simp -implicitDefEqProofs [a5, c5, F2, F1, okF, h1, h2]
    · have v1 := (dig_good n p1 p2).2
      have v2 := (dig_good m q1 q2).2
      have d1 := dig_head n.toNat [] (.inr (by simp))
      have d2 := dig_head m.toNat [] (.inr (by simp))
      generalize dig n.toNat [] = x at *
      generalize dig m.toNat [] = y at *
      have hxy : (x == y) = (n == m) := by
        rw [Bool.eq_iff_iff, beq_iff_eq, beq_iff_eq]
        constructor
        · rintro rfl; omega
        · intro hnm
          have a1 := dig_val x 0 [] (.inr d1)
          have a2 := dig_val y 0 [] (.inr d2)
          rw [dig_zero, List.append_nil] at a1 a2
          rw [← a1, ← a2]; congr 1; omega
      by_cases hl : (x.length : Int) < y.length
      · have hv := len_val x y d2 (by omega)
        have hnm : n < m := by omega
        simp -implicitDefEqProofs [a5, c5, F2, F1, okF, h1, h2, hl, hnm, hxy]
      · by_cases he : x.length = y.length
        · have hb := bytesLess_val x y 0 he
          have he' : ((x.length : Int) == y.length) = true := by rw [beq_iff_eq]; omega
          have hb' : Op.bytesLess x y = decide (n < m) := by
            rw [hb]; congr 1; rw [eq_iff_iff]; omega
          simp -implicitDefEqProofs [a5, c5, F2, F1, okF, h1, h2, hl, he', hb', hxy]
        · have hv := len_val y x d1 (by omega)
          have hnm : ¬ n < m := by omega
          have he' : ((x.length : Int) == y.length) = false := by rw [beq_eq_false_iff_ne]; omega
          simp -implicitDefEqProofs [a5, c5, F2, F1, okF, h1, h2, hl, he', hnm, hxy]
end Go.Abs.Try

namespace Go.Abs.Try
open Go Go.Abs Go.Proofs Go.RowKit
def lawII : CallF
  | [.int .i64 _, .int .i64 _] => some (.bool true, [])
  | _ => none
theorem ref5 : Refines Try.prog 5 lawII := refines_of Try.func5 fit5 phi2 (fun bs r h => by
  unfold lawII at h
  split at h
  · next n m => obtain rfl := Option.some.inj h; exact law5 n m
  · cases h)
theorem walk5 (n m : Int) (w : World) : Calls Try.prog 5 #[.int .i64 n, .int .i64 m] w fun e w' => e = .returned (.bool true) ∧ Below w.heap.size w w' :=
  ref5.law (bs := [.int .i64 n, .int .i64 m]) rfl (.cons0 (.int _ _) (.cons0 (.int _ _) .nil))
end Go.Abs.Try
