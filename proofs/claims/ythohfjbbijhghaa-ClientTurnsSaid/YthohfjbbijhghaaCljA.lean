/- Part 1 of Clj: what our evaluation of a function's code says, the machine's run does; no condition of its own. -/
import Derived.Test.YthohfjbbijhghaaCliA
set_option linter.unusedVariables false
set_option linter.unusedSimpArgs false
set_option linter.unusedSectionVars false
namespace Go.Abs.Try
open Go Go.Abs
set_option maxHeartbeats 16000000
set_option maxRecDepth 100000
set_option linter.unusedSimpArgs false
set_option linter.unusedVariables false

theorem right_tg {id rs rg tg sq : Int} {bz : Bool} {tx : ByteArray} (h : right id rs rg tg sq bz tx = true) {t : Int} (h1 : 1 ≤ t) (h2 : t ≤ 3) : right id rs rg t sq bz tx = true := by
  simp only [right, Bool.and_eq_true] at h ⊢
  refine ⟨h.1, h.2.1, h.2.2.1, ?_, h.2.2.2.2⟩
  simp [inB, h1, h2]

theorem msg_3 (id rg tg sq tx) (h) : (msg id rg tg sq tx)[3]'h = .int .i64 rg := rfl
theorem msg_4 (id rg tg sq tx) (h) : (msg id rg tg sq tx)[4]'h = .int .i64 tg := rfl
theorem msg_116 (id rg tg sq tx) (h) : (msg id rg tg sq tx)[116]'h = .int .i64 sq := rfl
theorem msg_117 (id rg tg sq tx) (h) : (msg id rg tg sq tx)[117]'h = .str tx := rfl

/-- one round of ClientTurns: from node t to node u -/
theorem round7 (k : Nat) (id rs rg sq : Int) (tx : ByteArray) (t u : Int) (i : Int) (c : Nat) (s s' : List AV) (hi : i < 3) (hi0 : 0 ≤ i)
    (hr : E 6 15 [.agg [.int .i64 id, .int .i64 rs, .int .i64 rg, .int .i64 t, .int .i64 sq, .bool true, .str tx]] = some (.tup [.agg [.int .i64 id, .int .i64 rs, .int .i64 rg, .int .i64 u, .int .i64 sq, .bool true, .str tx], .agg (msg id rg u sq tx), .int .i64 0], []))
    (hu : (u = 1 ∧ ∃ a b d e, s = [.int .i64 a, .int .i64 b, .int .i64 d, .int .i64 e] ∧ s' = [.int .i64 a, .int .i64 (b + 1), .int .i64 d, .int .i64 e] ∧ 0 ≤ b ∧ b < 10) ∨
      (u = 2 ∧ ∃ a b d e, s = [.int .i64 a, .int .i64 b, .int .i64 d, .int .i64 e] ∧ s' = [.int .i64 a, .int .i64 b, .int .i64 (d + 1), .int .i64 e] ∧ 0 ≤ d ∧ d < 10) ∨
      (u = 3 ∧ ∃ a b d e, s = [.int .i64 a, .int .i64 b, .int .i64 d, .int .i64 e] ∧ s' = [.int .i64 a, .int .i64 b, .int .i64 d, .int .i64 (e + 1)] ∧ 0 ≤ e ∧ e < 10)) (cs0 : List AV) (t0 : Int) (hc0 : cs0 = [.int .i64 id, .int .i64 rs, .int .i64 rg, .int .i64 t0, .int .i64 sq, .bool true, .str tx]) :
    ∃ c', iter (ev (Q 6) 100 b7_0) [1, 2, 3, 4, 5] [1, 3, 4] (k + 1) ⟨[(1, .ptr 1 0 0), (3, .ptr 3 1 0), (4, .ptr 4 2 0), (5, .int .i64 i)], [⟨1, 0, .var cs0⟩, ⟨3, 1, .var s⟩, ⟨4, 2, .var [.int .i64 id, .int .i64 rs, .int .i64 rg, .int .i64 t, .int .i64 sq, .bool true, .str tx]⟩], c⟩ =
      iter (ev (Q 6) 100 b7_0) [1, 2, 3, 4, 5] [1, 3, 4] k ⟨[(1, .ptr 1 0 0), (3, .ptr 3 1 0), (4, .ptr 4 2 0), (5, .int .i64 (i + 1))], [⟨1, 0, .var cs0⟩, ⟨3, 1, .var s'⟩, ⟨4, 2, .var [.int .i64 id, .int .i64 rs, .int .i64 rg, .int .i64 u, .int .i64 sq, .bool true, .str tx]⟩], c'⟩ := by
  subst hc0
  refine ⟨c + 2, iter_norm ?_⟩
  rcases hu with ⟨rfl, a, b, d, e, rfl, rfl, h1, h2⟩ | ⟨rfl, a, b, d, e, rfl, rfl, h1, h2⟩ | ⟨rfl, a, b, d, e, rfl, rfl, h1, h2⟩
  · have w1 : IntKind.i64.wrap (i + 1) = i + 1 := wrap_i64 _ (by omega) (by omega)
    have w2 : IntKind.i64.wrap (b + 1) = b + 1 := wrap_i64 _ (by omega) (by omega)
    simp -implicitDefEqProofs [b7_0, St.keep, q15, hr, msg_3, msg_4, hi, z23, w1, w2]
  · have w1 : IntKind.i64.wrap (i + 1) = i + 1 := wrap_i64 _ (by omega) (by omega)
    have w2 : IntKind.i64.wrap (d + 1) = d + 1 := wrap_i64 _ (by omega) (by omega)
    simp -implicitDefEqProofs [b7_0, St.keep, q15, hr, msg_3, msg_4, hi, z23, w1, w2]
  · have w1 : IntKind.i64.wrap (i + 1) = i + 1 := wrap_i64 _ (by omega) (by omega)
    have w2 : IntKind.i64.wrap (e + 1) = e + 1 := wrap_i64 _ (by omega) (by omega)
    simp -implicitDefEqProofs [b7_0, St.keep, q15, hr, msg_3, msg_4, hi, z23, w1, w2]
end Go.Abs.Try

namespace Go.Abs.Try
open Go Go.Abs
set_option maxHeartbeats 16000000
set_option maxRecDepth 100000
set_option linter.unusedSimpArgs false
set_option linter.unusedVariables false

abbrev cells (id rs rg t sq : Int) (tx : ByteArray) : List AV := [.int .i64 id, .int .i64 rs, .int .i64 rg, .int .i64 t, .int .i64 sq, .bool true, .str tx]
abbrev st7 (id rs rg t0 t sq : Int) (tx : ByteArray) (b d e i : Int) (c : Nat) : St :=
  ⟨[(1, .ptr 1 0 0), (3, .ptr 3 1 0), (4, .ptr 4 2 0), (5, .int .i64 i)], [⟨1, 0, .var (cells id rs rg t0 sq tx)⟩, ⟨3, 1, .var [.int .i64 0, .int .i64 b, .int .i64 d, .int .i64 e]⟩, ⟨4, 2, .var (cells id rs rg t sq tx)⟩], c⟩

theorem end7 (k : Nat) (id rs rg t0 t sq : Int) (tx : ByteArray) (b d e : Int) (c : Nat) :
    iter (ev (Q 6) 100 b7_0) [1, 2, 3, 4, 5] [1, 3, 4] (k + 1) (st7 id rs rg t0 t sq tx b d e 3 c) =
      some (.exit 0, ⟨[(1, .ptr 1 0 0), (3, .ptr 3 1 0), (4, .ptr 4 2 0), (5, .int .i64 3), (25, .int .i64 3), (26, .bool false)], (st7 id rs rg t0 t sq tx b d e 3 c).h, c⟩) := by
  rw [iter_succ]
  simp -implicitDefEqProofs [b7_0]

theorem loop7 (id rs rg sq : Int) (tx : ByteArray) (tg : Int) (c : Nat) (h1 : 1 ≤ tg) (h3 : tg ≤ 3)
    (r : ∀ t, 1 ≤ t → t ≤ 3 → E 6 15 [.agg (cells id rs rg t sq tx)] = some (.tup [.agg (cells id rs rg (if t = 3 then 1 else t + 1) sq tx), .agg (msg id rg (if t = 3 then 1 else t + 1) sq tx), .int .i64 0], [])) :
    ∃ c', iter (ev (Q 6) 100 b7_0) [1, 2, 3, 4, 5] [1, 3, 4] 100 (st7 id rs rg tg tg sq tx 0 0 0 0 c) =
      some (.exit 0, ⟨[(1, .ptr 1 0 0), (3, .ptr 3 1 0), (4, .ptr 4 2 0), (5, .int .i64 3), (25, .int .i64 3), (26, .bool false)], (st7 id rs rg tg tg sq tx 1 1 1 3 c).h, c'⟩) := by
  have r1 := r 1 (by omega) (by omega)
  have r2 := r 2 (by omega) (by omega)
  have r3 := r 3 (by omega) (by omega)
  simp only [show ¬ (1 : Int) = 3 by omega, if_false, show (1 : Int) + 1 = 2 by omega] at r1
  simp only [show ¬ (2 : Int) = 3 by omega, if_false, show (2 : Int) + 1 = 3 by omega] at r2
  simp only [if_true] at r3
  obtain rfl | rfl | rfl : tg = 1 ∨ tg = 2 ∨ tg = 3 := by omega
  · obtain ⟨c1, e1⟩ := round7 99 id rs rg sq tx 1 2 0 c [.int .i64 0, .int .i64 0, .int .i64 0, .int .i64 0] [.int .i64 0, .int .i64 0, .int .i64 (0 + 1), .int .i64 0] (by omega) (by omega) r1 (.inr (.inl ⟨rfl, _, _, _, _, rfl, rfl, by omega, by omega⟩)) _ 1 rfl
    obtain ⟨c2, e2⟩ := round7 98 id rs rg sq tx 2 3 (0 + 1) c1 [.int .i64 0, .int .i64 0, .int .i64 (0 + 1), .int .i64 0] [.int .i64 0, .int .i64 0, .int .i64 (0 + 1), .int .i64 (0 + 1)] (by omega) (by omega) r2 (.inr (.inr ⟨rfl, _, _, _, _, rfl, rfl, by omega, by omega⟩)) _ 1 rfl
    obtain ⟨c3, e3⟩ := round7 97 id rs rg sq tx 3 1 (0 + 1 + 1) c2 [.int .i64 0, .int .i64 0, .int .i64 (0 + 1), .int .i64 (0 + 1)] [.int .i64 0, .int .i64 (0 + 1), .int .i64 (0 + 1), .int .i64 (0 + 1)] (by omega) (by omega) r3 (.inl ⟨rfl, _, _, _, _, rfl, rfl, by omega, by omega⟩) _ 1 rfl
    exact ⟨c3, e1.trans (e2.trans (e3.trans (end7 96 id rs rg 1 1 sq tx 1 1 1 c3)))⟩
  · obtain ⟨c1, e1⟩ := round7 99 id rs rg sq tx 2 3 0 c [.int .i64 0, .int .i64 0, .int .i64 0, .int .i64 0] [.int .i64 0, .int .i64 0, .int .i64 0, .int .i64 (0 + 1)] (by omega) (by omega) r2 (.inr (.inr ⟨rfl, _, _, _, _, rfl, rfl, by omega, by omega⟩)) _ 2 rfl
    obtain ⟨c2, e2⟩ := round7 98 id rs rg sq tx 3 1 (0 + 1) c1 [.int .i64 0, .int .i64 0, .int .i64 0, .int .i64 (0 + 1)] [.int .i64 0, .int .i64 (0 + 1), .int .i64 0, .int .i64 (0 + 1)] (by omega) (by omega) r3 (.inl ⟨rfl, _, _, _, _, rfl, rfl, by omega, by omega⟩) _ 2 rfl
    obtain ⟨c3, e3⟩ := round7 97 id rs rg sq tx 1 2 (0 + 1 + 1) c2 [.int .i64 0, .int .i64 (0 + 1), .int .i64 0, .int .i64 (0 + 1)] [.int .i64 0, .int .i64 (0 + 1), .int .i64 (0 + 1), .int .i64 (0 + 1)] (by omega) (by omega) r1 (.inr (.inl ⟨rfl, _, _, _, _, rfl, rfl, by omega, by omega⟩)) _ 2 rfl
    exact ⟨c3, e1.trans (e2.trans (e3.trans (end7 96 id rs rg 2 2 sq tx 1 1 1 c3)))⟩
  · obtain ⟨c1, e1⟩ := round7 99 id rs rg sq tx 3 1 0 c [.int .i64 0, .int .i64 0, .int .i64 0, .int .i64 0] [.int .i64 0, .int .i64 (0 + 1), .int .i64 0, .int .i64 0] (by omega) (by omega) r3 (.inl ⟨rfl, _, _, _, _, rfl, rfl, by omega, by omega⟩) _ 3 rfl
    obtain ⟨c2, e2⟩ := round7 98 id rs rg sq tx 1 2 (0 + 1) c1 [.int .i64 0, .int .i64 (0 + 1), .int .i64 0, .int .i64 0] [.int .i64 0, .int .i64 (0 + 1), .int .i64 (0 + 1), .int .i64 0] (by omega) (by omega) r1 (.inr (.inl ⟨rfl, _, _, _, _, rfl, rfl, by omega, by omega⟩)) _ 3 rfl
    obtain ⟨c3, e3⟩ := round7 97 id rs rg sq tx 2 3 (0 + 1 + 1) c2 [.int .i64 0, .int .i64 (0 + 1), .int .i64 (0 + 1), .int .i64 0] [.int .i64 0, .int .i64 (0 + 1), .int .i64 (0 + 1), .int .i64 (0 + 1)] (by omega) (by omega) r2 (.inr (.inr ⟨rfl, _, _, _, _, rfl, rfl, by omega, by omega⟩)) _ 3 rfl
    exact ⟨c3, e1.trans (e2.trans (e3.trans (end7 96 id rs rg 3 3 sq tx 1 1 1 c3)))⟩

theorem law7 (x0 : AV) (o0 : ∃ cs, x0 = .agg cs ∧ okRow [.int .i64, .int .i64, .int .i64, .int .i64, .int .i64, .bool, .str] cs) : E 7 7 [x0] = some (.bool true, []) := by
  obtain ⟨id, rs, rg, tg, sq, bz, tx, rfl⟩ := ok_client o0
  rw [e7]
  have h10 := check10 4 id rs rg tg sq bz tx
  unfold cl at h10
  by_cases hl : 5000 < (tx.size : Int)
  · simp -implicitDefEqProofs [a7, c7, q11, cl, hl, calls_ok]
  cases hr : right id rs rg tg sq bz tx
  · simp only [hr, Bool.false_eq_true, if_false] at h10
    simp -implicitDefEqProofs [a7, c7, q10, q11, h10, cl, hl, calls_ok]
  simp only [hr, if_true] at h10
  cases bz
  · simp -implicitDefEqProofs [a7, c7, q10, q11, h10, cl, hl, calls_ok]
  have htg : 1 ≤ tg ∧ tg ≤ 3 := by
    simp only [right, Bool.and_eq_true, inB, decide_eq_true_eq] at hr
    exact hr.2.2.2.1
  obtain ⟨c', hL⟩ := loop7 id rs rg sq tx tg 3 htg.1 htg.2 (fun t h1 h3 => by
    have := retry15 3 id rs rg t sq true tx
    simp only [retR, right_tg hr h1 h3, if_true, cl] at this
    exact this)
  simp -implicitDefEqProofs [a7, c7, q10, q11, h10, cl, hl, z23, z67]
  rw [iter_keep]
  simp only [envOnly, AH.only, List.any, Nat.beq]
  simp
  rw [hL]
  simp -implicitDefEqProofs [calls_ok]
theorem ref7 : Refines Go.Proofs.Try.prog 7 (E 7 7) := ref 7 7 (q7 6)
end Go.Abs.Try

namespace Go.Abs.Try
open Go Go.Abs
set_option maxHeartbeats 40000000
set_option maxRecDepth 100000
set_option linter.unusedSimpArgs false
set_option linter.unusedVariables false

/-- ClientOnce's answer, of what its calls answer: nobody is busy, and Submit fails -/
theorem once1 (id rs rg tg sq : Int) (tx : ByteArray) (r : Int) (t : ByteArray) (m : List AV) (e : Int) (he : (e == 0) = false) (hm : m.length = 120) (hp : m.all AV.plain = true) (hl : ¬ 5000 < (tx.size : Int)) (hk : ¬ 5000 < (t.size : Int))
    (hB : E 6 18 [.agg z60, .agg m] = some (.bool false, []))
    (h10 : E 6 10 [cl id rs rg tg sq false tx] = some (.int .i64 0, []))
    (h13 : E 6 13 [cl id rs rg tg sq false tx, .int .i64 r, .str t] = some (.tup [cl0, msg0, .int .i64 e], []))
    (h15 : E 6 15 [cl id rs rg tg sq false tx] = some (.tup [cl id rs rg tg sq false tx, msg0, .int .i64 0], []))
    (h19 : E 6 19 [cl id rs rg tg sq false tx, .agg m] = some (.tup [cl id rs rg tg sq false tx, .agg z62, .bool false, .int .i64 0], [])) :
    evFun (Q 6) 100 a6 [cl id rs rg tg sq false tx, .int .i64 r, .str t, .agg m] = some (.bool true, []) := by
  have c2 := plains_cells hp
  have l1 := plains_lend z60_plain
  have l2 := plains_lend hp
  have i2' := plains_in hp
  have g1 : m.take 120 = m := List.take_of_length_le (by omega)
  simp only [cl, msg0, cl0] at h10 h13 h15 h19
  simp -implicitDefEqProofs (maxSteps := 1000000) [a6, c6, q10, q11, q13, q15, q18, q19, hB, h10,  h13, h15, h19, cl, cl0, hl, hk, c2, l1, l2, i2', hm, g1, msg_3, msg_4, msg_116, msg_117, z60_len, z23, z62, calls_ok, he]

/-- Submit does it -/
theorem once2 (id rs rg tg sq tg2 : Int) (tx : ByteArray) (r : Int) (t : ByteArray) (m : List AV) (hm : m.length = 120) (hp : m.all AV.plain = true) (hl : ¬ 5000 < (tx.size : Int)) (hk : ¬ 5000 < (t.size : Int))
    (hB : E 6 18 [.agg z60, .agg m] = some (.bool false, []))
    (h10 : E 6 10 [cl id rs rg tg sq false tx] = some (.int .i64 0, []))
    (k10 : E 6 10 [cl id rs r tg2 (sq + 1) true t] = some (.int .i64 0, []))
    (h13 : E 6 13 [cl id rs rg tg sq false tx, .int .i64 r, .str t] = some (.tup [cl id rs r tg2 (sq + 1) true t, .agg (msg id r tg2 (sq + 1) t), .int .i64 0], []))
    (h15 : E 6 15 [cl id rs rg tg sq false tx] = some (.tup [cl id rs rg tg sq false tx, msg0, .int .i64 0], []))
    (h19 : E 6 19 [cl id rs rg tg sq false tx, .agg m] = some (.tup [cl id rs rg tg sq false tx, .agg z62, .bool false, .int .i64 0], [])) :
    evFun (Q 6) 100 a6 [cl id rs rg tg sq false tx, .int .i64 r, .str t, .agg m] = some (.bool true, []) := by
  have c2 := plains_cells hp
  have l1 := plains_lend z60_plain
  have l2 := plains_lend hp
  have i2' := plains_in hp
  have g1 : m.take 120 = m := List.take_of_length_le (by omega)
  have le : ¬ sq + 1 ≤ sq := by omega
  unfold msg0 at h15
  unfold cl at h10 k10 h13 h15 h19
  simp -implicitDefEqProofs (maxSteps := 1000000) [a6, c6, q10, q11, q13, q15, q18, q19, hB, h10, k10, h13, h15, h19, cl, cl0, hl, hk, c2, l1, l2, i2', hm, g1, msg_3, msg_4, msg_116, msg_117, z60_len, z23, z62, calls_ok, le]

/-- busy: Submit refuses, Retry turns, Hear does not hear -/
theorem once3 (id rs rg tg sq tg2 : Int) (tx : ByteArray) (r : Int) (t : ByteArray) (m : List AV) (ht : (tg2 == tg) = false) (hm : m.length = 120) (hp : m.all AV.plain = true) (hl : ¬ 5000 < (tx.size : Int)) (hk : ¬ 5000 < (t.size : Int))
    (hB : E 6 18 [.agg z60, .agg m] = some (.bool false, []))
    (h10 : E 6 10 [cl id rs rg tg sq true tx] = some (.int .i64 0, []))
    (k10 : E 6 10 [cl id rs rg tg2 sq true tx] = some (.int .i64 0, []))
    (h13 : E 6 13 [cl id rs rg tg sq true tx, .int .i64 r, .str t] = some (.tup [cl0, msg0, .int .i64 181], []))
    (h15 : E 6 15 [cl id rs rg tg sq true tx] = some (.tup [cl id rs rg tg2 sq true tx, .agg (msg id rg tg2 sq tx), .int .i64 0], []))
    (h19 : E 6 19 [cl id rs rg tg sq true tx, .agg m] = some (.tup [cl id rs rg tg sq true tx, .agg z62, .bool false, .int .i64 0], [])) :
    evFun (Q 6) 100 a6 [cl id rs rg tg sq true tx, .int .i64 r, .str t, .agg m] = some (.bool true, []) := by
  have c2 := plains_cells hp
  have l1 := plains_lend z60_plain
  have l2 := plains_lend hp
  have i2' := plains_in hp
  have g1 : m.take 120 = m := List.take_of_length_le (by omega)
  unfold msg0 cl0 at h13
  unfold cl at h10 k10 h13 h15 h19
  simp -implicitDefEqProofs (maxSteps := 1000000) [a6, c6, q10, q11, q13, q15, q18, q19, hB, h10, k10, h13, h15, h19, cl, cl0, hl, hk, c2, l1, l2, i2', hm, g1, msg_3, msg_4, msg_116, msg_117, z60_len, z23, z62, calls_ok, ht]

/-- busy, and it is heard -/
theorem once4 (id rs rg tg sq tg2 fn a4 a5 : Int) (tx : ByteArray) (r : Int) (t : ByteArray) (m : List AV) (ht : (tg2 == tg) = false) (hm : m.length = 120) (hp : m.all AV.plain = true) (hl : ¬ 5000 < (tx.size : Int)) (hk : ¬ 5000 < (t.size : Int))
    (f119 : m[119]? = some (.bool true))
    (hB : E 6 18 [.agg z60, .agg m] = some (.bool false, []))
    (h10 : E 6 10 [cl id rs rg tg sq true tx] = some (.int .i64 0, []))
    (k10 : E 6 10 [cl id rs rg tg2 sq true tx] = some (.int .i64 0, []))
    (j10 : E 6 10 [cl id rs rg fn sq false ⟨#[]⟩] = some (.int .i64 0, []))
    (h13 : E 6 13 [cl id rs rg tg sq true tx, .int .i64 r, .str t] = some (.tup [cl0, msg0, .int .i64 181], []))
    (h15 : E 6 15 [cl id rs rg tg sq true tx] = some (.tup [cl id rs rg tg2 sq true tx, .agg (msg id rg tg2 sq tx), .int .i64 0], []))
    (h19 : E 6 19 [cl id rs rg tg sq true tx, .agg m] = some (.tup [cl id rs rg fn sq false ⟨#[]⟩, .agg [.int .i64 id, .int .i64 sq, .int .i64 rg, .str tx, .int .i64 a4, .int .i64 a5], .bool true, .int .i64 0], [])) :
    evFun (Q 6) 100 a6 [cl id rs rg tg sq true tx, .int .i64 r, .str t, .agg m] = some (.bool true, []) := by
  have c2 := plains_cells hp
  have l1 := plains_lend z60_plain
  have l2 := plains_lend hp
  have i2' := plains_in hp
  have g1 : m.take 120 = m := List.take_of_length_le (by omega)
  have f119 := (List.getElem?_eq_some_iff.1 f119).2
  unfold msg0 cl0 at h13
  unfold cl at h10 k10 j10 h13 h15 h19
  simp -implicitDefEqProofs (maxSteps := 1000000) [a6, c6, q10, q11, q13, q15, q18, q19, hB, h10, k10, j10, h13, h15, h19, cl, cl0, hl, hk, c2, l1, l2, i2', hm, g1, f119, msg_3, msg_4, msg_116, msg_117, z60_len, z23, z62, calls_ok, ht]
end Go.Abs.Try

namespace Go.Abs.Try
open Go Go.Abs
set_option maxHeartbeats 40000000
set_option maxRecDepth 100000
set_option linter.unusedSimpArgs false
set_option linter.unusedVariables false

theorem law6 {sh : List CSh} (S : MsgOK sh) (x0 x1 x2 x3 : AV) (o0 : ∃ cs, x0 = .agg cs ∧ okRow clSh cs) (o1 : okRow [.int .i64] [x1]) (o2 : okRow [.str] [x2]) (o3 : ∃ cs, x3 = .agg cs ∧ okRow sh cs) :
    E 7 6 [x0, x1, x2, x3] = some (.bool true, []) := by
  obtain ⟨id, rs, rg, tg, sq, bz, tx, rfl⟩ := ok_client o0
  obtain ⟨r, rfl⟩ := ok_one_int o1
  obtain ⟨t, rfl⟩ := ok_one_str o2
  obtain ⟨m, kd, fr, fn, tr, tn, sz, sq', cd, ok, rfl, M, hB⟩ := ok_msg S o3
  obtain ⟨b, hB⟩ := hB 3
  rw [e6]
  have hm := M.len
  have hp := M.plain
  have c2 := plains_cells hp
  have l1 := plains_lend z60_plain
  have l2 := plains_lend hp
  have i2' := plains_in hp
  have g1 : m.take 120 = m := List.take_of_length_le (by omega)
  have h10 := check10 4 id rs rg tg sq bz tx
  by_cases hl : 5000 < (tx.size : Int)
  · simp -implicitDefEqProofs [a6, c6, q11, cl, hl, c2, l2, i2', hm, calls_ok]
  by_cases hk : 5000 < (t.size : Int)
  · simp -implicitDefEqProofs [a6, c6, q11, cl, hl, hk, c2, l2, i2', hm, calls_ok]
  cases b
  rotate_left
  · simp -implicitDefEqProofs [a6, c6, q11, q18, hB, cl, hl, hk, c2, l1, l2, i2', hm, g1, z60_len, calls_ok]
  cases hr : right id rs rg tg sq bz tx
  · simp only [hr, Bool.false_eq_true, if_false, cl] at h10
    simp -implicitDefEqProofs [a6, c6, q10, q11, q18, hB, h10, cl, hl, hk, c2, l1, l2, i2', hm, g1, z60_len, calls_ok]
  simp only [hr, if_true] at h10
  have hrr := hr
  simp only [right, Bool.and_eq_true, inB, decide_eq_true_eq] at hrr
  obtain ⟨⟨hrs1, hrs2⟩, ⟨hid1, hid2⟩, ⟨hrg1, hrg2⟩, ⟨htg1, htg2⟩, ⟨hsq1, hsq2⟩, htx, hbz⟩ := hrr
  have h13 := submit13 3 id rs rg tg sq bz tx r t
  have h15 := retry15 3 id rs rg tg sq bz tx
  have h19 := hear19 3 id rs rg tg sq bz tx m kd fr fn tr tn sz sq' cd ok M
  cases bz
  · simp only [retR, hr, if_true, Bool.false_eq_true, if_false] at h15
    simp only [hearR, hr, hearOK, Bool.false_and, if_true, Bool.false_eq_true, if_false] at h19
    by_cases k1 : sq = 1000000
    · subst k1
      simp only [subR, hr, if_true, Bool.false_eq_true, if_false] at h13
      exact once1 id rs rg tg _ tx r t m 180 (by decide) hm hp hl hk hB h10 h13 h15 h19
    cases k2 : inB r 1 rs
    · simp only [subR, hr, if_true, Bool.false_eq_true, if_false, k1, k2] at h13
      exact once1 id rs rg tg _ tx r t m 180 (by decide) hm hp hl hk hB h10 h13 h15 h19
    by_cases k3 : 300 < (t.size : Int)
    · simp only [subR, hr, if_true, Bool.false_eq_true, if_false, k1, k2, k3] at h13
      exact once1 id rs rg tg _ tx r t m 180 (by decide) hm hp hl hk hB h10 h13 h15 h19
    simp only [subR, hr, if_true, Bool.false_eq_true, if_false, k1, k2, k3] at h13
    have k2' := k2
    simp only [inB, Bool.and_eq_true, decide_eq_true_eq] at k2'
    have hR : right id rs r (if rg = r then tg else 1) (sq + 1) true t = true := by
      simp only [right, Bool.and_eq_true, inB, decide_eq_true_eq, if_true]
      refine ⟨⟨hrs1, hrs2⟩, ⟨hid1, hid2⟩, k2', ?_, ⟨by omega, by omega⟩, by omega, by omega⟩
      split
      · exact ⟨htg1, htg2⟩
      · exact ⟨by omega, by omega⟩
    have k10 := check10 4 id rs r (if rg = r then tg else 1) (sq + 1) true t
    simp only [hR, if_true] at k10
    exact once2 id rs rg tg sq _ tx r t m hm hp hl hk hB h10 k10 h13 h15 h19
  · have ht : ((if tg = 3 then 1 else tg + 1) == tg) = false := by
      simp only [beq_eq_false_iff_ne, ne_eq]
      split <;> omega
    have hR : right id rs rg (if tg = 3 then 1 else tg + 1) sq true tx = true := right_tg hr (by split <;> omega) (by split <;> omega)
    have k10 := check10 4 id rs rg (if tg = 3 then 1 else tg + 1) sq true tx
    simp only [hR, if_true] at k10
    simp only [retR, hr, if_true] at h15
    simp only [subR, hr, if_true] at h13
    cases hH : hearOK id rs rg tg sq true kd fr fn tr tn sq' ok
    · simp only [hearR, hr, hH, if_true, Bool.false_eq_true, if_false] at h19
      exact once3 id rs rg tg sq _ tx r t m ht hm hp hl hk hB h10 k10 h13 h15 h19
    · simp only [hearR, hr, hH, if_true] at h19
      simp only [hearOK, Bool.and_eq_true] at hH
      obtain ⟨_, _, _, h4, _, _, rfl⟩ := hH
      have hR2 : right id rs rg fn sq false ⟨#[]⟩ = true := by
        have h4' : 1 ≤ fn ∧ fn ≤ 3 := by simpa [inB] using h4
        simp only [right, Bool.and_eq_true, inB, decide_eq_true_eq]
        exact ⟨⟨hrs1, hrs2⟩, ⟨hid1, hid2⟩, ⟨hrg1, hrg2⟩, h4', ⟨hsq1, hsq2⟩, by decide, by simp⟩
      have j10 := check10 4 id rs rg fn sq false ⟨#[]⟩
      simp only [hR2, if_true] at j10
      exact once4 id rs rg tg sq _ fn sz cd tx r t m ht hm hp hl hk M.e119 hB h10 k10 j10 h13 h15 h19
theorem ref6 : Refines Go.Proofs.Try.prog 6 (E 7 6) := ref 7 6 (q6 6)
end Go.Abs.Try
