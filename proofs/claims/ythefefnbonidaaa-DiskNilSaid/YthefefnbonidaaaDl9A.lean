/- Part 1 of Dl9: what our evaluation of a function's code says, the machine's run does; no condition of its own. -/
import Derived.Test.YthefefnbonidaaaDkB
set_option linter.unusedVariables false
set_option linter.unusedSimpArgs false
set_option linter.unusedSectionVars false
namespace Go.Abs.Try
open Go Go.Abs
set_option maxHeartbeats 16000000
set_option maxRecDepth 100000
set_option linter.unusedSimpArgs false
set_option linter.unusedVariables false
theorem law9 (x0 : AV) (o0 : ∃ cs, x0 = .agg cs ∧ okRow [.int .i64, .int .i64, .int .i64, .sl [.int .u8]] cs) : E 9 9 [x0] = some (.bool true, []) := by
  obtain ⟨cs, rfl, h⟩ := o0
  obtain ⟨k, vs, rfl, _, h2⟩ := h.int
  obtain ⟨a, vs, rfl, _, h3⟩ := h2.int
  obtain ⟨n, vs, rfl, _, h4⟩ := h3.int
  obtain ⟨v, vs, rfl, hv, h5⟩ := h4.sl
  obtain rfl := h5.nil_inv
  obtain ⟨l, hl, hll⟩ := ok_is hv
  have hL := fun t => large10 7 [⟨k, a, n, l, v⟩] (.ro t 4 [[.int .i64 k, .int .i64 a, .int .i64 n, v]]) (.inr ⟨t, rfl⟩) (by intro o ho; obtain rfl := List.mem_singleton.1 ho; exact ⟨hl, hll⟩)
  rw [e9]
  generalize largeM _ = b at hL
  have hn : ∃ nn, BArg nn l v := by
    rcases hl with ⟨rfl, rfl⟩ | rfl
    · exact ⟨true, .inl ⟨rfl, rfl, rfl⟩⟩
    · exact ⟨false, .inr ⟨rfl, _, rfl⟩⟩
  obtain ⟨nn, hn⟩ := hn
  have c1 := read16n 6 a n
  have c2 := write17n 6 a nn l v hn
  have c3 := sync18n 6
  have c4 := stop22n 6 n
  have c5 := crash15n 5 a n
  have c6 := room19n 7
  have c7 := down20n 7
  have hA := awake_ok
  rcases hl with ⟨rfl, rfl⟩ | rfl <;> cases b <;> simp -implicitDefEqProofs [a9, c9, q10, hL, q11, hA, q16, c1, q17, c2, z35, q18, c3, q22, c4, q15, c5, q19, c6, q20, c7]
theorem ref9 : Refines Go.Proofs.Try.prog 9 (E 9 9) := ref 9 9 (q9 8)
end Go.Abs.Try
