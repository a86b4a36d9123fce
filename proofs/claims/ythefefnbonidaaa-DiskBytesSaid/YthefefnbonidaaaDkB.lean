/- Part 2 of Dk: what our evaluation of a function's code says, the machine's run does; no condition of its own. -/
import Derived.Test.YthefefnbonidaaaDkA
set_option linter.unusedVariables false
set_option linter.unusedSimpArgs false
set_option linter.unusedSectionVars false
namespace Go.Abs.Try
open Go Go.Abs
set_option maxHeartbeats 16000000
set_option maxRecDepth 100000
set_option linter.unusedSimpArgs false
set_option linter.unusedVariables false

/-- the two disks in a law's memory, once a call has been made -/
def HB (nV nW nB nC nD g1 g2 gb gp gq : Nat) (p : DS × RS) : AH :=
  [⟨nV, g1, .var [.own nB gb 0 p.1.b.length, (if p.1.ps = [] then .nilS else .own nC gp 0 p.1.ps.length), .bool p.1.dn, .bool p.1.st, .int .i64 p.1.lf]⟩,
   ⟨nW, g2, .var [.str ⟨p.2.s.toArray⟩, (if p.2.qs = [] then .nilS else .own nD gq 0 p.2.qs.length), .bool p.2.dn, .bool p.2.st, .int .i64 p.2.lf]⟩,
   ⟨nB, gb, .arr 1 (byteRows p.1.b) false⟩] ++
  ((if p.1.ps = [] then [] else [⟨nC, gp, .arr 3 (p.1.ps.map prow) false⟩]) ++
   (if p.2.qs = [] then [] else [⟨nD, gq, .arr 2 (p.2.qs.map qrow) false⟩]))
/-- and before -/
def HA (nV nW nA g1 g2 ga : Nat) (p : DS × RS) : AH :=
  [⟨nV, g1, .var [.own nA ga 0 p.1.b.length, .nilS, .bool p.1.dn, .bool p.1.st, .int .i64 p.1.lf]⟩, ⟨nA, ga, .arr 1 (byteRows p.1.b) false⟩,
   ⟨nW, g2, .var [.str ⟨p.2.s.toArray⟩, .nilS, .bool p.2.dn, .bool p.2.st, .int .i64 p.2.lf]⟩]
def Mem (nV nW nA nB nC nD g1 g2 : Nat) (p : DS × RS) (H : AH) : Prop :=
  (∃ ga, p.1.ps = [] ∧ p.2.qs = [] ∧ H = HA nV nW nA g1 g2 ga p) ∨ ∃ gb gp gq, H = HB nV nW nB nC nD g1 g2 gb gp gq p
theorem pdv_nil {ps : List PW} (h : ps = []) : pdv ps = .nilS := by simp [pdv, h]
theorem pdv_cons {ps : List PW} (h : ¬ ps = []) : pdv ps = .fr 3 (ps.map prow) := by simp [pdv, h]
theorem qv_nil {ps : List Wr} (h : ps = []) : qv ps = .nilS := by simp [qv, h]
theorem qv_cons {ps : List Wr} (h : ¬ ps = []) : qv ps = .fr 2 (ps.map qrow) := by simp [qv, h]
end Go.Abs.Try

namespace Go.Abs.Try
open Go Go.Abs
set_option maxHeartbeats 16000000
set_option maxRecDepth 100000
set_option linter.unusedSimpArgs false
set_option linter.unusedVariables false
theorem new64 (m : Nat) : ∃ Z : List UInt8, Z.length = 64 ∧ (byteRows Z).length = 64 ∧ (byteRows Z).take 64 = byteRows Z ∧ Z = List.replicate 64 0 ∧
    E (m + 1) 12 [.int .i64 64] = some (.tup [.pv [.fr 1 (byteRows Z), .nilS, .bool false, .bool false, .int .i64 0], .int .i64 0], []) ∧
    E (m + 1) 13 [.int .i64 64] = some (.tup [.pv [.str ⟨Z.toArray⟩, .nilS, .bool false, .bool false, .int .i64 0], .int .i64 0], []) := by
  refine ⟨List.replicate 64 0, by simp, by simp [byteRows], List.take_of_length_le (by simp [byteRows]), rfl, ?_, ?_⟩
  · rw [new12 m 64]; rfl
  · rw [new13 m 64]; rfl
theorem pok0 {Z : List UInt8} (h : Z.length = 64) : POK 0 64 (⟨Z, [], false, false, 0⟩, ⟨Z, [], false, false, 0⟩) where
  d := ⟨by simp [h], by simp, by simp, by simp, by simp, by simp⟩
  r := ⟨by simp [h], by simp, by simp, by simp, by simp, fun w hw => by cases hw⟩
  b := by simp [h]
theorem arg_cell {x : AV} {l} (h : Is l x) (H : AH) (c nm) : inCell H c nm x = some (x, H, c) := by rcases h with ⟨rfl, _⟩ | rfl <;> rfl
theorem Is.b {x : AV} {l} (h : Is l x) : ∃ nn, BArg nn l x := by
    rcases h with ⟨rfl, rfl⟩ | rfl
    · exact ⟨true, .inl ⟨rfl, rfl, rfl⟩⟩
    · exact ⟨false, .inr ⟨rfl, _, rfl⟩⟩
/-- the whole of a disk of 64 -/
theorem readAll (m : Nat) {N : Nat} (d : DS) (h : DOK N d) (hb : d.b.length = 64) : E (m + 2) 16 [.pv (dV d), .int .i64 0, .int .i64 64] = some (.tup [.fr 1 (byteRows d.b), .int .i64 0], [dV d]) := by
  have := eRead m d h 0 64
  have hi : inB d.b.length 0 64 = true := by rw [hb]; rfl
  have e : dRead d 0 64 = (d.b, 0) := by
    unfold dRead
    rw [hi]
    simp
    rw [List.take_of_length_le (by omega)]
  rw [hi, e] at this
  have hc : cl d.b = .fr 1 (byteRows d.b) := by
    unfold cl; rw [if_neg]; intro h0; rw [h0] at hb; cases hb
  simpa [hc] using this
theorem DOK.mono {N M : Nat} {d : DS} (h : DOK N d) (hM : N ≤ M) : DOK M d := { h with p := Nat.le_trans h.p hM }
theorem Mem.hd {nV nW nA nB nC nD g1 g2} {p H} (h : Mem nV nW nA nB nC nD g1 g2 p H) : True := trivial
end Go.Abs.Try
