/- Part 1 of Dl4: what our evaluation of a function's code says, the machine's run does; no condition of its own. -/
import Derived.Test.YthefefnbonidaaaDkB
set_option linter.unusedVariables false
set_option linter.unusedSimpArgs false
set_option linter.unusedSectionVars false
namespace Go.Abs.Try
open Go Go.Abs
set_option maxHeartbeats 16000000
set_option maxRecDepth 100000
set_option linter.unusedSimpArgs false
set_option linter.unusedVariables false
/-- what came in and lies still, as operations see it -/
structure Still (x : AV) : Prop where
  cell : ∀ (H : AH) c nm, inCell H c nm x = some (x, H, c)
  val : ∀ (H : AH) c nm, inVal H c nm x = some (x, H, c)
  mv : ∀ (H : AH) r m, mvArgs H (x :: r) m = (mvArgs H r m.tail).map fun q => (x :: q.1, q.2.1, q.2.2)
  ld : ∀ (H : AH), lendArg H x = some x
  low1 : ∀ ns al, x.low1 ns al = true
  low2 : ∀ ns al, x.low2 ns al = true
  low : ∀ ns al, x.low ns al = true
theorem Is.still {l x} (h : Is l x) : Still x := by rcases h with ⟨rfl, _⟩ | rfl <;> exact ⟨fun _ _ _ => rfl, fun _ _ _ => rfl, fun _ _ _ => rfl, fun _ => rfl, fun _ _ => rfl, fun _ _ => rfl, fun _ _ => rfl⟩
theorem Ops.still {S x} (h : Ops S x) : Still x := by rcases h with ⟨rfl, _⟩ | rfl <;> exact ⟨fun _ _ _ => rfl, fun _ _ _ => rfl, fun _ _ _ => rfl, fun _ => rfl, fun _ _ => rfl, fun _ _ => rfl, fun _ _ => rfl⟩
theorem Is.rows {l x} (h : Is l x) (H : AH) : rowsOf H 1 x = some (byteRows l) := by
  rcases h with ⟨rfl, rfl⟩ | rfl
  · rfl
  · simp [rowsOf]
end Go.Abs.Try

namespace Go.Abs.Try
open Go Go.Abs
set_option maxHeartbeats 16000000
set_option maxRecDepth 100000
set_option linter.unusedSimpArgs false
set_option linter.unusedVariables false

abbrev kl4 : List Nat := [30000, 30001, 30002, 34000, 34002, 100000, 100200, 31000000, 31000001, 35000001]
theorem stepL4 (m : Nat) (S : List DOp) (hS : ∀ o ∈ S, o.OK) (h60 : S.length ≤ 60) (u1 u5 : AV) (g1 g2 N : Nat) (hN : N ≤ 1000) (p : DS × RS) (hp : POK N 64 p) (i : Nat) (hi : i < S.length) (H : AH) (c : Nat) (hH : Mem 30000 34000 30001 31000000 31000001 35000001 g1 g2 p H) (k : Nat) :
    ∃ H' c', c ≤ c' ∧ Mem 30000 34000 30001 31000000 31000001 35000001 g1 g2 (callM S[i] p).2 H' ∧ iter (ev (Q (m + 4)) 3000 b4_1) [0, 1, 5, 6, 8, 10] kl4 (k + 1) ⟨[(0, .ro false 4 (S.map DOp.row)), (1, u1), (5, u5), (6, .ptr 30000 g1 0), (8, .ptr 34000 g2 0), (10, .int .i64 i)], H, c⟩ = iter (ev (Q (m + 4)) 3000 b4_1) [0, 1, 5, 6, 8, 10] kl4 k ⟨[(0, .ro false 4 (S.map DOp.row)), (1, u1), (5, u5), (6, .ptr 30000 g1 0), (8, .ptr 34000 g2 0), (10, .int .i64 (i + 1 : Nat))], H', c'⟩ := by
  have hc := call14 m hN (by omega) p hp S[i] (hS _ (List.getElem_mem _))
  have hlen : (S.map DOp.row).length = S.length := by simp
  have hg : (S.map DOp.row)[i]? = some (S[i]).row := by simp [hi]
  have hok : cellsOK (S[i]).row = true := by
    rcases (hS S[i] (List.getElem_mem _)).v with ⟨h, _⟩ | h <;> simp [DOp.row, h]
  have hrl : (S[i]).row.length = 4 := rfl
  have h1 : (i : Int) < S.length := by omega
  have w1 : IntKind.i64.wrap ((i : Int) + 1) = (i : Int) + 1 := wrap_i64 _ (by omega) (by omega)
  generalize callM S[i] p = x at *
  obtain ⟨x, ⟨⟨b', ps', dn', st', lf'⟩, ⟨s', qs', rdn', rst', rlf'⟩⟩⟩ := x
  obtain ⟨⟨b, ps, dn, st, lf⟩, ⟨s, qs, rdn, rst, rlf⟩⟩ := p
  simp only [dV, rV, dkc, rkc] at hc
  have hv : (S[i]).v.cellb = true := by rcases (hS S[i] (List.getElem_mem _)).v with ⟨h, _⟩ | h <;> simp [h]
  have hv2 : (S[i]).v = .nilS ∨ ∃ r, (S[i]).v = .ro false 1 r := by rcases (hS S[i] (List.getElem_mem _)).v with ⟨h, _⟩ | h; exact .inl h; exact .inr ⟨_, h⟩
  generalize S[i] = o at *
  generalize S.map DOp.row = W at *
  have hg' := (List.getElem?_eq_some_iff.1 hg).2
  obtain ⟨ok, oa, on, ol, ov⟩ := o
  simp only [DOp.row] at *
  have hb := byteRows_len b
  have hb' := byteRows_len b'
  have ht : (byteRows b).take b.length = byteRows b := List.take_of_length_le (by omega)
  have t1 : (ps.map prow).take ps.length = ps.map prow := List.take_of_length_le (by simp)
  have t2 : (qs.map qrow).take qs.length = qs.map qrow := List.take_of_length_le (by simp)
  refine ⟨HB 30000 34000 31000000 31000001 35000001 g1 g2 c (c + 1) (if ps' = [] then c + 1 else c + 2) (⟨b', ps', dn', st', lf'⟩, ⟨s', qs', rdn', rst', rlf'⟩), c + 1 + (if ps' = [] then 0 else 1) + (if qs' = [] then 0 else 1), by omega, .inr ⟨_, _, _, rfl⟩, iter_norm ?_⟩
  unfold HB
  rcases hH with ⟨ga, e1, e2, rfl⟩ | ⟨gb, gp, gq, rfl⟩
  · simp only at e1 e2
    subst e1 e2
    rw [pdv_nil rfl, qv_nil rfl] at hc
    unfold HA
    by_cases h3 : ps' = [] <;> by_cases h4 : qs' = [] <;> (first | rw [pdv_nil h3] at hc | rw [pdv_cons h3] at hc) <;> (first | rw [qv_nil h4] at hc | rw [qv_cons h4] at hc) <;> rcases hv2 with rfl | ⟨ol2, rfl⟩ <;>
      simp -implicitDefEqProofs [b4_1, St.keep, q14, hc, hb, hb', ht, t1, t2, hlen, hi, h1, w1, hg, hg', h3, h4]
  · unfold HB
    by_cases h5 : ps = [] <;> by_cases h2 : qs = [] <;> by_cases h3 : ps' = [] <;> by_cases h4 : qs' = [] <;>
      (first | rw [pdv_nil h5] at hc | rw [pdv_cons h5] at hc) <;> (first | rw [qv_nil h2] at hc | rw [qv_cons h2] at hc) <;> (first | rw [pdv_nil h3] at hc | rw [pdv_cons h3] at hc) <;> (first | rw [qv_nil h4] at hc | rw [qv_cons h4] at hc) <;> rcases hv2 with rfl | ⟨ol2, rfl⟩ <;>
      simp -implicitDefEqProofs [b4_1, St.keep, q14, hc, hb, hb', ht, t1, t2, hlen, hi, h1, w1, hg, hg', h2, h3, h4, h5]
theorem loopL4 (m : Nat) (S : List DOp) (x : AV) (hx : Ops S x) (hS : ∀ o ∈ S, o.OK) (h60 : S.length ≤ 60) (u1 u5 : AV) (g1 g2 : Nat) : ∀ (d i k N : Nat) (p : DS × RS) (H : AH) (c : Nat), i + d = S.length → d < k → N + d ≤ 1000 → POK N 64 p → Mem 30000 34000 30001 31000000 31000001 35000001 g1 g2 p H →
    ∃ E' H' c' q, c ≤ c' ∧ Mem 30000 34000 30001 31000000 31000001 35000001 g1 g2 q H' ∧ POK (N + d) 64 q ∧ envOnly [0, 1, 5, 6] E' = [(0, x), (1, u1), (5, u5), (6, .ptr 30000 g1 0)] ∧ iter (ev (Q (m + 4)) 3000 b4_1) [0, 1, 5, 6, 8, 10] kl4 k ⟨[(0, x), (1, u1), (5, u5), (6, .ptr 30000 g1 0), (8, .ptr 34000 g2 0), (10, .int .i64 i)], H, c⟩ = some (.exit 2, ⟨E', H', c'⟩)
  | d, i, 0, N, p, H, c, hi, hk, hN, hp, hH => by omega
  | 0, i, k + 1, N, p, H, c, hi, hk, hN, hp, hH => by
    obtain rfl : i = S.length := by omega
    have hk : H.only kl4 = H := by
      rcases hH with ⟨ga, e1, e2, rfl⟩ | ⟨gb, gp, gq, rfl⟩
      · simp [HA]
      · unfold HB
        by_cases h1 : p.1.ps = [] <;> by_cases h2 : p.2.qs = [] <;> simp [h1, h2]
    have key : ∃ E', iter (ev (Q (m + 4)) 3000 b4_1) [0, 1, 5, 6, 8, 10] kl4 (k + 1) ⟨[(0, x), (1, u1), (5, u5), (6, .ptr 30000 g1 0), (8, .ptr 34000 g2 0), (10, .int .i64 S.length)], H, c⟩ = some (.exit 2, ⟨E', H, c⟩) ∧ envOnly [0, 1, 5, 6] E' = [(0, x), (1, u1), (5, u5), (6, .ptr 30000 g1 0)] := by
      rw [iter_succ]
      rcases hx with ⟨rfl, rfl⟩ | rfl
      · simp -implicitDefEqProofs [b4_1, hk]
      · have hlen : (S.map DOp.row).length = S.length := by simp
        generalize S.map DOp.row = W at *
        simp -implicitDefEqProofs [b4_1, hlen, hk]
    obtain ⟨E', e1, e2⟩ := key
    exact ⟨E', H, c, p, Nat.le_refl _, hH, hp, e2, e1⟩
  | d + 1, i, k + 1, N, p, H, c, hi, hk, hN, hp, hH => by
    obtain rfl : x = .ro false 4 (S.map DOp.row) := by
      rcases hx with ⟨rfl, rfl⟩ | h
      · simp at hi
      · exact h
    obtain ⟨H1, c1, q1, hH1, e1⟩ := stepL4 m S hS h60 u1 u5 g1 g2 N (by omega) p hp i (by omega) H c hH k
    obtain ⟨E', H', c', q, q2, r1, r2, r3, r4⟩ := loopL4 m S _ (.inr rfl) hS h60 u1 u5 g1 g2 d (i + 1) k (N + 1) _ H1 c1 (by omega) (by omega) (by omega) (hp.call _) hH1
    exact ⟨E', H', c', q, Nat.le_trans q1 q2, r1, by rw [show N + (d + 1) = N + 1 + d by omega]; exact r2, r3, by rw [e1]; exact r4⟩
/-- the loop, found by its start -/
theorem foundL4 {m : Nat} {S : List DOp} {x : AV} (hx : Ops S x) (hS : ∀ o ∈ S, o.OK) (h60 : S.length ≤ 60) {u1 u5 : AV} {g1 g2 N c : Nat} {p : DS × RS} {H : AH} {X : Option (Ex × St)}
    (hI : iter (ev (Q (m + 4)) 3000 b4_1) [0, 1, 5, 6, 8, 10] kl4 3000 ⟨[(0, x), (1, u1), (5, u5), (6, .ptr 30000 g1 0), (8, .ptr 34000 g2 0), (10, .int .i64 0)], H, c⟩ = X) (hN : N ≤ 900) (hp : POK N 64 p) (hH : Mem 30000 34000 30001 31000000 31000001 35000001 g1 g2 p H) :
    ∃ E' H' c' q, c ≤ c' ∧ Mem 30000 34000 30001 31000000 31000001 35000001 g1 g2 q H' ∧ POK (N + S.length) 64 q ∧ envOnly [0, 1, 5, 6] E' = [(0, x), (1, u1), (5, u5), (6, .ptr 30000 g1 0)] ∧ X = some (.exit 2, ⟨E', H', c'⟩) := by
  obtain ⟨E', H', c', q, q2, r1, r2, r3, r4⟩ := loopL4 m S x hx hS h60 u1 u5 g1 g2 S.length 0 3000 N p H c (by omega) (by omega) (by omega) hp hH
  exact ⟨E', H', c', q, q2, r1, r2, r3, by rw [← hI]; exact r4⟩
end Go.Abs.Try

namespace Go.Abs.Try
open Go Go.Abs
set_option maxHeartbeats 16000000
set_option maxRecDepth 100000
set_option linter.unusedSimpArgs false
set_option linter.unusedVariables false
/-- one disk in a law's memory, once it has been called, with one array of the law's ahead of its pieces -/
def HW (nV nB nC g gb gp : Nat) (X : AH) (d : DS) : AH :=
  ⟨nV, g, .var [.own nB gb 0 d.b.length, (if d.ps = [] then .nilS else .own nC gp 0 d.ps.length), .bool d.dn, .bool d.st, .int .i64 d.lf]⟩ :: (X ++
  (⟨nB, gb, .arr 1 (byteRows d.b) false⟩ :: (if d.ps = [] then [] else [⟨nC, gp, .arr 3 (d.ps.map prow) false⟩])))
/-- a script's write -/
def wM (d : DS) (o : DOp) : DS := (dWrite d o.a (match o.v with | .nilS => true | _ => false) o.l).2
theorem DOp.OK.b {o : DOp} (h : o.OK) : BArg (match o.v with | .nilS => true | _ => false) o.l o.v := by
  rcases h.v with ⟨h1, h2⟩ | h1
  · rw [h1]; exact .inl ⟨rfl, h2, rfl⟩
  · rw [h1]; exact .inr ⟨rfl, _, rfl⟩
abbrev kw4 : List Nat := [30000, 30001, 30002, 67000, 90000, 100000, 100200, 31000000, 31000001]
theorem stepW4 (m : Nat) (S : List DOp) (hS : ∀ o ∈ S, o.OK) (h60 : S.length ≤ 60) (u0 u5 u12 : AV) (g gw N : Nat) (W : List (List AV)) (hN : N ≤ 1000) (d : DS) (hd : DOK N d) (i : Nat) (hi : i < S.length) (gb gp c k : Nat) (hgc : g < c) :
    ∃ gb' gp' c', g < c' ∧ iter (ev (Q (m + 4)) 3000 b4_0) [0, 1, 5, 6, 11, 12, 13] kw4 (k + 1) ⟨[(0, u0), (1, .ro false 4 (S.map DOp.row)), (5, u5), (6, .ptr 30000 g 0), (11, .own 67000 gw 0 64), (12, u12), (13, .int .i64 i)], HW 30000 31000000 31000001 g gb gp [⟨67000, gw, .arr 1 W false⟩] d, c⟩ =
      iter (ev (Q (m + 4)) 3000 b4_0) [0, 1, 5, 6, 11, 12, 13] kw4 k ⟨[(0, u0), (1, .ro false 4 (S.map DOp.row)), (5, u5), (6, .ptr 30000 g 0), (11, .own 67000 gw 0 64), (12, u12), (13, .int .i64 (i + 1 : Nat))], HW 30000 31000000 31000001 g gb' gp' [⟨67000, gw, .arr 1 W false⟩] (wM d S[i]), c'⟩ := by
  have ho := hS _ (List.getElem_mem hi)
  have hc := eWrite (m + 2) (by omega) d hd S[i].a _ _ _ ho.b
  have hlen : (S.map DOp.row).length = S.length := by simp
  have hg : (S.map DOp.row)[i]? = some (S[i]).row := by simp [hi]
  have h1 : (i : Int) < S.length := by omega
  have w1 : IntKind.i64.wrap ((i : Int) + 1) = (i : Int) + 1 := wrap_i64 _ (by omega) (by omega)
  have Y := ho.v.still
  unfold wM
  generalize dWrite d S[i].a _ _ = x at *
  obtain ⟨x, ⟨b', ps', dn', st', lf'⟩⟩ := x
  obtain ⟨b, ps, dn, st, lf⟩ := d
  simp only [dV, dkc] at hc
  generalize S[i] = o at *
  generalize S.map DOp.row = V at *
  have hg' := (List.getElem?_eq_some_iff.1 hg).2
  obtain ⟨ok, oa, on, ol, ov⟩ := o
  simp only [DOp.row] at *
  have hb := byteRows_len b
  have hb' := byteRows_len b'
  have ht : (byteRows b).take b.length = byteRows b := List.take_of_length_le (by omega)
  have t1 : (ps.map prow).take ps.length = ps.map prow := List.take_of_length_le (by simp)
  refine ⟨c, c + 1, c + 1 + (if ps' = [] then 0 else 1), by omega, iter_norm ?_⟩
  unfold HW
  by_cases h5 : ps = [] <;> by_cases h3 : ps' = [] <;>
    (first | rw [pdv_nil h5] at hc | rw [pdv_cons h5] at hc) <;> (first | rw [pdv_nil h3] at hc | rw [pdv_cons h3] at hc) <;>
    simp -implicitDefEqProofs [b4_0, St.keep, q17, hc, hb, hb', ht, t1, hlen, hi, h1, w1, hg, hg', h3, h5, Y.cell, Y.val, Y.mv, Y.ld, Y.low1, Y.low2, Y.low, hgc, show c ≤ c + 1 + 1 by omega, show c < c + 1 + 1 by omega]
theorem wM_OK {N : Nat} {d : DS} (h : DOK N d) (o : DOp) : DOK (N + 1) (wM d o) := h.write _ _ _
theorem HW_only4 (g gb gp gw W d) : (HW 30000 31000000 31000001 g gb gp [⟨67000, gw, .arr 1 W false⟩] d).only kw4 = HW 30000 31000000 31000001 g gb gp [⟨67000, gw, .arr 1 W false⟩] d := by
  unfold HW
  by_cases h : d.ps = [] <;> simp [h]
theorem loopW4 (m : Nat) (S : List DOp) (x : AV) (hx : Ops S x) (hS : ∀ o ∈ S, o.OK) (h60 : S.length ≤ 60) (u0 u5 u12 : AV) (g gw : Nat) (W : List (List AV)) : ∀ (r i k N : Nat) (d : DS) (gb gp c : Nat), i + r = S.length → r < k → N + r ≤ 1000 → DOK N d → g < c →
    ∃ E' gb' gp' c', g < c' ∧ envOnly [0, 1, 5, 6, 11, 12] E' = [(0, u0), (1, x), (5, u5), (6, .ptr 30000 g 0), (11, .own 67000 gw 0 64), (12, u12)] ∧
      iter (ev (Q (m + 4)) 3000 b4_0) [0, 1, 5, 6, 11, 12, 13] kw4 k ⟨[(0, u0), (1, x), (5, u5), (6, .ptr 30000 g 0), (11, .own 67000 gw 0 64), (12, u12), (13, .int .i64 i)], HW 30000 31000000 31000001 g gb gp [⟨67000, gw, .arr 1 W false⟩] d, c⟩ =
      some (.exit 4, ⟨E', HW 30000 31000000 31000001 g gb' gp' [⟨67000, gw, .arr 1 W false⟩] ((S.drop i).foldl wM d), c'⟩)
  | r, i, 0, N, d, gb, gp, c, hi, hk, hN, hd, hc => by omega
  | 0, i, k + 1, N, d, gb, gp, c, hi, hk, hN, hd, hc => by
    obtain rfl : i = S.length := by omega
    rw [List.drop_of_length_le (Nat.le_refl _)]
    have hk := HW_only4 g gb gp gw W d
    have key : ∃ E', iter (ev (Q (m + 4)) 3000 b4_0) [0, 1, 5, 6, 11, 12, 13] kw4 (k + 1) ⟨[(0, u0), (1, x), (5, u5), (6, .ptr 30000 g 0), (11, .own 67000 gw 0 64), (12, u12), (13, .int .i64 S.length)], HW 30000 31000000 31000001 g gb gp [⟨67000, gw, .arr 1 W false⟩] d, c⟩ = some (.exit 4, ⟨E', HW 30000 31000000 31000001 g gb gp [⟨67000, gw, .arr 1 W false⟩] d, c⟩) ∧ envOnly [0, 1, 5, 6, 11, 12] E' = [(0, u0), (1, x), (5, u5), (6, .ptr 30000 g 0), (11, .own 67000 gw 0 64), (12, u12)] := by
      rw [iter_succ]
      generalize HW 30000 31000000 31000001 g gb gp [⟨67000, gw, .arr 1 W false⟩] d = H at *
      rcases hx with ⟨rfl, rfl⟩ | rfl
      · simp -implicitDefEqProofs [b4_0, hk]
      · have hlen : (S.map DOp.row).length = S.length := by simp
        generalize S.map DOp.row = V at *
        simp -implicitDefEqProofs [b4_0, hlen, hk]
    obtain ⟨E', e1, e2⟩ := key
    exact ⟨E', gb, gp, c, hc, e2, e1⟩
  | r + 1, i, k + 1, N, d, gb, gp, c, hi, hk, hN, hd, hc => by
    have hi' : i < S.length := by omega
    obtain rfl : x = .ro false 4 (S.map DOp.row) := by
      rcases hx with ⟨rfl, rfl⟩ | h
      · simp at hi
      · exact h
    obtain ⟨gb1, gp1, c1, hc1, e1⟩ := stepW4 m S hS h60 u0 u5 u12 g gw N W (by omega) d hd i hi' gb gp c k hc
    obtain ⟨E', gb2, gp2, c2, hc2, e2, e3⟩ := loopW4 m S _ (.inr rfl) hS h60 u0 u5 u12 g gw W r (i + 1) k (N + 1) _ gb1 gp1 c1 (by omega) (by omega) (by omega) (wM_OK hd _) hc1
    refine ⟨E', gb2, gp2, c2, hc2, e2, ?_⟩
    rw [e1, e3, List.drop_eq_getElem_cons hi']
    rfl
/-- the loop, found by its start -/
theorem foundW4 {m : Nat} {S : List DOp} {x : AV} (hx : Ops S x) (hS : ∀ o ∈ S, o.OK) (h60 : S.length ≤ 60) {u0 u5 u12 : AV} {g gw c : Nat} {W : List (List AV)} {H : AH} {X : Option (Ex × St)}
    (hI : iter (ev (Q (m + 4)) 3000 b4_0) [0, 1, 5, 6, 11, 12, 13] kw4 3000 ⟨[(0, u0), (1, x), (5, u5), (6, .ptr 30000 g 0), (11, .own 67000 gw 0 64), (12, u12), (13, .int .i64 0)], H, c⟩ = X)
    {N : Nat} (hN : N ≤ 900) {d : DS} (hd : DOK N d) (hc : g < c) {gb gp : Nat} (hH : H = HW 30000 31000000 31000001 g gb gp [⟨67000, gw, .arr 1 W false⟩] d) :
    ∃ E' gb' gp' c', g < c' ∧ envOnly [0, 1, 5, 6, 11, 12] E' = [(0, u0), (1, x), (5, u5), (6, .ptr 30000 g 0), (11, .own 67000 gw 0 64), (12, u12)] ∧
      X = some (.exit 4, ⟨E', HW 30000 31000000 31000001 g gb' gp' [⟨67000, gw, .arr 1 W false⟩] (S.foldl wM d), c'⟩) := by
  obtain ⟨E', gb', gp', c', r1, r2, r3⟩ := loopW4 m S x hx hS h60 u0 u5 u12 g gw W S.length 0 3000 N d gb gp c (by omega) (by omega) (by omega) hd hc
  refine ⟨E', gb', gp', c', r1, r2, ?_⟩
  rw [← hI, hH]; exact r3

/- ------------------------------------------------ the plain law -/
theorem put_undo (b l : List UInt8) (a : Nat) (h : a + l.length ≤ b.length) : put (put b a l) a ((b.drop a).take l.length) = b := by
  have hA : (b.take a).length = a := by rw [List.length_take]; omega
  have hB : ((b.drop a).take l.length).length = l.length := by simp; omega
  have e1 : (put b a l).take a = b.take a := by
    unfold put; rw [List.take_append_of_le_length (by omega), List.take_of_length_le (by omega)]
  have e2 : (put b a l).drop (a + l.length) = b.drop (a + l.length) := by
    unfold put; rw [← List.append_assoc, List.drop_append, List.drop_of_length_le (by simp; omega), List.nil_append, show a + l.length - (b.take a ++ l).length = 0 by simp; omega, List.drop_zero]
  have : put (put b a l) a ((b.drop a).take l.length) = (put b a l).take a ++ ((b.drop a).take l.length ++ (put b a l).drop (a + l.length)) := by rw [put, hB]
  rw [this, e1, e2]
  have e3 : (b.drop a).take l.length ++ b.drop (a + l.length) = b.drop a := by
    rw [← List.drop_drop]; exact List.take_append_drop _ _
  rw [e3]; exact List.take_append_drop _ _
theorem wM_undo {N : Nat} {d : DS} (h : DOK N d) (o : DOp) : undo (wM d o).ps (wM d o).b = undo d.ps d.b := by
  unfold wM dWrite
  split
  · rfl
  split
  · next hin =>
    have hle := inB_len hin
    show undo (d.ps ++ [_]) (put d.b o.a.toNat o.l) = _
    unfold undo
    rw [List.foldr_append]
    simp only [List.foldr_cons, List.foldr_nil]
    rw [put_undo _ _ _ hle]
  · rfl
theorem wM_all {N : Nat} : ∀ (S : List DOp) {d : DS}, DOK N d → undo (S.foldl wM d).ps (S.foldl wM d).b = undo d.ps d.b ∧ DOK (N + S.length) (S.foldl wM d) ∧ (S.foldl wM d).b.length = d.b.length := by
  intro S
  induction S generalizing N with
  | nil => intro d h; exact ⟨rfl, h, rfl⟩
  | cons o r ih =>
    intro d h
    obtain ⟨h1, h2, h3⟩ := ih (wM_OK h o)
    refine ⟨by rw [List.foldl_cons, h1, wM_undo h], by rw [List.foldl_cons, List.length_cons, show N + (r.length + 1) = N + 1 + r.length by omega]; exact h2, ?_⟩
    rw [List.foldl_cons, h3]; exact dWrite_len h _ _ _
theorem crash_all (torn : Int) (ps : List PW) (b : List UInt8) (h : ps.length ≤ 1000) : pcrash 1000 torn ps b = b := by
  unfold pcrash keepN
  have : min (1000 : Int).toNat ps.length = ps.length := by simp; omega
  rw [this]
  simp [undo]
theorem crash_none (ps : List PW) (b : List UInt8) (h : ∀ w ∈ ps, w.a ≤ (undo ps b).length) : pcrash 0 0 ps b = undo ps b := by
  unfold pcrash keepN
  have : min (0 : Int).toNat ps.length = 0 := by simp
  rw [this]
  simp only [List.drop_zero]
  split
  · next w hw =>
    have ht : tearN 0 w.now.length = 0 := by simp [tearN]
    rw [ht]
    simp [put]
  · rfl
end Go.Abs.Try

namespace Go.Abs.Try
open Go Go.Abs
set_option maxHeartbeats 16000000
set_option maxRecDepth 100000
set_option linter.unusedSimpArgs false
set_option linter.unusedVariables false
theorem iter_normE {f kt kh k} {s : St} {env : Env} {h : AH} (hx : ∃ q : St, f (s.keep kt kh) = some (.normal, q) ∧ envOnly kt q.env = env ∧ q.h.only kh = h) :
    ∃ c', iter f kt kh (k + 1) s = iter f kt kh k ⟨env, h, c'⟩ := by
  obtain ⟨q, h1, h2, h3⟩ := hx
  exact ⟨q.c, iter_norm (by rw [h1]; simp [St.keep, h2, h3])⟩

theorem step4 (S0 S1 : List DOp) (x0 x1 : AV) (hx0 : Ops S0 x0) (hx1 : Ops S1 x1) (h0 : ∀ o ∈ S0, o.OK) (h1 : ∀ o ∈ S1, o.OK) (l0 : S0.length ≤ 60) (l1 : S1.length ≤ 60) (kk : Int) (hk : kk = 0 ∨ kk = 1) (c k : Nat) :
    ∃ c', iter (ev (Q 8) 3000 b4_2) [0, 1, 5] [100000, 100200] (k + 1) ⟨[(0, x0), (1, x1), (5, .int .i64 kk)], [], c⟩ = iter (ev (Q 8) 3000 b4_2) [0, 1, 5] [100000, 100200] k ⟨[(0, x0), (1, x1), (5, .int .i64 (kk + 1))], [], c'⟩ := by
  obtain ⟨Z, z1, z2, z3, z4, hN, hM⟩ := new64 7
  clear z4
  have k2 : kk < 2 := by omega
  have w1 : IntKind.i64.wrap (kk + 1) = kk + 1 := wrap_i64 _ (by omega) (by omega)
  have w2 : IntKind.i64.wrap 1 = 1 := wrap_i64 _ (by omega) (by omega)
  have w3 : IntKind.i64.wrap 2 = 2 := wrap_i64 _ (by omega) (by omega)
  refine iter_normE ?_
  simp -implicitDefEqProofs (maxSteps := 5000000) [b4_2, St.keep, k2, q12, hN, q13, hM, z1, z2, z3]
  generalize hI : iter _ _ _ _ _ = X
  obtain ⟨E', H', c', ⟨⟨b, ps, dn, st, lf⟩, ⟨s, qs, rdn, rst, rlf⟩⟩, hcc, hm, hp, he, rfl⟩ := foundL4 hx0 h0 l0 hI (Nat.zero_le _) (pok0 z1) (.inl ⟨c, rfl, rfl, by simp [HA, z1]⟩)
  clear hI
  have hbl : b.length = 64 := hp.b
  have hd : DOK 60 ⟨b, ps, dn, st, lf⟩ := hp.d.mono (by first | omega | (simp; omega) | simp)
  have s1 := eCrash 5 (by omega) _ hd 0 0
  have hd1 := hd.crash 0 0
  have hb1 : (dCrash ⟨b, ps, dn, st, lf⟩ 0 0).b.length = 64 := by
    show (pcrash _ _ ps b).length = 64
    rw [pcrash_len hd.w]; exact hbl
  unfold dCrash at s1 hd1 hb1
  simp only at s1 hd1 hb1
  generalize pcrash 0 0 ps b = b1 at *
  have s2 := eSync 6 _ hd1
  simp only [dSync, dStep, stepD, Bool.false_eq_true, if_false] at s2
  have s3 := readAll 6 _ hd1 hb1
  have hA := awake_ok
  have tb1 := byteRows_len b1
  rw [hb1] at tb1
  have tt1 : (byteRows b1).take 64 = byteRows b1 := List.take_of_length_le (by omega)
  have t1 : (ps.map prow).take ps.length = ps.map prow := List.take_of_length_le (by simp)
  have tb := byteRows_len b
  rw [hbl] at tb
  have tt : (byteRows b).take 64 = byteRows b := List.take_of_length_le (by omega)
  simp only [dV, dkc] at s1 s2 s3
  rw [pdv_nil rfl] at s1 s2 s3
  obtain ⟨r1, r2, r3⟩ := wM_all S1 hd1
  generalize hd3 : S1.foldl wM ⟨b1, [], false, false, lf⟩ = d3 at *
  have hd30 := hd3
  obtain ⟨b3, ps3, dn3, st3, lf3⟩ := d3
  simp only at r1 r3
  have hd3' : DOK 120 ⟨b3, ps3, dn3, st3, lf3⟩ := r2.mono (by omega)
  have hb3 : b3.length = 64 := by omega
  have s4 := readAll 6 _ hd3' hb3
  have r4 : undo ps3 b3 = b1 := r1
  have s5 := eCrash 5 (by omega) _ hd3' 0 0
  have s6 := eCrash 5 (by omega) _ hd3' 1000 0
  unfold dCrash at s5 s6
  simp only at s5 s6
  rw [crash_none _ _ (by intro w hw; have := (hd3'.w w hw).1; rw [r4, hb1]; simp only at this; omega), r4] at s5
  rw [crash_all _ _ _ (by have := hd3'.p; simp only at this; omega)] at s6
  have s7 := readAll (N := 60) 6 ⟨b3, [], false, false, lf3⟩ ⟨by simp [hb3], by simp, hd3'.l0, hd3'.l1, (fun h => by cases h), (fun w hw => by cases hw)⟩ hb3
  have s8 := readAll (N := 60) 6 ⟨b1, [], false, false, lf3⟩ ⟨by simp [hb1], by simp, hd3'.l0, hd3'.l1, (fun h => by cases h), (fun w hw => by cases hw)⟩ hb1
  have tb3 := byteRows_len b3
  rw [hb3] at tb3
  have tt3 : (byteRows b3).take 64 = byteRows b3 := List.take_of_length_le (by omega)
  have tx3 := toBytes_rows b3
  have tx1 := toBytes_rows b1
  have t3 : (ps3.map prow).take ps3.length = ps3.map prow := List.take_of_length_le (by simp)
  simp only [dV, dkc] at s4 s5 s6 s7 s8
  have pn : pdv [] = .nilS := rfl
  rw [pn] at s5 s6 s7 s8
  have X0 := hx0.still
  have X1 := hx1.still
  rcases hm with ⟨ga, f1, f2, rfl⟩ | ⟨gb, gp, gq, rfl⟩
  · simp only at f1 f2
    subst f1 f2
    rw [pdv_nil rfl] at s1
    simp -implicitDefEqProofs [he, HA, q15, q18, q16, s1, s2, s3, tb, tt, tb1, tt1, t1, hbl, hb1]
    generalize hI : iter _ _ _ _ _ = X
    obtain ⟨E2, gb2, gp2, c2, hc2, he2, rfl⟩ := foundW4 hx1 h1 l1 hI (W := byteRows b1) (N := 60) (by omega) hd1 (by omega) (gb := c' + 1 + 1) (gp := 0) (by simp [HW, hb1])
    clear hI
    rw [hd3]
    rcases hk with rfl | rfl <;> by_cases p3 : ps3 = [] <;> (first | rw [pdv_nil p3] at s4 s5 s6 | rw [pdv_cons p3] at s4 s5 s6) <;>
      simp -implicitDefEqProofs [he2, HW, p3, q15, q16, s4, s5, s6, s7, s8, tb3, tt3, tx3, tx1, tb1, tt1, hb3, hb1, t3, w2, w3]
  · by_cases e1 : ps = [] <;> by_cases e2 : qs = [] <;> (first | rw [pdv_nil e1] at s1 | rw [pdv_cons e1] at s1) <;>
    simp -implicitDefEqProofs [he, HB, e1, e2, q15, q18, q16, s1, s2, s3, tb, tt, tb1, tt1, t1, hbl, hb1] <;>
    (generalize hI : iter _ _ _ _ _ = X
     obtain ⟨E2, gb2, gp2, c2, hc2, he2, rfl⟩ := foundW4 hx1 h1 l1 hI (W := byteRows b1) (N := 60) (by omega) hd1 (by omega) (gb := c' + 1 + 1) (gp := 0) (by simp [HW, hb1])
     clear hI
     rw [hd3]
     rcases hk with rfl | rfl <;> by_cases p3 : ps3 = [] <;> (first | rw [pdv_nil p3] at s4 s5 s6 | rw [pdv_cons p3] at s4 s5 s6) <;>
       simp -implicitDefEqProofs [he2, HW, p3, q15, q16, s4, s5, s6, s7, s8, tb3, tt3, tx3, tx1, tb1, tt1, hb3, hb1, t3, w2, w3])

theorem law4 (x0 x1 : AV) (o0 : okRow [.sl [.int .i64, .int .i64, .int .i64, .sl [.int .u8]]] [x0]) (o1 : okRow [.sl [.int .i64, .int .i64, .int .i64, .sl [.int .u8]]] [x1]) : E 9 4 [x0, x1] = some (.bool true, []) := by
  obtain ⟨S0, hx0, hS0, _⟩ := ok_script o0
  obtain ⟨S1, hx1, hS1, _⟩ := ok_script o1
  have hL0 := large10 7 S0 x0 hx0.t hS0
  have hL1 := large10 7 S1 x1 hx1.t hS1
  have X := hx0.still
  have Y := hx1.still
  have hA := awake_ok
  rw [e4]
  cases hb0 : largeM S0 <;> rw [hb0] at hL0
  · cases hb1 : largeM S1 <;> rw [hb1] at hL1
    · obtain ⟨l0, h0⟩ := small hb0 hS0
      obtain ⟨l1, h1⟩ := small hb1 hS1
      simp -implicitDefEqProofs [a4, c4, q10, hL0, hL1, X.cell, X.val, X.mv, X.ld, Y.cell, Y.val, Y.mv, Y.ld]
      rw [iter_keep]
      simp
      obtain ⟨c1, e1⟩ := step4 S0 S1 x0 x1 hx0 hx1 h0 h1 l0 l1 0 (.inl rfl) 0 2999
      obtain ⟨c2, e2⟩ := step4 S0 S1 x0 x1 hx0 hx1 h0 h1 l0 l1 1 (.inr rfl) c1 2998
      simp only [Int.zero_add, show (1 : Int) + 1 = 2 from rfl] at e1 e2
      rw [e1, e2, iter_succ]
      simp -implicitDefEqProofs [b4_2, q11, hA]
    · simp -implicitDefEqProofs [a4, c4, q10, hL0, hL1, X.cell, X.val, X.mv, X.ld, Y.cell, Y.val, Y.mv, Y.ld]
  · simp -implicitDefEqProofs [a4, c4, q10, hL0, hL1, X.cell, X.val, X.mv, X.ld, Y.cell, Y.val, Y.mv, Y.ld]
theorem ref4 : Refines Go.Proofs.Try.prog 4 (E 9 4) := ref 9 4 (q4 8)
end Go.Abs.Try
