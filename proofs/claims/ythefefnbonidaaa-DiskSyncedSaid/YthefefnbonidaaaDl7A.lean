/- Part 1 of Dl7: what our evaluation of a function's code says, the machine's run does; no condition of its own. -/
import Derived.Test.YthefefnbonidaaaDkB
set_option linter.unusedVariables false
set_option linter.unusedSimpArgs false
set_option linter.unusedSectionVars false
namespace Go.Abs.Try
open Go Go.Abs
set_option maxHeartbeats 16000000
set_option maxRecDepth 100000
set_option linter.unusedSimpArgs false
set_option linter.unusedVariables false
/-- what came in and lies still, as operations see it -/
structure Still (x : AV) : Prop where
  cell : ∀ (H : AH) c nm, inCell H c nm x = some (x, H, c)
  val : ∀ (H : AH) c nm, inVal H c nm x = some (x, H, c)
  mv : ∀ (H : AH) r m, mvArgs H (x :: r) m = (mvArgs H r m.tail).map fun q => (x :: q.1, q.2.1, q.2.2)
  ld : ∀ (H : AH), lendArg H x = some x
  low1 : ∀ ns al, x.low1 ns al = true
  low2 : ∀ ns al, x.low2 ns al = true
  low : ∀ ns al, x.low ns al = true
theorem Is.still {l x} (h : Is l x) : Still x := by rcases h with ⟨rfl, _⟩ | rfl <;> exact ⟨fun _ _ _ => rfl, fun _ _ _ => rfl, fun _ _ _ => rfl, fun _ => rfl, fun _ _ => rfl, fun _ _ => rfl, fun _ _ => rfl⟩
theorem Ops.still {S x} (h : Ops S x) : Still x := by rcases h with ⟨rfl, _⟩ | rfl <;> exact ⟨fun _ _ _ => rfl, fun _ _ _ => rfl, fun _ _ _ => rfl, fun _ => rfl, fun _ _ => rfl, fun _ _ => rfl, fun _ _ => rfl⟩
theorem Is.rows {l x} (h : Is l x) (H : AH) : rowsOf H 1 x = some (byteRows l) := by
  rcases h with ⟨rfl, rfl⟩ | rfl
  · rfl
  · simp [rowsOf]
end Go.Abs.Try

namespace Go.Abs.Try
open Go Go.Abs
set_option maxHeartbeats 16000000
set_option maxRecDepth 100000
set_option linter.unusedSimpArgs false
set_option linter.unusedVariables false

abbrev kl7 : List Nat := [36000, 36001, 36002, 40000, 40002, 100000, 100400, 100600, 37000000, 37000001, 41000001]
theorem stepL7 (m : Nat) (S : List DOp) (hS : ∀ o ∈ S, o.OK) (h60 : S.length ≤ 60) (u1 u2 u3 u4 u5 : AV) (g1 g2 N : Nat) (hN : N ≤ 1000) (p : DS × RS) (hp : POK N 64 p) (i : Nat) (hi : i < S.length) (H : AH) (c : Nat) (hH : Mem 36000 40000 36001 37000000 37000001 41000001 g1 g2 p H) (k : Nat) :
    ∃ H' c', c ≤ c' ∧ Mem 36000 40000 36001 37000000 37000001 41000001 g1 g2 (callM S[i] p).2 H' ∧ iter (ev (Q (m + 4)) 3000 b7_1) [0, 1, 2, 3, 4, 5, 13, 15, 17] kl7 (k + 1) ⟨[(0, .ro false 4 (S.map DOp.row)), (1, u1), (2, u2), (3, u3), (4, u4), (5, u5), (13, .ptr 36000 g1 0), (15, .ptr 40000 g2 0), (17, .int .i64 i)], H, c⟩ = iter (ev (Q (m + 4)) 3000 b7_1) [0, 1, 2, 3, 4, 5, 13, 15, 17] kl7 k ⟨[(0, .ro false 4 (S.map DOp.row)), (1, u1), (2, u2), (3, u3), (4, u4), (5, u5), (13, .ptr 36000 g1 0), (15, .ptr 40000 g2 0), (17, .int .i64 (i + 1 : Nat))], H', c'⟩ := by
  have hc := call14 m hN (by omega) p hp S[i] (hS _ (List.getElem_mem _))
  have hlen : (S.map DOp.row).length = S.length := by simp
  have hg : (S.map DOp.row)[i]? = some (S[i]).row := by simp [hi]
  have hok : cellsOK (S[i]).row = true := by
    rcases (hS S[i] (List.getElem_mem _)).v with ⟨h, _⟩ | h <;> simp [DOp.row, h]
  have hrl : (S[i]).row.length = 4 := rfl
  have h1 : (i : Int) < S.length := by omega
  have w1 : IntKind.i64.wrap ((i : Int) + 1) = (i : Int) + 1 := wrap_i64 _ (by omega) (by omega)
  generalize callM S[i] p = x at *
  obtain ⟨x, ⟨⟨b', ps', dn', st', lf'⟩, ⟨s', qs', rdn', rst', rlf'⟩⟩⟩ := x
  obtain ⟨⟨b, ps, dn, st, lf⟩, ⟨s, qs, rdn, rst, rlf⟩⟩ := p
  simp only [dV, rV, dkc, rkc] at hc
  have hv : (S[i]).v.cellb = true := by rcases (hS S[i] (List.getElem_mem _)).v with ⟨h, _⟩ | h <;> simp [h]
  have hv2 : (S[i]).v = .nilS ∨ ∃ r, (S[i]).v = .ro false 1 r := by rcases (hS S[i] (List.getElem_mem _)).v with ⟨h, _⟩ | h; exact .inl h; exact .inr ⟨_, h⟩
  generalize S[i] = o at *
  generalize S.map DOp.row = W at *
  have hg' := (List.getElem?_eq_some_iff.1 hg).2
  obtain ⟨ok, oa, on, ol, ov⟩ := o
  simp only [DOp.row] at *
  have hb := byteRows_len b
  have hb' := byteRows_len b'
  have ht : (byteRows b).take b.length = byteRows b := List.take_of_length_le (by omega)
  have t1 : (ps.map prow).take ps.length = ps.map prow := List.take_of_length_le (by simp)
  have t2 : (qs.map qrow).take qs.length = qs.map qrow := List.take_of_length_le (by simp)
  refine ⟨HB 36000 40000 37000000 37000001 41000001 g1 g2 c (c + 1) (if ps' = [] then c + 1 else c + 2) (⟨b', ps', dn', st', lf'⟩, ⟨s', qs', rdn', rst', rlf'⟩), c + 1 + (if ps' = [] then 0 else 1) + (if qs' = [] then 0 else 1), by omega, .inr ⟨_, _, _, rfl⟩, iter_norm ?_⟩
  unfold HB
  rcases hH with ⟨ga, e1, e2, rfl⟩ | ⟨gb, gp, gq, rfl⟩
  · simp only at e1 e2
    subst e1 e2
    rw [pdv_nil rfl, qv_nil rfl] at hc
    unfold HA
    by_cases h3 : ps' = [] <;> by_cases h4 : qs' = [] <;> (first | rw [pdv_nil h3] at hc | rw [pdv_cons h3] at hc) <;> (first | rw [qv_nil h4] at hc | rw [qv_cons h4] at hc) <;> rcases hv2 with rfl | ⟨ol2, rfl⟩ <;>
      simp -implicitDefEqProofs [b7_1, St.keep, q14, hc, hb, hb', ht, t1, t2, hlen, hi, h1, w1, hg, hg', h3, h4]
  · unfold HB
    by_cases h5 : ps = [] <;> by_cases h2 : qs = [] <;> by_cases h3 : ps' = [] <;> by_cases h4 : qs' = [] <;>
      (first | rw [pdv_nil h5] at hc | rw [pdv_cons h5] at hc) <;> (first | rw [qv_nil h2] at hc | rw [qv_cons h2] at hc) <;> (first | rw [pdv_nil h3] at hc | rw [pdv_cons h3] at hc) <;> (first | rw [qv_nil h4] at hc | rw [qv_cons h4] at hc) <;> rcases hv2 with rfl | ⟨ol2, rfl⟩ <;>
      simp -implicitDefEqProofs [b7_1, St.keep, q14, hc, hb, hb', ht, t1, t2, hlen, hi, h1, w1, hg, hg', h2, h3, h4, h5]
theorem loopL7 (m : Nat) (S : List DOp) (x : AV) (hx : Ops S x) (hS : ∀ o ∈ S, o.OK) (h60 : S.length ≤ 60) (u1 u2 u3 u4 u5 : AV) (g1 g2 : Nat) : ∀ (d i k N : Nat) (p : DS × RS) (H : AH) (c : Nat), i + d = S.length → d < k → N + d ≤ 1000 → POK N 64 p → Mem 36000 40000 36001 37000000 37000001 41000001 g1 g2 p H →
    ∃ E' H' c' q, c ≤ c' ∧ Mem 36000 40000 36001 37000000 37000001 41000001 g1 g2 q H' ∧ POK (N + d) 64 q ∧ envOnly [1, 2, 3, 4, 5, 13] E' = [(1, u1), (2, u2), (3, u3), (4, u4), (5, u5), (13, .ptr 36000 g1 0)] ∧ iter (ev (Q (m + 4)) 3000 b7_1) [0, 1, 2, 3, 4, 5, 13, 15, 17] kl7 k ⟨[(0, x), (1, u1), (2, u2), (3, u3), (4, u4), (5, u5), (13, .ptr 36000 g1 0), (15, .ptr 40000 g2 0), (17, .int .i64 i)], H, c⟩ = some (.exit 0, ⟨E', H', c'⟩)
  | d, i, 0, N, p, H, c, hi, hk, hN, hp, hH => by omega
  | 0, i, k + 1, N, p, H, c, hi, hk, hN, hp, hH => by
    obtain rfl : i = S.length := by omega
    have hk : H.only kl7 = H := by
      rcases hH with ⟨ga, e1, e2, rfl⟩ | ⟨gb, gp, gq, rfl⟩
      · simp [HA]
      · unfold HB
        by_cases h1 : p.1.ps = [] <;> by_cases h2 : p.2.qs = [] <;> simp [h1, h2]
    have key : ∃ E', iter (ev (Q (m + 4)) 3000 b7_1) [0, 1, 2, 3, 4, 5, 13, 15, 17] kl7 (k + 1) ⟨[(0, x), (1, u1), (2, u2), (3, u3), (4, u4), (5, u5), (13, .ptr 36000 g1 0), (15, .ptr 40000 g2 0), (17, .int .i64 S.length)], H, c⟩ = some (.exit 0, ⟨E', H, c⟩) ∧ envOnly [1, 2, 3, 4, 5, 13] E' = [(1, u1), (2, u2), (3, u3), (4, u4), (5, u5), (13, .ptr 36000 g1 0)] := by
      rw [iter_succ]
      rcases hx with ⟨rfl, rfl⟩ | rfl
      · simp -implicitDefEqProofs [b7_1, hk]
      · have hlen : (S.map DOp.row).length = S.length := by simp
        generalize S.map DOp.row = W at *
        simp -implicitDefEqProofs [b7_1, hlen, hk]
    obtain ⟨E', e1, e2⟩ := key
    exact ⟨E', H, c, p, Nat.le_refl _, hH, hp, e2, e1⟩
  | d + 1, i, k + 1, N, p, H, c, hi, hk, hN, hp, hH => by
    obtain rfl : x = .ro false 4 (S.map DOp.row) := by
      rcases hx with ⟨rfl, rfl⟩ | h
      · simp at hi
      · exact h
    obtain ⟨H1, c1, q1, hH1, e1⟩ := stepL7 m S hS h60 u1 u2 u3 u4 u5 g1 g2 N (by omega) p hp i (by omega) H c hH k
    obtain ⟨E', H', c', q, q2, r1, r2, r3, r4⟩ := loopL7 m S _ (.inr rfl) hS h60 u1 u2 u3 u4 u5 g1 g2 d (i + 1) k (N + 1) _ H1 c1 (by omega) (by omega) (by omega) (hp.call _) hH1
    exact ⟨E', H', c', q, Nat.le_trans q1 q2, r1, by rw [show N + (d + 1) = N + 1 + d by omega]; exact r2, r3, by rw [e1]; exact r4⟩
/-- the loop, found by its start -/
theorem foundL7 {m : Nat} {S : List DOp} {x : AV} (hx : Ops S x) (hS : ∀ o ∈ S, o.OK) (h60 : S.length ≤ 60) {u1 u2 u3 u4 u5 : AV} {g1 g2 N c : Nat} {p : DS × RS} {H : AH} {X : Option (Ex × St)}
    (hI : iter (ev (Q (m + 4)) 3000 b7_1) [0, 1, 2, 3, 4, 5, 13, 15, 17] kl7 3000 ⟨[(0, x), (1, u1), (2, u2), (3, u3), (4, u4), (5, u5), (13, .ptr 36000 g1 0), (15, .ptr 40000 g2 0), (17, .int .i64 0)], H, c⟩ = X) (hN : N ≤ 900) (hp : POK N 64 p) (hH : Mem 36000 40000 36001 37000000 37000001 41000001 g1 g2 p H) :
    ∃ E' H' c' q, c ≤ c' ∧ Mem 36000 40000 36001 37000000 37000001 41000001 g1 g2 q H' ∧ POK (N + S.length) 64 q ∧ envOnly [1, 2, 3, 4, 5, 13] E' = [(1, u1), (2, u2), (3, u3), (4, u4), (5, u5), (13, .ptr 36000 g1 0)] ∧ X = some (.exit 0, ⟨E', H', c'⟩) := by
  obtain ⟨E', H', c', q, q2, r1, r2, r3, r4⟩ := loopL7 m S x hx hS h60 u1 u2 u3 u4 u5 g1 g2 S.length 0 3000 N p H c (by omega) (by omega) (by omega) hp hH
  exact ⟨E', H', c', q, q2, r1, r2, r3, by rw [← hI]; exact r4⟩
end Go.Abs.Try

namespace Go.Abs.Try
open Go Go.Abs
set_option maxHeartbeats 16000000
set_option maxRecDepth 100000
set_option linter.unusedSimpArgs false
set_option linter.unusedVariables false
/-- one disk in a law's memory, once it has been called, with one array of the law's ahead of its pieces -/
def HW (nV nB nC g gb gp : Nat) (X : AH) (d : DS) : AH :=
  ⟨nV, g, .var [.own nB gb 0 d.b.length, (if d.ps = [] then .nilS else .own nC gp 0 d.ps.length), .bool d.dn, .bool d.st, .int .i64 d.lf]⟩ :: (X ++
  (⟨nB, gb, .arr 1 (byteRows d.b) false⟩ :: (if d.ps = [] then [] else [⟨nC, gp, .arr 3 (d.ps.map prow) false⟩])))
/-- a script's write -/
def wM (d : DS) (o : DOp) : DS := (dWrite d o.a (match o.v with | .nilS => true | _ => false) o.l).2
theorem DOp.OK.b {o : DOp} (h : o.OK) : BArg (match o.v with | .nilS => true | _ => false) o.l o.v := by
  rcases h.v with ⟨h1, h2⟩ | h1
  · rw [h1]; exact .inl ⟨rfl, h2, rfl⟩
  · rw [h1]; exact .inr ⟨rfl, _, rfl⟩
abbrev kw4 : List Nat := [30000, 30001, 30002, 67000, 90000, 100000, 100200, 31000000, 31000001]
theorem stepW4 (m : Nat) (S : List DOp) (hS : ∀ o ∈ S, o.OK) (h60 : S.length ≤ 60) (u0 u5 u12 : AV) (g gw N : Nat) (W : List (List AV)) (hN : N ≤ 1000) (d : DS) (hd : DOK N d) (i : Nat) (hi : i < S.length) (gb gp c k : Nat) (hgc : g < c) :
    ∃ gb' gp' c', g < c' ∧ iter (ev (Q (m + 4)) 3000 b4_0) [0, 1, 5, 6, 11, 12, 13] kw4 (k + 1) ⟨[(0, u0), (1, .ro false 4 (S.map DOp.row)), (5, u5), (6, .ptr 30000 g 0), (11, .own 67000 gw 0 64), (12, u12), (13, .int .i64 i)], HW 30000 31000000 31000001 g gb gp [⟨67000, gw, .arr 1 W false⟩] d, c⟩ =
      iter (ev (Q (m + 4)) 3000 b4_0) [0, 1, 5, 6, 11, 12, 13] kw4 k ⟨[(0, u0), (1, .ro false 4 (S.map DOp.row)), (5, u5), (6, .ptr 30000 g 0), (11, .own 67000 gw 0 64), (12, u12), (13, .int .i64 (i + 1 : Nat))], HW 30000 31000000 31000001 g gb' gp' [⟨67000, gw, .arr 1 W false⟩] (wM d S[i]), c'⟩ := by
  have ho := hS _ (List.getElem_mem hi)
  have hc := eWrite (m + 2) (by omega) d hd S[i].a _ _ _ ho.b
  have hlen : (S.map DOp.row).length = S.length := by simp
  have hg : (S.map DOp.row)[i]? = some (S[i]).row := by simp [hi]
  have h1 : (i : Int) < S.length := by omega
  have w1 : IntKind.i64.wrap ((i : Int) + 1) = (i : Int) + 1 := wrap_i64 _ (by omega) (by omega)
  have Y := ho.v.still
  unfold wM
  generalize dWrite d S[i].a _ _ = x at *
  obtain ⟨x, ⟨b', ps', dn', st', lf'⟩⟩ := x
  obtain ⟨b, ps, dn, st, lf⟩ := d
  simp only [dV, dkc] at hc
  generalize S[i] = o at *
  generalize S.map DOp.row = V at *
  have hg' := (List.getElem?_eq_some_iff.1 hg).2
  obtain ⟨ok, oa, on, ol, ov⟩ := o
  simp only [DOp.row] at *
  have hb := byteRows_len b
  have hb' := byteRows_len b'
  have ht : (byteRows b).take b.length = byteRows b := List.take_of_length_le (by omega)
  have t1 : (ps.map prow).take ps.length = ps.map prow := List.take_of_length_le (by simp)
  refine ⟨c, c + 1, c + 1 + (if ps' = [] then 0 else 1), by omega, iter_norm ?_⟩
  unfold HW
  by_cases h5 : ps = [] <;> by_cases h3 : ps' = [] <;>
    (first | rw [pdv_nil h5] at hc | rw [pdv_cons h5] at hc) <;> (first | rw [pdv_nil h3] at hc | rw [pdv_cons h3] at hc) <;>
    simp -implicitDefEqProofs [b4_0, St.keep, q17, hc, hb, hb', ht, t1, hlen, hi, h1, w1, hg, hg', h3, h5, Y.cell, Y.val, Y.mv, Y.ld, Y.low1, Y.low2, Y.low, hgc, show c ≤ c + 1 + 1 by omega, show c < c + 1 + 1 by omega]
theorem wM_OK {N : Nat} {d : DS} (h : DOK N d) (o : DOp) : DOK (N + 1) (wM d o) := h.write _ _ _
theorem HW_only4 (g gb gp gw W d) : (HW 30000 31000000 31000001 g gb gp [⟨67000, gw, .arr 1 W false⟩] d).only kw4 = HW 30000 31000000 31000001 g gb gp [⟨67000, gw, .arr 1 W false⟩] d := by
  unfold HW
  by_cases h : d.ps = [] <;> simp [h]
theorem loopW4 (m : Nat) (S : List DOp) (x : AV) (hx : Ops S x) (hS : ∀ o ∈ S, o.OK) (h60 : S.length ≤ 60) (u0 u5 u12 : AV) (g gw : Nat) (W : List (List AV)) : ∀ (r i k N : Nat) (d : DS) (gb gp c : Nat), i + r = S.length → r < k → N + r ≤ 1000 → DOK N d → g < c →
    ∃ E' gb' gp' c', g < c' ∧ envOnly [0, 1, 5, 6, 11, 12] E' = [(0, u0), (1, x), (5, u5), (6, .ptr 30000 g 0), (11, .own 67000 gw 0 64), (12, u12)] ∧
      iter (ev (Q (m + 4)) 3000 b4_0) [0, 1, 5, 6, 11, 12, 13] kw4 k ⟨[(0, u0), (1, x), (5, u5), (6, .ptr 30000 g 0), (11, .own 67000 gw 0 64), (12, u12), (13, .int .i64 i)], HW 30000 31000000 31000001 g gb gp [⟨67000, gw, .arr 1 W false⟩] d, c⟩ =
      some (.exit 4, ⟨E', HW 30000 31000000 31000001 g gb' gp' [⟨67000, gw, .arr 1 W false⟩] ((S.drop i).foldl wM d), c'⟩)
  | r, i, 0, N, d, gb, gp, c, hi, hk, hN, hd, hc => by omega
  | 0, i, k + 1, N, d, gb, gp, c, hi, hk, hN, hd, hc => by
    obtain rfl : i = S.length := by omega
    rw [List.drop_of_length_le (Nat.le_refl _)]
    have hk := HW_only4 g gb gp gw W d
    have key : ∃ E', iter (ev (Q (m + 4)) 3000 b4_0) [0, 1, 5, 6, 11, 12, 13] kw4 (k + 1) ⟨[(0, u0), (1, x), (5, u5), (6, .ptr 30000 g 0), (11, .own 67000 gw 0 64), (12, u12), (13, .int .i64 S.length)], HW 30000 31000000 31000001 g gb gp [⟨67000, gw, .arr 1 W false⟩] d, c⟩ = some (.exit 4, ⟨E', HW 30000 31000000 31000001 g gb gp [⟨67000, gw, .arr 1 W false⟩] d, c⟩) ∧ envOnly [0, 1, 5, 6, 11, 12] E' = [(0, u0), (1, x), (5, u5), (6, .ptr 30000 g 0), (11, .own 67000 gw 0 64), (12, u12)] := by
      rw [iter_succ]
      generalize HW 30000 31000000 31000001 g gb gp [⟨67000, gw, .arr 1 W false⟩] d = H at *
      rcases hx with ⟨rfl, rfl⟩ | rfl
      · simp -implicitDefEqProofs [b4_0, hk]
      · have hlen : (S.map DOp.row).length = S.length := by simp
        generalize S.map DOp.row = V at *
        simp -implicitDefEqProofs [b4_0, hlen, hk]
    obtain ⟨E', e1, e2⟩ := key
    exact ⟨E', gb, gp, c, hc, e2, e1⟩
  | r + 1, i, k + 1, N, d, gb, gp, c, hi, hk, hN, hd, hc => by
    have hi' : i < S.length := by omega
    obtain rfl : x = .ro false 4 (S.map DOp.row) := by
      rcases hx with ⟨rfl, rfl⟩ | h
      · simp at hi
      · exact h
    obtain ⟨gb1, gp1, c1, hc1, e1⟩ := stepW4 m S hS h60 u0 u5 u12 g gw N W (by omega) d hd i hi' gb gp c k hc
    obtain ⟨E', gb2, gp2, c2, hc2, e2, e3⟩ := loopW4 m S _ (.inr rfl) hS h60 u0 u5 u12 g gw W r (i + 1) k (N + 1) _ gb1 gp1 c1 (by omega) (by omega) (by omega) (wM_OK hd _) hc1
    refine ⟨E', gb2, gp2, c2, hc2, e2, ?_⟩
    rw [e1, e3, List.drop_eq_getElem_cons hi']
    rfl
/-- the loop, found by its start -/
theorem foundW4 {m : Nat} {S : List DOp} {x : AV} (hx : Ops S x) (hS : ∀ o ∈ S, o.OK) (h60 : S.length ≤ 60) {u0 u5 u12 : AV} {g gw c : Nat} {W : List (List AV)} {H : AH} {X : Option (Ex × St)}
    (hI : iter (ev (Q (m + 4)) 3000 b4_0) [0, 1, 5, 6, 11, 12, 13] kw4 3000 ⟨[(0, u0), (1, x), (5, u5), (6, .ptr 30000 g 0), (11, .own 67000 gw 0 64), (12, u12), (13, .int .i64 0)], H, c⟩ = X)
    {N : Nat} (hN : N ≤ 900) {d : DS} (hd : DOK N d) (hc : g < c) {gb gp : Nat} (hH : H = HW 30000 31000000 31000001 g gb gp [⟨67000, gw, .arr 1 W false⟩] d) :
    ∃ E' gb' gp' c', g < c' ∧ envOnly [0, 1, 5, 6, 11, 12] E' = [(0, u0), (1, x), (5, u5), (6, .ptr 30000 g 0), (11, .own 67000 gw 0 64), (12, u12)] ∧
      X = some (.exit 4, ⟨E', HW 30000 31000000 31000001 g gb' gp' [⟨67000, gw, .arr 1 W false⟩] (S.foldl wM d), c'⟩) := by
  obtain ⟨E', gb', gp', c', r1, r2, r3⟩ := loopW4 m S x hx hS h60 u0 u5 u12 g gw W S.length 0 3000 N d gb gp c (by omega) (by omega) (by omega) hd hc
  refine ⟨E', gb', gp', c', r1, r2, ?_⟩
  rw [← hI, hH]; exact r3

/- ------------------------------------------------ the plain law -/
theorem put_undo (b l : List UInt8) (a : Nat) (h : a + l.length ≤ b.length) : put (put b a l) a ((b.drop a).take l.length) = b := by
  have hA : (b.take a).length = a := by rw [List.length_take]; omega
  have hB : ((b.drop a).take l.length).length = l.length := by simp; omega
  have e1 : (put b a l).take a = b.take a := by
    unfold put; rw [List.take_append_of_le_length (by omega), List.take_of_length_le (by omega)]
  have e2 : (put b a l).drop (a + l.length) = b.drop (a + l.length) := by
    unfold put; rw [← List.append_assoc, List.drop_append, List.drop_of_length_le (by simp; omega), List.nil_append, show a + l.length - (b.take a ++ l).length = 0 by simp; omega, List.drop_zero]
  have : put (put b a l) a ((b.drop a).take l.length) = (put b a l).take a ++ ((b.drop a).take l.length ++ (put b a l).drop (a + l.length)) := by rw [put, hB]
  rw [this, e1, e2]
  have e3 : (b.drop a).take l.length ++ b.drop (a + l.length) = b.drop a := by
    rw [← List.drop_drop]; exact List.take_append_drop _ _
  rw [e3]; exact List.take_append_drop _ _
theorem wM_undo {N : Nat} {d : DS} (h : DOK N d) (o : DOp) : undo (wM d o).ps (wM d o).b = undo d.ps d.b := by
  unfold wM dWrite
  split
  · rfl
  split
  · next hin =>
    have hle := inB_len hin
    show undo (d.ps ++ [_]) (put d.b o.a.toNat o.l) = _
    unfold undo
    rw [List.foldr_append]
    simp only [List.foldr_cons, List.foldr_nil]
    rw [put_undo _ _ _ hle]
  · rfl
theorem wM_all {N : Nat} : ∀ (S : List DOp) {d : DS}, DOK N d → undo (S.foldl wM d).ps (S.foldl wM d).b = undo d.ps d.b ∧ DOK (N + S.length) (S.foldl wM d) ∧ (S.foldl wM d).b.length = d.b.length := by
  intro S
  induction S generalizing N with
  | nil => intro d h; exact ⟨rfl, h, rfl⟩
  | cons o r ih =>
    intro d h
    obtain ⟨h1, h2, h3⟩ := ih (wM_OK h o)
    refine ⟨by rw [List.foldl_cons, h1, wM_undo h], by rw [List.foldl_cons, List.length_cons, show N + (r.length + 1) = N + 1 + r.length by omega]; exact h2, ?_⟩
    rw [List.foldl_cons, h3]; exact dWrite_len h _ _ _
theorem crash_all (torn : Int) (ps : List PW) (b : List UInt8) (h : ps.length ≤ 1000) : pcrash 1000 torn ps b = b := by
  unfold pcrash keepN
  have : min (1000 : Int).toNat ps.length = ps.length := by simp; omega
  rw [this]
  simp [undo]
theorem crash_none (ps : List PW) (b : List UInt8) (h : ∀ w ∈ ps, w.a ≤ (undo ps b).length) : pcrash 0 0 ps b = undo ps b := by
  unfold pcrash keepN
  have : min (0 : Int).toNat ps.length = 0 := by simp
  rw [this]
  simp only [List.drop_zero]
  split
  · next w hw =>
    have ht : tearN 0 w.now.length = 0 := by simp [tearN]
    rw [ht]
    simp [put]
  · rfl
end Go.Abs.Try

namespace Go.Abs.Try
open Go Go.Abs
set_option maxHeartbeats 16000000
set_option maxRecDepth 100000
set_option linter.unusedSimpArgs false
set_option linter.unusedVariables false
theorem dWrite_zero {d : DS} {a : Int} {n l} (h : (dWrite d a n l).1 = 0) : inB d.b.length a l.length = true := by
  unfold dWrite at h
  split at h
  · simp at h
  split at h
  · next h1 => exact h1
  · simp at h
/-- a script's write, and whether it went over the place -/
def oM (A n : Nat) (p : Bool × DS) (o : DOp) : Bool × DS :=
  (if (dWrite p.2 o.a (match o.v with | .nilS => true | _ => false) o.l).1 = 0 then p.1 || (decide (o.a < (A + n : Nat)) && decide ((A : Int) < o.a + o.l.length)) else p.1, wM p.2 o)
abbrev kw7 : List Nat := [36000, 36001, 36002, 100400, 100600, 37000000, 37000001]
theorem stepW7 (m : Nat) (S : List DOp) (hS : ∀ o ∈ S, o.OK) (h60 : S.length ≤ 60) (x2 u4 u5 : AV) (A n : Nat) (hA : A + n ≤ 64) (hx2 : alen x2 = some n) (ov : Bool) (g N : Nat) (hN : N ≤ 1000) (d : DS) (hd : DOK N d) (hdb : d.b.length = 64) (i : Nat) (hi : i < S.length) (gb gp c k : Nat) (hgc : g < c) :
    ∃ gb' gp' c', g < c' ∧ iter (ev (Q (m + 4)) 3000 b7_0) [1, 2, 3, 4, 5, 13, 18, 19] kw7 (k + 1) ⟨[(1, .int .i64 A), (2, x2), (3, .ro false 4 (S.map DOp.row)), (4, u4), (5, u5), (13, .ptr 36000 g 0), (18, .bool ov), (19, .int .i64 i)], HW 36000 37000000 37000001 g gb gp [] d, c⟩ =
      iter (ev (Q (m + 4)) 3000 b7_0) [1, 2, 3, 4, 5, 13, 18, 19] kw7 k ⟨[(1, .int .i64 A), (2, x2), (3, .ro false 4 (S.map DOp.row)), (4, u4), (5, u5), (13, .ptr 36000 g 0), (18, .bool (oM A n (ov, d) S[i]).1), (19, .int .i64 (i + 1 : Nat))], HW 36000 37000000 37000001 g gb' gp' [] (oM A n (ov, d) S[i]).2, c'⟩ := by
  have ho := hS _ (List.getElem_mem hi)
  have hc := eWrite (m + 2) (by omega) d hd S[i].a _ _ _ ho.b
  have hz : (dWrite d S[i].a (match S[i].v with | .nilS => true | _ => false) S[i].l).1 = 0 → inB d.b.length S[i].a S[i].l.length = true := dWrite_zero
  have hlen : (S.map DOp.row).length = S.length := by simp
  have hg : (S.map DOp.row)[i]? = some (S[i]).row := by simp [hi]
  have h1 : (i : Int) < S.length := by omega
  have w1 : IntKind.i64.wrap ((i : Int) + 1) = (i : Int) + 1 := wrap_i64 _ (by omega) (by omega)
  have w2 : IntKind.i64.wrap ((A : Int) + (n : Int)) = (A : Int) + (n : Int) := wrap_i64 _ (by omega) (by omega)
  have Y := ho.v.still
  have hlv := ho.v.len
  have hcb : (S[i]).v.cellb = true := by rcases ho.v with ⟨h, _⟩ | h <;> simp [h]
  rw [hdb] at hz
  unfold oM wM
  simp only
  generalize dWrite d S[i].a _ _ = x at *
  obtain ⟨x, ⟨b', ps', dn', st', lf'⟩⟩ := x
  obtain ⟨b, ps, dn, st, lf⟩ := d
  simp only [dV, dkc] at hc
  simp only at hz
  generalize S[i] = o at *
  generalize S.map DOp.row = V at *
  have hg' := (List.getElem?_eq_some_iff.1 hg).2
  obtain ⟨ok, oa, on, ol, ov1⟩ := o
  simp only [DOp.row] at *
  have hb := byteRows_len b
  have hb' := byteRows_len b'
  have ht : (byteRows b).take b.length = byteRows b := List.take_of_length_le (by omega)
  have t1 : (ps.map prow).take ps.length = ps.map prow := List.take_of_length_le (by simp)
  refine ⟨c + 1, c + 2, c + 2 + (if ps' = [] then 0 else 1), by omega, iter_norm ?_⟩
  unfold HW
  by_cases hx : x = 0
  · obtain ⟨a0, j, rfl, hj, hle⟩ := inB_spec (hz hx)
    have hj' : j = ol.length := by omega
    subst hj'
    subst hx
    have w3 : IntKind.i64.wrap ((a0 : Int) + (ol.length : Int)) = (a0 : Int) + (ol.length : Int) := wrap_i64 _ (by omega) (by omega)
    by_cases h5 : ps = [] <;> by_cases h3 : ps' = [] <;> cases ov <;> by_cases p1 : (a0 : Int) < (A : Int) + (n : Int) <;> by_cases p2 : (A : Int) < (a0 : Int) + (ol.length : Int) <;>
      (first | rw [pdv_nil h5] at hc | rw [pdv_cons h5] at hc) <;> (first | rw [pdv_nil h3] at hc | rw [pdv_cons h3] at hc) <;>
      simp -implicitDefEqProofs [b7_0, z35, St.keep, q17, hc, hb, hb', ht, t1, hlen, hi, h1, w1, w2, w3, hg, hg', h3, h5, Y.cell, Y.val, Y.mv, Y.ld, hcb, hlv, hx2, p1, p2, hgc]
  · by_cases h5 : ps = [] <;> by_cases h3 : ps' = [] <;>
      (first | rw [pdv_nil h5] at hc | rw [pdv_cons h5] at hc) <;> (first | rw [pdv_nil h3] at hc | rw [pdv_cons h3] at hc) <;>
      simp -implicitDefEqProofs [b7_0, z35, St.keep, q17, hc, hb, hb', ht, t1, hlen, hi, h1, w1, w2, hg, hg', h3, h5, Y.cell, Y.val, Y.mv, Y.ld, hcb, hlv, hx2, hx, show (x == 0) = false by simp [hx], hgc]
end Go.Abs.Try

namespace Go.Abs.Try
open Go Go.Abs
set_option maxHeartbeats 16000000
set_option maxRecDepth 100000
set_option linter.unusedSimpArgs false
set_option linter.unusedVariables false
theorem HW_only7 (g gb gp d) : (HW 36000 37000000 37000001 g gb gp [] d).only kw7 = HW 36000 37000000 37000001 g gb gp [] d := by
  unfold HW
  by_cases h : d.ps = [] <;> simp [h]
theorem loopW7 (m : Nat) (S : List DOp) (x : AV) (hx : Ops S x) (hS : ∀ o ∈ S, o.OK) (h60 : S.length ≤ 60) (x2 u4 u5 : AV) (A n : Nat) (hA : A + n ≤ 64) (hx2 : alen x2 = some n) (g : Nat) : ∀ (r i k N : Nat) (ov : Bool) (d : DS) (gb gp c : Nat), i + r = S.length → r < k → N + r ≤ 1000 → DOK N d → d.b.length = 64 → g < c →
    ∃ E' gb' gp' c' y, g < c' ∧ y = (S.drop i).foldl (oM A n) (ov, d) ∧ envOnly [1, 2, 4, 5, 13, 18] E' = [(1, .int .i64 A), (2, x2), (4, u4), (5, u5), (13, .ptr 36000 g 0), (18, .bool y.1)] ∧
      iter (ev (Q (m + 4)) 3000 b7_0) [1, 2, 3, 4, 5, 13, 18, 19] kw7 k ⟨[(1, .int .i64 A), (2, x2), (3, x), (4, u4), (5, u5), (13, .ptr 36000 g 0), (18, .bool ov), (19, .int .i64 i)], HW 36000 37000000 37000001 g gb gp [] d, c⟩ =
      some (.exit 2, ⟨E', HW 36000 37000000 37000001 g gb' gp' [] y.2, c'⟩)
  | r, i, 0, N, ov, d, gb, gp, c, hi, hk, hN, hd, hb, hc => by omega
  | 0, i, k + 1, N, ov, d, gb, gp, c, hi, hk, hN, hd, hb, hc => by
    obtain rfl : i = S.length := by omega
    rw [List.drop_of_length_le (Nat.le_refl _)]
    have hk := HW_only7 g gb gp d
    have key : ∃ E', iter (ev (Q (m + 4)) 3000 b7_0) [1, 2, 3, 4, 5, 13, 18, 19] kw7 (k + 1) ⟨[(1, .int .i64 A), (2, x2), (3, x), (4, u4), (5, u5), (13, .ptr 36000 g 0), (18, .bool ov), (19, .int .i64 S.length)], HW 36000 37000000 37000001 g gb gp [] d, c⟩ = some (.exit 2, ⟨E', HW 36000 37000000 37000001 g gb gp [] d, c⟩) ∧ envOnly [1, 2, 4, 5, 13, 18] E' = [(1, .int .i64 A), (2, x2), (4, u4), (5, u5), (13, .ptr 36000 g 0), (18, .bool ov)] := by
      rw [iter_succ]
      generalize HW 36000 37000000 37000001 g gb gp [] d = H at *
      rcases hx with ⟨rfl, rfl⟩ | rfl
      · simp -implicitDefEqProofs [b7_0, hk]
      · have hlen : (S.map DOp.row).length = S.length := by simp
        generalize S.map DOp.row = V at *
        simp -implicitDefEqProofs [b7_0, hlen, hk]
    obtain ⟨E', e1, e2⟩ := key
    exact ⟨E', gb, gp, c, _, hc, rfl, e2, e1⟩
  | r + 1, i, k + 1, N, ov, d, gb, gp, c, hi, hk, hN, hd, hb, hc => by
    have hi' : i < S.length := by omega
    obtain rfl : x = .ro false 4 (S.map DOp.row) := by
      rcases hx with ⟨rfl, rfl⟩ | h
      · simp at hi
      · exact h
    obtain ⟨gb1, gp1, c1, hc1, e1⟩ := stepW7 m S hS h60 x2 u4 u5 A n hA hx2 ov g N (by omega) d hd hb i hi' gb gp c k hc
    have hb1 : (oM A n (ov, d) S[i]).2.b.length = 64 := by
      show (wM d S[i]).b.length = 64
      rw [wM, dWrite_len hd, hb]
    obtain ⟨E', gb2, gp2, c2, y, hc2, hy, e2, e3⟩ := loopW7 m S _ (.inr rfl) hS h60 x2 u4 u5 A n hA hx2 g r (i + 1) k (N + 1) (oM A n (ov, d) S[i]).1 (oM A n (ov, d) S[i]).2 gb1 gp1 c1 (by omega) (by omega) (by omega) (wM_OK hd _) hb1 hc1
    refine ⟨E', gb2, gp2, c2, y, hc2, ?_, e2, ?_⟩
    · rw [List.drop_eq_getElem_cons hi', List.foldl_cons]; exact hy
    · rw [e1, e3]
/-- the loop, found by its start -/
theorem foundW7 {m : Nat} {S : List DOp} {x : AV} (hx : Ops S x) (hS : ∀ o ∈ S, o.OK) (h60 : S.length ≤ 60) {x2 u4 u5 : AV} {A n g c : Nat} (hA : A + n ≤ 64) (hx2 : alen x2 = some n) {H : AH} {X : Option (Ex × St)}
    (hI : iter (ev (Q (m + 4)) 3000 b7_0) [1, 2, 3, 4, 5, 13, 18, 19] kw7 3000 ⟨[(1, .int .i64 A), (2, x2), (3, x), (4, u4), (5, u5), (13, .ptr 36000 g 0), (18, .bool false), (19, .int .i64 0)], H, c⟩ = X)
    {N : Nat} (hN : N ≤ 900) {d : DS} (hd : DOK N d) (hb : d.b.length = 64) (hc : g < c) {gb gp : Nat} (hH : H = HW 36000 37000000 37000001 g gb gp [] d) :
    ∃ E' gb' gp' c' y, g < c' ∧ y = S.foldl (oM A n) (false, d) ∧ envOnly [1, 2, 4, 5, 13, 18] E' = [(1, .int .i64 A), (2, x2), (4, u4), (5, u5), (13, .ptr 36000 g 0), (18, .bool y.1)] ∧
      X = some (.exit 2, ⟨E', HW 36000 37000000 37000001 g gb' gp' [] y.2, c'⟩) := by
  obtain ⟨E', gb', gp', c', y, r1, r0, r2, r3⟩ := loopW7 m S x hx hS h60 x2 u4 u5 A n hA hx2 g S.length 0 3000 N false d gb gp c (by omega) (by omega) (by omega) hd hb hc
  refine ⟨E', gb', gp', c', y, r1, r0, r2, ?_⟩
  rw [← hI, hH]; exact r3
/- ------------------------------------------------ the plain law: outside its place a write changes nothing -/
theorem put_out (b l : List UInt8) (a A n : Nat) (h : a + l.length ≤ b.length) (ho : A + n ≤ a ∨ a + l.length ≤ A ∨ l = []) : ((put b a l).drop A).take n = (b.drop A).take n := by
  apply List.ext_getElem?
  intro i
  by_cases hi : i < n
  · rw [List.getElem?_take_of_lt hi, List.getElem?_take_of_lt hi, List.getElem?_drop, List.getElem?_drop]
    have hA : (b.take a).length = a := by rw [List.length_take]; omega
    unfold put
    by_cases h1 : A + i < a
    · rw [List.getElem?_append_left (by omega), List.getElem?_take_of_lt h1]
    · rw [List.getElem?_append_right (by omega), hA]
      by_cases h2 : A + i - a < l.length
      · rcases ho with ho | ho | ho
        · omega
        · omega
        · subst ho; simp at h2
      · rw [List.getElem?_append_right (by omega), List.getElem?_drop]
        congr 1; omega
  · rw [List.getElem?_eq_none (by rw [List.length_take]; omega), List.getElem?_eq_none (by rw [List.length_take]; omega)]
end Go.Abs.Try

namespace Go.Abs.Try
open Go Go.Abs
set_option maxHeartbeats 16000000
set_option maxRecDepth 100000
set_option linter.unusedSimpArgs false
set_option linter.unusedVariables false
def Out (A n : Nat) (w : PW) : Prop := A + n ≤ w.a ∨ w.a + w.now.length ≤ A
theorem undo_out (A n : Nat) : ∀ (ps : List PW) (b : List UInt8), (∀ w ∈ ps, w.a + w.was.length ≤ b.length ∧ w.now.length = w.was.length ∧ Out A n w) → ((undo ps b).drop A).take n = (b.drop A).take n ∧ (undo ps b).length = b.length
  | [], b, _ => ⟨rfl, rfl⟩
  | w :: r, b, h => by
    obtain ⟨h1, h2⟩ := undo_out A n r b (fun x hx => h x (List.mem_cons_of_mem _ hx))
    obtain ⟨q1, q2, q3⟩ := h w List.mem_cons_self
    have e : undo (w :: r) b = put (undo r b) w.a w.was := rfl
    rw [e]
    refine ⟨?_, by rw [put_len _ _ _ (by omega), h2]⟩
    rw [put_out _ _ _ _ _ (by omega) (by unfold Out at q3; omega), h1]
theorem pcrash_out (A n : Nat) (keep torn : Int) (ps : List PW) (b : List UInt8) (h : ∀ w ∈ ps, w.a + w.was.length ≤ b.length ∧ w.now.length = w.was.length ∧ Out A n w) : ((pcrash keep torn ps b).drop A).take n = (b.drop A).take n := by
  obtain ⟨h1, h2⟩ := undo_out A n (ps.drop (keepN keep ps.length)) b (fun w hw => h w (List.mem_of_mem_drop hw))
  unfold pcrash
  simp only
  split
  · next w hw =>
    obtain ⟨q1, q2, q3⟩ := h w (List.mem_of_getElem? hw)
    have := tearN_le torn w.now.length
    have hl : (w.now.take (tearN torn w.now.length)).length = tearN torn w.now.length := by rw [List.length_take]; omega
    unfold Out at q3
    rw [put_out _ _ _ _ _ (by omega) (by omega), h1]
  · exact h1
/-- what holds as long as no write went over the place -/
structure Free (A n : Nat) (one : List UInt8) (p : Bool × DS) : Prop where
  at_ : p.1 = false → (p.2.b.drop A).take n = one
  out : p.1 = false → ∀ w ∈ p.2.ps, Out A n w
theorem free_step' {A n : Nat} {one : List UInt8} {N : Nat} {ov : Bool} {d : DS} (h : Free A n one (ov, d)) (hd : DOK N d) (o : DOp) (nb : Bool) :
    Free A n one (if (dWrite d o.a nb o.l).1 = 0 then ov || (decide (o.a < (A + n : Nat)) && decide ((A : Int) < o.a + o.l.length)) else ov, (dWrite d o.a nb o.l).2) := by
  by_cases hz : (dWrite d o.a nb o.l).1 = 0
  · rw [if_pos hz]
    have hin := dWrite_zero hz
    have hdn : d.dn = false := by
      cases e : d.dn with
      | false => rfl
      | true => simp [dWrite, e] at hz
    have hle := inB_len hin
    obtain ⟨a0, j, ha, hj, hl2⟩ := inB_spec hin
    have key : (ov || (decide (o.a < (A + n : Nat)) && decide ((A : Int) < o.a + o.l.length))) = false → ov = false ∧ (A + n ≤ o.a.toNat ∨ o.a.toNat + o.l.length ≤ A) := by
      intro h
      rw [Bool.or_eq_false_iff, Bool.and_eq_false_iff, decide_eq_false_iff_not, decide_eq_false_iff_not] at h
      refine ⟨h.1, ?_⟩
      rcases h.2 with h2 | h2 <;> omega
    have e2 : (dWrite d o.a nb o.l).2 = dStep { d with b := put d.b o.a.toNat o.l, ps := d.ps ++ [⟨o.a.toNat, nb, o.l, (d.b.drop o.a.toNat).take o.l.length⟩] } := by
      unfold dWrite
      rw [hdn, if_neg (by simp), if_pos hin]
    refine ⟨fun hf => ?_, fun hf => ?_⟩
    · obtain ⟨k1, k2⟩ := key hf
      rw [e2]
      show ((put d.b o.a.toNat o.l).drop A).take n = one
      rw [put_out _ _ _ _ _ hle (by omega)]
      exact h.at_ k1
    · obtain ⟨k1, k2⟩ := key hf
      rw [e2]
      intro w hw
      rcases List.mem_append.1 hw with hw | hw
      · exact h.out k1 w hw
      · obtain rfl := List.mem_singleton.1 hw
        exact k2
  · rw [if_neg hz]
    have e2 : (dWrite d o.a nb o.l).2 = d := by
      unfold dWrite at hz ⊢
      split
      · rfl
      · next hdn =>
        rw [if_neg hdn] at hz
        split
        · next hin => rw [if_pos hin] at hz; simp at hz
        · rfl
    rw [e2]
    exact h
theorem free_step {A n : Nat} {one : List UInt8} {N : Nat} {p : Bool × DS} (h : Free A n one p) (hd : DOK N p.2) (o : DOp) : Free A n one (oM A n p o) := free_step' h hd o _
theorem free_all {A n : Nat} {one : List UInt8} : ∀ (S : List DOp) {N : Nat} {p : Bool × DS}, Free A n one p → DOK N p.2 → Free A n one (S.foldl (oM A n) p) ∧ DOK (N + S.length) (S.foldl (oM A n) p).2 ∧ (S.foldl (oM A n) p).2.b.length = p.2.b.length
  | [], N, p, h, hd => ⟨h, hd, rfl⟩
  | o :: r, N, p, h, hd => by
    obtain ⟨h1, h2, h3⟩ := free_all r (free_step h hd o) (wM_OK hd o)
    refine ⟨h1, by rw [List.length_cons, show N + (r.length + 1) = N + 1 + r.length by omega]; exact h2, ?_⟩
    rw [List.foldl_cons, h3]; exact dWrite_len hd _ _ _
theorem free_crash {A n : Nat} {one : List UInt8} {N : Nat} {p : Bool × DS} (h : Free A n one p) (hd : DOK N p.2) (keep torn : Int) (hf : p.1 = false) : ((pcrash keep torn p.2.ps p.2.b).drop A).take n = one := by
  rw [pcrash_out A n keep torn _ _ (fun w hw => ⟨(hd.w w hw).1, (hd.w w hw).2, h.out hf w hw⟩)]
  exact h.at_ hf
end Go.Abs.Try

namespace Go.Abs.Try
open Go Go.Abs
set_option maxHeartbeats 16000000
set_option maxRecDepth 100000
set_option linter.unusedSimpArgs false
set_option linter.unusedVariables false
theorem law7 (x0 x1 x2 x3 x4 x5 : AV) (o0 : okRow [.sl [.int .i64, .int .i64, .int .i64, .sl [.int .u8]]] [x0]) (o1 : okRow [.int .i64] [x1]) (o2 : okRow [.sl [.int .u8]] [x2])
    (o3 : okRow [.sl [.int .i64, .int .i64, .int .i64, .sl [.int .u8]]] [x3]) (o4 : okRow [.int .i64] [x4]) (o5 : okRow [.int .i64] [x5]) : E 9 7 [x0, x1, x2, x3, x4, x5] = some (.bool true, []) := by
  obtain ⟨S0, hx0, hS0, _⟩ := ok_script o0
  obtain ⟨S1, hx1, hS1, _⟩ := ok_script o3
  obtain ⟨a, _, e, _, _⟩ := o1.int
  obtain ⟨rfl, _⟩ : x1 = .int .i64 a ∧ _ := by simpa using e
  obtain ⟨kp, _, e, _, _⟩ := o4.int
  obtain ⟨rfl, _⟩ : x4 = .int .i64 kp ∧ _ := by simpa using e
  obtain ⟨tr, _, e, _, _⟩ := o5.int
  obtain ⟨rfl, _⟩ : x5 = .int .i64 tr ∧ _ := by simpa using e
  obtain ⟨l, hl, hll⟩ := ok_bytes o2
  have hL0 := large10 7 S0 x0 hx0.t hS0
  have hL1 := large10 7 S1 x3 hx1.t hS1
  have X := hx0.still
  have X3 := hx1.still
  have Y := hl.still
  have Yr := hl.rows
  have hlen := hl.len
  have hA := awake_ok
  obtain ⟨Z, z1, z2, z3, z4, hN, hM⟩ := new64 7
  clear z4
  rw [e7]
  cases hb0 : largeM S0
  rotate_left
  · rw [hb0] at hL0
    simp -implicitDefEqProofs [a7, c7, q10, hL0, X.cell, X.val, X.mv, X.ld, X3.cell, X3.val, Y.cell, Y.val]
  rw [hb0] at hL0
  cases hb1 : largeM S1
  rotate_left
  · rw [hb1] at hL1
    simp -implicitDefEqProofs [a7, c7, q10, hL0, hL1, X.cell, X.val, X.mv, X.ld, X3.cell, X3.val, X3.mv, X3.ld, Y.cell, Y.val]
  rw [hb1] at hL1
  obtain ⟨l0, h0⟩ := small hb0 hS0
  obtain ⟨l1, h1⟩ := small hb1 hS1
  by_cases h3 : 100 < l.length
  · have h3' : (100 : Int) < l.length := by omega
    simp -implicitDefEqProofs [a7, c7, q10, hL0, hL1, X.cell, X.val, X.mv, X.ld, X3.cell, X3.val, X3.mv, X3.ld, Y.cell, Y.val, hlen, h3, h3']
  have h3' : ¬ (100 : Int) < l.length := by omega
  obtain ⟨nn, hnn⟩ := hl.b
  simp -implicitDefEqProofs (maxSteps := 5000000) [a7, c7, q10, hL0, hL1, X.cell, X.val, X.mv, X.ld, X3.cell, X3.val, X3.mv, X3.ld, Y.cell, Y.val, hlen, h3, h3', q12, hN, q13, hM, z1, z2, z3]
  generalize hI : iter _ _ _ _ _ = W
  obtain ⟨E', H', c', ⟨⟨b, ps, dn, st, lf⟩, ⟨s, qs, rdn, rst, rlf⟩⟩, hcc, hm, hp, he, rfl⟩ := foundL7 hx0 h0 l0 hI (Nat.zero_le _) (pok0 z1) (.inl ⟨0, rfl, rfl, by simp [HA, z1]⟩)
  clear hI
  have hbl : b.length = 64 := hp.b
  have hd : DOK 60 ⟨b, ps, dn, st, lf⟩ := hp.d.mono (by first | omega | (simp; omega) | simp)
  have s3 := eWrite 6 (by omega) _ hd a nn _ _ hnn
  have s9 := eDown 7 ⟨b, ps, dn, st, lf⟩
  have tb := byteRows_len b
  rw [hbl] at tb
  have tt : (byteRows b).take 64 = byteRows b := List.take_of_length_le (by omega)
  have t1 : (ps.map prow).take ps.length = ps.map prow := List.take_of_length_le (by simp)
  simp only [dWrite, hbl] at s3
  cases dn with
  | true =>
    simp only [if_true] at s3
    simp only [dV, dkc] at s3 s9
    rcases hm with ⟨ga, f1, f2, rfl⟩ | ⟨gb, gp, gq, rfl⟩
    · simp only at f1 f2
      subst f1 f2
      rw [pdv_nil rfl] at s3 s9
      simp -implicitDefEqProofs [he, HA, q17, q20, q11, s3, s9, hA, tb, tt, hbl, Y.cell, Y.val, Y.mv, Y.ld]
    · by_cases e1 : ps = [] <;> by_cases e2 : qs = [] <;> (first | rw [pdv_nil e1] at s3 s9 | rw [pdv_cons e1] at s3 s9) <;>
        simp -implicitDefEqProofs [he, HB, e1, e2, q17, q20, q11, s3, s9, hA, tb, tt, hbl, t1, Y.cell, Y.val, Y.mv, Y.ld]
  | false =>
    simp only [Bool.false_eq_true, if_false] at s3
    cases hib : inB 64 a l.length with
    | false =>
      simp only [hib, Bool.false_eq_true, if_false] at s3
      simp only [dV, dkc] at s3 s9
      have hor : a < 0 ∨ (¬ a < 0 ∧ 64 < a) ∨ (¬ a < 0 ∧ ¬ 64 < a ∧ IntKind.i64.wrap (64 - a) = 64 - a ∧ 64 - a < (l.length : Int)) := by
        simp only [inB, Bool.and_eq_false_iff, decide_eq_false_iff_not] at hib
        by_cases q1 : a < 0
        · exact .inl q1
        by_cases q2 : 64 < a
        · exact .inr (.inl ⟨q1, q2⟩)
        · exact .inr (.inr ⟨q1, q2, wrap_i64 _ (by omega) (by omega), by omega⟩)
      rcases hm with ⟨ga, f1, f2, rfl⟩ | ⟨gb, gp, gq, rfl⟩
      · simp only at f1 f2
        subst f1 f2
        rw [pdv_nil rfl] at s3 s9
        rcases hor with q1 | ⟨q1, q2⟩ | ⟨q1, q2, q3, q4⟩ <;>
          simp -implicitDefEqProofs [he, HA, q17, q20, q11, s3, s9, hA, tb, tt, hbl, Y.cell, Y.val, Y.mv, Y.ld, hlen, *]
      · rcases hor with q1 | ⟨q1, q2⟩ | ⟨q1, q2, q3, q4⟩ <;> by_cases e1 : ps = [] <;> by_cases e2 : qs = [] <;> (first | rw [pdv_nil e1] at s3 s9 | rw [pdv_cons e1] at s3 s9) <;>
          simp -implicitDefEqProofs [he, HB, e1, e2, q17, q20, q11, s3, s9, hA, tb, tt, hbl, t1, Y.cell, Y.val, Y.mv, Y.ld, hlen, *]
    | true =>
      have hd1 := hd.write a nn l
      simp only [dWrite, hbl, hib, if_true, Bool.false_eq_true, if_false] at s3 hd1
      obtain ⟨A, j, rfl, hj, hle⟩ := inB_spec hib
      have hj' : j = l.length := by omega
      subst hj'
      clear hj
      have hpl := put_len b A l (by omega)
      rw [hbl] at hpl
      have hsl : ((put b A l).drop A).take l.length = l := by
        have hA : (b.take A).length = A := by rw [List.length_take]; omega
        unfold put; rw [List.drop_append_of_le_length (by omega), List.drop_of_length_le (by omega), List.nil_append, List.take_append_of_le_length (by omega), List.take_of_length_le (by omega)]
      simp only [dStep, Int.toNat_natCast] at s3 hd1
      have hne : ¬ (ps ++ [(⟨A, nn, l, (b.drop A).take l.length⟩ : PW)]) = [] := by simp
      generalize hP1 : (ps ++ [(⟨A, nn, l, (b.drop A).take l.length⟩ : PW)]) = P1 at *
      have t1' : (P1.map prow).take P1.length = P1.map prow := List.take_of_length_le (by simp)
      generalize put b A l = B1 at *
      have tb1 := byteRows_len B1
      rw [hpl] at tb1
      have tt1 : (byteRows B1).take 64 = byteRows B1 := List.take_of_length_le (by omega)
      generalize (stepD st false lf).1 = w1 at *
      generalize (stepD st false lf).2 = w2 at *
      have s4 := eSync 6 _ hd1
      have hd2 := hd1.sync
      have s5 := eDown 7 ⟨B1, P1, w1, st, w2⟩
      simp only [dSync] at s4 hd2
      cases w1 with
      | true =>
        simp only [if_true] at s4
        simp only [dV, dkc] at s3 s4 s5
        rw [pdv_cons hne] at s3 s4 s5
        rcases hm with ⟨ga, f1, f2, rfl⟩ | ⟨gb, gp, gq, rfl⟩
        · simp only at f1 f2
          subst f1 f2
          rw [pdv_nil rfl] at s3
          simp -implicitDefEqProofs [he, HA, q17, q18, q20, q11, s3, s4, s5, hA, tb, tt, hbl, tb1, tt1, t1', hpl, hne, Y.cell, Y.val, Y.mv, Y.ld]
        · by_cases e1 : ps = [] <;> by_cases e2 : qs = [] <;> (first | rw [pdv_nil e1] at s3 | rw [pdv_cons e1] at s3) <;>
            simp -implicitDefEqProofs [he, HB, e1, e2, q17, q18, q20, q11, s3, s4, s5, hA, tb, tt, hbl, t1, tb1, tt1, t1', hpl, hne, Y.cell, Y.val, Y.mv, Y.ld]
      | false =>
        simp only [Bool.false_eq_true, if_false, dStep] at s4 hd2
        generalize (stepD st false w2).1 = w3 at *
        generalize (stepD st false w2).2 = w4 at *
        simp only [dV, dkc] at s3 s4
        rw [pdv_cons hne] at s3 s4
        have pn : pdv [] = .nilS := rfl
        rw [pn] at s4
        have fr0 : Free A l.length l (false, (⟨B1, [], w3, st, w4⟩ : DS)) := ⟨fun _ => hsl, fun _ w hw => by cases hw⟩
        obtain ⟨f1, f2, f3⟩ := free_all S1 fr0 hd2
        have wA : IntKind.i64.wrap ((A : Int) + (l.length : Int)) = (A : Int) + (l.length : Int) := wrap_i64 _ (by omega) (by omega)
        have rest : True := trivial
        rcases hm with ⟨ga, g1, g2, rfl⟩ | ⟨gb, gp, gq, rfl⟩
        rotate_left
        by_cases e1 : ps = [] <;> by_cases e2 : qs = []
        all_goals
          first
          | (simp only at g1 g2
             subst g1 g2
             rw [pdv_nil rfl] at s3
             simp -implicitDefEqProofs [he, HA, q17, q18, q20, q11, s3, s4, hA, tb, tt, hbl, tb1, tt1, t1', hpl, hne, Y.cell, Y.val, Y.mv, Y.ld])
          | ((first | rw [pdv_nil e1] at s3 | rw [pdv_cons e1] at s3)
             simp -implicitDefEqProofs [he, HB, e1, e2, q17, q18, q20, q11, s3, s4, hA, tb, tt, t1, hbl, tb1, tt1, t1', hpl, hne, Y.cell, Y.val, Y.mv, Y.ld])
        all_goals
          generalize hI : iter _ _ _ _ _ = W
          obtain ⟨E2, gb2, gp2, c2, y, hc2, hy, he2, rfl⟩ := foundW7 hx1 h1 l1 hle hlen hI (N := 61) (by omega) hd2 hpl (by omega) (gb := c' + 1 + 1) (gp := 0) (by simp [HW, hpl])
          clear hI
          rw [← hy] at f1 f2 f3
          clear hy
          obtain ⟨ov, ⟨b3, ps3, dn3, st3, lf3⟩⟩ := y
          have f4 : DOK 200 ⟨b3, ps3, dn3, st3, lf3⟩ := f2.mono (by omega)
          have hb3 : b3.length = 64 := by rw [← hpl]; exact f3
          have s6 := eCrash 5 (by omega) _ f4 kp tr
          have hd4 := f4.crash kp tr
          have fc := fun h => free_crash f1 f4 kp tr h
          have hb4 : (pcrash kp tr ps3 b3).length = 64 := by rw [pcrash_len f4.w]; exact hb3
          unfold dCrash at s6 hd4
          simp only at s6 hd4 fc
          generalize pcrash kp tr ps3 b3 = b4 at *
          have s7 := eRead 6 _ hd4 A l.length
          have s8 := eDown 7 ⟨b4, [], false, false, lf3⟩
          have hin4 : inB b4.length A l.length = true := by rw [hb4]; exact hib
          simp only [dRead, hin4, if_true, Int.toNat_natCast] at s7
          have tb3 := byteRows_len b3
          rw [hb3] at tb3
          have tt3 : (byteRows b3).take 64 = byteRows b3 := List.take_of_length_le (by omega)
          have tb4 := byteRows_len b4
          rw [hb4] at tb4
          have tt4 : (byteRows b4).take 64 = byteRows b4 := List.take_of_length_le (by omega)
          have t3 : (ps3.map prow).take ps3.length = ps3.map prow := List.take_of_length_le (by simp)
          generalize hs4 : (b4.drop A).take l.length = r4 at *
          have tr4 := byteRows_len r4
          have ttr4 : (byteRows r4).take r4.length = byteRows r4 := List.take_of_length_le (by omega)
          have tbr := toBytes_rows r4
          have tbl := toBytes_rows l
          have t0 : toBytes [] = some [] := rfl
          simp only [dV, dkc, pn] at s6 s7 s8
          have hcl : (cl r4 = .emp ∧ r4 = []) ∨ cl r4 = .fr 1 (byteRows r4) := by
            unfold cl; by_cases hz : r4 = []
            · exact .inl ⟨by simp [hz], hz⟩
            · exact .inr (by simp [hz])
          rcases hcl with ⟨q1, rfl⟩ | q1 <;> rw [q1] at s7 <;> cases ov <;> by_cases p3 : ps3 = [] <;> (first | rw [pdv_nil p3] at s6 | rw [pdv_cons p3] at s6) <;>
            (try have fc' := fc rfl) <;> (try subst fc') <;> (try simp only [List.length_nil, Int.natCast_zero, Int.ofNat_zero, Int.cast_ofNat_Int] at s7) <;>
            simp -implicitDefEqProofs [he2, HW, p3, q15, q16, q20, q11, hA, s6, s7, s8, tb3, tt3, tb4, tt4, t3, hb3, hb4, hlen, Y.cell, Y.val, Y.mv, Y.ld, Y.low1, Y.low2, Y.low, Yr, tr4, ttr4, tbr, tbl, t0]
theorem ref7 : Refines Go.Proofs.Try.prog 7 (E 9 7) := ref 9 7 (q7 8)
end Go.Abs.Try
