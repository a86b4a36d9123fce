/- Part 1 of Dl5: what our evaluation of a function's code says, the machine's run does; no condition of its own. -/
import Derived.Test.YthefefnbonidaaaDkB
set_option linter.unusedVariables false
set_option linter.unusedSimpArgs false
set_option linter.unusedSectionVars false
namespace Go.Abs.Try
open Go Go.Abs
set_option maxHeartbeats 16000000
set_option maxRecDepth 100000
set_option linter.unusedSimpArgs false
set_option linter.unusedVariables false
/-- what came in and lies still, as operations see it -/
structure Still (x : AV) : Prop where
  cell : ∀ (H : AH) c nm, inCell H c nm x = some (x, H, c)
  val : ∀ (H : AH) c nm, inVal H c nm x = some (x, H, c)
  mv : ∀ (H : AH) r m, mvArgs H (x :: r) m = (mvArgs H r m.tail).map fun q => (x :: q.1, q.2.1, q.2.2)
  ld : ∀ (H : AH), lendArg H x = some x
  low1 : ∀ ns al, x.low1 ns al = true
  low2 : ∀ ns al, x.low2 ns al = true
  low : ∀ ns al, x.low ns al = true
theorem Is.still {l x} (h : Is l x) : Still x := by rcases h with ⟨rfl, _⟩ | rfl <;> exact ⟨fun _ _ _ => rfl, fun _ _ _ => rfl, fun _ _ _ => rfl, fun _ => rfl, fun _ _ => rfl, fun _ _ => rfl, fun _ _ => rfl⟩
theorem Ops.still {S x} (h : Ops S x) : Still x := by rcases h with ⟨rfl, _⟩ | rfl <;> exact ⟨fun _ _ _ => rfl, fun _ _ _ => rfl, fun _ _ _ => rfl, fun _ => rfl, fun _ _ => rfl, fun _ _ => rfl, fun _ _ => rfl⟩
theorem Is.rows {l x} (h : Is l x) (H : AH) : rowsOf H 1 x = some (byteRows l) := by
  rcases h with ⟨rfl, rfl⟩ | rfl
  · rfl
  · simp [rowsOf]
end Go.Abs.Try

namespace Go.Abs.Try
open Go Go.Abs
set_option maxHeartbeats 16000000
set_option maxRecDepth 100000
set_option linter.unusedSimpArgs false
set_option linter.unusedVariables false

abbrev kl5 : List Nat := [27000, 27001, 27002, 31000, 31002, 100000, 100400, 28000000, 28000001, 32000001]
theorem stepL5 (m : Nat) (S : List DOp) (hS : ∀ o ∈ S, o.OK) (h60 : S.length ≤ 60) (u1 u2 : AV) (g1 g2 N : Nat) (hN : N ≤ 1000) (p : DS × RS) (hp : POK N 64 p) (i : Nat) (hi : i < S.length) (H : AH) (c : Nat) (hH : Mem 27000 31000 27001 28000000 28000001 32000001 g1 g2 p H) (k : Nat) :
    ∃ H' c', Mem 27000 31000 27001 28000000 28000001 32000001 g1 g2 (callM S[i] p).2 H' ∧ iter (ev (Q (m + 4)) 3000 b5_0) [0, 1, 2, 7, 9, 11] kl5 (k + 1) ⟨[(0, .ro false 4 (S.map DOp.row)), (1, u1), (2, u2), (7, .ptr 27000 g1 0), (9, .ptr 31000 g2 0), (11, .int .i64 i)], H, c⟩ = iter (ev (Q (m + 4)) 3000 b5_0) [0, 1, 2, 7, 9, 11] kl5 k ⟨[(0, .ro false 4 (S.map DOp.row)), (1, u1), (2, u2), (7, .ptr 27000 g1 0), (9, .ptr 31000 g2 0), (11, .int .i64 (i + 1 : Nat))], H', c'⟩ := by
  have hc := call14 m hN (by omega) p hp S[i] (hS _ (List.getElem_mem _))
  have hlen : (S.map DOp.row).length = S.length := by simp
  have hg : (S.map DOp.row)[i]? = some (S[i]).row := by simp [hi]
  have hok : cellsOK (S[i]).row = true := by
    rcases (hS S[i] (List.getElem_mem _)).v with ⟨h, _⟩ | h <;> simp [DOp.row, h]
  have hrl : (S[i]).row.length = 4 := rfl
  have h1 : (i : Int) < S.length := by omega
  have w1 : IntKind.i64.wrap ((i : Int) + 1) = (i : Int) + 1 := wrap_i64 _ (by omega) (by omega)
  generalize callM S[i] p = x at *
  obtain ⟨x, ⟨⟨b', ps', dn', st', lf'⟩, ⟨s', qs', rdn', rst', rlf'⟩⟩⟩ := x
  obtain ⟨⟨b, ps, dn, st, lf⟩, ⟨s, qs, rdn, rst, rlf⟩⟩ := p
  simp only [dV, rV, dkc, rkc] at hc
  have hv : (S[i]).v.cellb = true := by rcases (hS S[i] (List.getElem_mem _)).v with ⟨h, _⟩ | h <;> simp [h]
  have hv2 : (S[i]).v = .nilS ∨ ∃ r, (S[i]).v = .ro false 1 r := by rcases (hS S[i] (List.getElem_mem _)).v with ⟨h, _⟩ | h; exact .inl h; exact .inr ⟨_, h⟩
  generalize S[i] = o at *
  generalize S.map DOp.row = W at *
  have hg' := (List.getElem?_eq_some_iff.1 hg).2
  obtain ⟨ok, oa, on, ol, ov⟩ := o
  simp only [DOp.row] at *
  have hb := byteRows_len b
  have hb' := byteRows_len b'
  have ht : (byteRows b).take b.length = byteRows b := List.take_of_length_le (by omega)
  have t1 : (ps.map prow).take ps.length = ps.map prow := List.take_of_length_le (by simp)
  have t2 : (qs.map qrow).take qs.length = qs.map qrow := List.take_of_length_le (by simp)
  refine ⟨HB 27000 31000 28000000 28000001 32000001 g1 g2 c (c + 1) (if ps' = [] then c + 1 else c + 2) (⟨b', ps', dn', st', lf'⟩, ⟨s', qs', rdn', rst', rlf'⟩), c + 1 + (if ps' = [] then 0 else 1) + (if qs' = [] then 0 else 1), .inr ⟨_, _, _, rfl⟩, iter_norm ?_⟩
  unfold HB
  rcases hH with ⟨ga, e1, e2, rfl⟩ | ⟨gb, gp, gq, rfl⟩
  · simp only at e1 e2
    subst e1 e2
    rw [pdv_nil rfl, qv_nil rfl] at hc
    unfold HA
    by_cases h3 : ps' = [] <;> by_cases h4 : qs' = [] <;> (first | rw [pdv_nil h3] at hc | rw [pdv_cons h3] at hc) <;> (first | rw [qv_nil h4] at hc | rw [qv_cons h4] at hc) <;> rcases hv2 with rfl | ⟨ol2, rfl⟩ <;>
      simp -implicitDefEqProofs [b5_0, St.keep, q14, hc, hb, hb', ht, t1, t2, hlen, hi, h1, w1, hg, hg', h3, h4]
  · unfold HB
    by_cases h5 : ps = [] <;> by_cases h2 : qs = [] <;> by_cases h3 : ps' = [] <;> by_cases h4 : qs' = [] <;>
      (first | rw [pdv_nil h5] at hc | rw [pdv_cons h5] at hc) <;> (first | rw [qv_nil h2] at hc | rw [qv_cons h2] at hc) <;> (first | rw [pdv_nil h3] at hc | rw [pdv_cons h3] at hc) <;> (first | rw [qv_nil h4] at hc | rw [qv_cons h4] at hc) <;> rcases hv2 with rfl | ⟨ol2, rfl⟩ <;>
      simp -implicitDefEqProofs [b5_0, St.keep, q14, hc, hb, hb', ht, t1, t2, hlen, hi, h1, w1, hg, hg', h2, h3, h4, h5]
theorem loopL5 (m : Nat) (S : List DOp) (x : AV) (hx : Ops S x) (hS : ∀ o ∈ S, o.OK) (h60 : S.length ≤ 60) (u1 u2 : AV) (g1 g2 : Nat) : ∀ (d i k N : Nat) (p : DS × RS) (H : AH) (c : Nat), i + d = S.length → d < k → N + d ≤ 1000 → POK N 64 p → Mem 27000 31000 27001 28000000 28000001 32000001 g1 g2 p H →
    ∃ E' H' c' q, Mem 27000 31000 27001 28000000 28000001 32000001 g1 g2 q H' ∧ POK (N + d) 64 q ∧ envOnly [1, 2, 7] E' = [(1, u1), (2, u2), (7, .ptr 27000 g1 0)] ∧ iter (ev (Q (m + 4)) 3000 b5_0) [0, 1, 2, 7, 9, 11] kl5 k ⟨[(0, x), (1, u1), (2, u2), (7, .ptr 27000 g1 0), (9, .ptr 31000 g2 0), (11, .int .i64 i)], H, c⟩ = some (.exit 0, ⟨E', H', c'⟩)
  | d, i, 0, N, p, H, c, hi, hk, hN, hp, hH => by omega
  | 0, i, k + 1, N, p, H, c, hi, hk, hN, hp, hH => by
    obtain rfl : i = S.length := by omega
    have hk : H.only kl5 = H := by
      rcases hH with ⟨ga, e1, e2, rfl⟩ | ⟨gb, gp, gq, rfl⟩
      · simp [HA]
      · unfold HB
        by_cases h1 : p.1.ps = [] <;> by_cases h2 : p.2.qs = [] <;> simp [h1, h2]
    have key : ∃ E', iter (ev (Q (m + 4)) 3000 b5_0) [0, 1, 2, 7, 9, 11] kl5 (k + 1) ⟨[(0, x), (1, u1), (2, u2), (7, .ptr 27000 g1 0), (9, .ptr 31000 g2 0), (11, .int .i64 S.length)], H, c⟩ = some (.exit 0, ⟨E', H, c⟩) ∧ envOnly [1, 2, 7] E' = [(1, u1), (2, u2), (7, .ptr 27000 g1 0)] := by
      rw [iter_succ]
      rcases hx with ⟨rfl, rfl⟩ | rfl
      · simp -implicitDefEqProofs [b5_0, hk]
      · have hlen : (S.map DOp.row).length = S.length := by simp
        generalize S.map DOp.row = W at *
        simp -implicitDefEqProofs [b5_0, hlen, hk]
    obtain ⟨E', e1, e2⟩ := key
    exact ⟨E', H, c, p, hH, hp, e2, e1⟩
  | d + 1, i, k + 1, N, p, H, c, hi, hk, hN, hp, hH => by
    obtain rfl : x = .ro false 4 (S.map DOp.row) := by
      rcases hx with ⟨rfl, rfl⟩ | h
      · simp at hi
      · exact h
    obtain ⟨H1, c1, hH1, e1⟩ := stepL5 m S hS h60 u1 u2 g1 g2 N (by omega) p hp i (by omega) H c hH k
    obtain ⟨E', H', c', q, r1, r2, r3, r4⟩ := loopL5 m S _ (.inr rfl) hS h60 u1 u2 g1 g2 d (i + 1) k (N + 1) _ H1 c1 (by omega) (by omega) (by omega) (hp.call _) hH1
    exact ⟨E', H', c', q, r1, by rw [show N + (d + 1) = N + 1 + d by omega]; exact r2, r3, by rw [e1]; exact r4⟩
/-- the loop, found by its start -/
theorem foundL5 {m : Nat} {S : List DOp} {x : AV} (hx : Ops S x) (hS : ∀ o ∈ S, o.OK) (h60 : S.length ≤ 60) {u1 u2 : AV} {g1 g2 N c : Nat} {p : DS × RS} {H : AH} {X : Option (Ex × St)}
    (hI : iter (ev (Q (m + 4)) 3000 b5_0) [0, 1, 2, 7, 9, 11] kl5 3000 ⟨[(0, x), (1, u1), (2, u2), (7, .ptr 27000 g1 0), (9, .ptr 31000 g2 0), (11, .int .i64 0)], H, c⟩ = X) (hN : N ≤ 900) (hp : POK N 64 p) (hH : Mem 27000 31000 27001 28000000 28000001 32000001 g1 g2 p H) :
    ∃ E' H' c' q, Mem 27000 31000 27001 28000000 28000001 32000001 g1 g2 q H' ∧ POK (N + S.length) 64 q ∧ envOnly [1, 2, 7] E' = [(1, u1), (2, u2), (7, .ptr 27000 g1 0)] ∧ X = some (.exit 0, ⟨E', H', c'⟩) := by
  obtain ⟨E', H', c', q, r1, r2, r3, r4⟩ := loopL5 m S x hx hS h60 u1 u2 g1 g2 S.length 0 3000 N p H c (by omega) (by omega) (by omega) hp hH
  exact ⟨E', H', c', q, r1, r2, r3, by rw [← hI]; exact r4⟩
end Go.Abs.Try

namespace Go.Abs.Try
open Go Go.Abs
set_option maxHeartbeats 16000000
set_option maxRecDepth 100000
set_option linter.unusedSimpArgs false
set_option linter.unusedVariables false

theorem law5 (x0 x1 x2 : AV) (o0 : okRow [.sl [.int .i64, .int .i64, .int .i64, .sl [.int .u8]]] [x0]) (o1 : okRow [.int .i64] [x1]) (o2 : okRow [.sl [.int .u8]] [x2]) : E 9 5 [x0, x1, x2] = some (.bool true, []) := by
  obtain ⟨S, hx, hS, _⟩ := ok_script o0
  obtain ⟨a, _, e, _, _⟩ := o1.int
  obtain ⟨rfl, _⟩ : x1 = .int .i64 a ∧ _ := by simpa using e
  obtain ⟨l, hl, hll⟩ := ok_bytes o2
  have hL := large10 7 S x0 hx.t hS
  obtain ⟨Z, z1, z2, z3, z4, hN, hM⟩ := new64 7
  clear z4
  rw [e5]
  have hlen := hl.len
  have hin := arg_cell hl
  have hlr := byteRows_len l
  have X := hx.still
  have Y := hl.still
  have Yr := hl.rows
  cases hb : largeM S
  rotate_left
  · rw [hb] at hL
    simp -implicitDefEqProofs [a5, c5, q10, hL, X.cell, X.val, X.mv, X.ld, Y.cell, Y.val]
  rw [hb] at hL
  obtain ⟨h60, hok⟩ := small hb hS
  by_cases h3 : 300 < l.length
  · have h3' : (300 : Int) < l.length := by omega
    simp -implicitDefEqProofs [a5, c5, q10, hL, X.cell, X.val, X.mv, X.ld, Y.cell, Y.val, hlen, h3, h3']
  have h3' : ¬ (300 : Int) < l.length := by omega
  obtain ⟨nn, hnn⟩ := hl.b
  simp -implicitDefEqProofs (maxSteps := 5000000) [a5, c5, q10, hL, X.cell, X.val, X.mv, X.ld, Y.cell, Y.val,  q12, hN, q13, hM, hlen, h3, h3', hin, z1, z2, z3]
  generalize hI : iter _ _ _ _ _ = X
  obtain ⟨E', H', c', ⟨⟨b, ps, dn, st, lf⟩, ⟨s, qs, rdn, rst, rlf⟩⟩, hm, hp, he, rfl⟩ := foundL5 hx hok h60 hI (Nat.zero_le _) (pok0 z1) (.inl ⟨0, rfl, rfl, by simp [HA, z1]⟩)
  clear hI
  have hbl : b.length = 64 := hp.b
  have hd : DOK 60 ⟨b, ps, dn, st, lf⟩ := hp.d.mono (by first | omega | (simp; omega) | simp)
  have s2 := readAll 6 _ hd hbl
  have s3 := eWrite 6 (by omega) _ hd a nn _ _ hnn
  have tb := byteRows_len b
  rw [hbl] at tb
  have tt : (byteRows b).take 64 = byteRows b := List.take_of_length_le (by omega)
  have tx := toBytes_rows b
  have tl := toBytes_rows l
  have hA := awake_ok
  have t1 : (ps.map prow).take ps.length = ps.map prow := List.take_of_length_le (by simp)
  simp only [dWrite, hbl] at s3
  cases dn with
  | true =>
    simp only [if_true] at s3
    simp only [dV, dkc] at s2 s3
    rcases hm with ⟨ga, f1, f2, rfl⟩ | ⟨gb, gp, gq, rfl⟩
    · simp only at f1 f2
      subst f1 f2
      rw [pdv_nil rfl] at s2 s3
      simp -implicitDefEqProofs [he, HA, q16, q17, q11, Y.cell, Y.val, Y.mv, Y.ld, Y.low1, Y.low2, Y.low, Yr, hlen, s2, s3, hA, tb, tt, tx, hbl]
    · by_cases h1 : ps = [] <;> by_cases h2 : qs = [] <;> (first | rw [pdv_nil h1] at s2 s3 | rw [pdv_cons h1] at s2 s3) <;>
        simp -implicitDefEqProofs [he, HB, h1, h2, q16, q17, q11, Y.cell, Y.val, Y.mv, Y.ld, Y.low1, Y.low2, Y.low, Yr, hlen, s2, s3, hA, tb, tt, tx, hbl, t1]
  | false =>
    simp only [Bool.false_eq_true, if_false] at s3
    cases hib : inB 64 a l.length with
    | false =>
      simp only [hib, Bool.false_eq_true, if_false] at s3
      simp only [dV, dkc] at s2 s3
      rcases hm with ⟨ga, f1, f2, rfl⟩ | ⟨gb, gp, gq, rfl⟩
      · simp only at f1 f2
        subst f1 f2
        rw [pdv_nil rfl] at s2 s3
        simp -implicitDefEqProofs [he, HA, q16, q17, q11, Y.cell, Y.val, Y.mv, Y.ld, Y.low1, Y.low2, Y.low, Yr, hlen, s2, s3, hA, tb, tt, tx, hbl]
      · by_cases h1 : ps = [] <;> by_cases h2 : qs = [] <;> (first | rw [pdv_nil h1] at s2 s3 | rw [pdv_cons h1] at s2 s3) <;>
          simp -implicitDefEqProofs [he, HB, h1, h2, q16, q17, q11, Y.cell, Y.val, Y.mv, Y.ld, Y.low1, Y.low2, Y.low, Yr, hlen, s2, s3, hA, tb, tt, tx, hbl, t1]
    | true =>
      have hd1 := hd.write a nn l
      simp only [dWrite, hbl, hib, if_true, Bool.false_eq_true, if_false] at s3 hd1
      obtain ⟨a, j, rfl, hj, hle⟩ := inB_spec hib
      have hj' : j = l.length := by omega
      subst hj'
      clear hj
      have hpl := put_len b a l (by omega)
      rw [hbl] at hpl
      have s4 := readAll 6 _ hd1 (by simpa [dStep] using hpl)
      simp only [dStep, Int.toNat_natCast] at s3 s4
      have hne : ¬ (ps ++ [(⟨a, nn, l, (b.drop a).take l.length⟩ : PW)]) = [] := by simp
      have t1' : ((ps ++ [(⟨a, nn, l, (b.drop a).take l.length⟩ : PW)]).map prow).take (ps ++ [(⟨a, nn, l, (b.drop a).take l.length⟩ : PW)]).length = (ps ++ [(⟨a, nn, l, (b.drop a).take l.length⟩ : PW)]).map prow := List.take_of_length_le (by simp)
      have p1 : (put b a l).take a = b.take a := by
        unfold put; rw [List.take_append_of_le_length (by rw [List.length_take]; omega), List.take_of_length_le (by rw [List.length_take]; omega)]
      have p2 : ((put b a l).drop a).take l.length = l := by
        have hA : (b.take a).length = a := by rw [List.length_take]; omega
        unfold put; rw [List.drop_append_of_le_length (by omega), List.drop_of_length_le (by omega), List.nil_append, List.take_append_of_le_length (by omega), List.take_of_length_le (by omega)]
      have p3 : (put b a l).drop (a + l.length) = b.drop (a + l.length) := by
        have hA : (b.take a).length = a := by rw [List.length_take]; omega
        unfold put; rw [← List.append_assoc, List.drop_append, List.drop_of_length_le (by simp; omega), List.nil_append, show a + l.length - (b.take a ++ l).length = 0 by simp; omega, List.drop_zero]
      generalize (ps ++ [(⟨a, nn, l, (b.drop a).take l.length⟩ : PW)]) = P1 at *
      generalize put b a l = B1 at *
      have tb1 := byteRows_len B1
      rw [hpl] at tb1
      have tt1 : (byteRows B1).take 64 = byteRows B1 := List.take_of_length_le (by omega)
      have tx1 := toBytes_rows B1
      obtain ⟨n0, hn0⟩ : ∃ n0, n0 = a + l.length := ⟨_, rfl⟩
      have wA : IntKind.i64.wrap ((a : Int) + (l.length : Int)) = (n0 : Int) := by rw [wrap_i64 _ (by omega) (by omega)]; omega
      have n1 : (n0 : Int) ≤ 64 := by omega
      have n2 : n0 ≤ 64 := by omega
      have n3 : a ≤ n0 := by omega
      have n4 : (a : Int) ≤ n0 := by omega
      have n5 : (a : Int) ≤ 64 := by omega
      have n6 : a ≤ 64 := by omega
      have n7 : n0 - a = l.length := by omega
      have n8 : a + (n0 - a) = n0 := by omega
      have n9 : n0 + (64 - n0) = 64 := by omega
      rw [← hn0] at p3
      have u1 : toBytes ((byteRows B1).take a) = some (b.take a) := by rw [byteRows_take, toBytes_rows, p1]
      have u2 : toBytes ((byteRows b).take a) = some (b.take a) := by rw [byteRows_take, toBytes_rows]
      have u3 : toBytes (((byteRows B1).drop a).take l.length) = some l := by rw [byteRows_drop, byteRows_take, toBytes_rows, p2]
      have u4 : toBytes ((byteRows B1).drop n0) = some (b.drop n0) := by rw [byteRows_drop, toBytes_rows, p3]
      have u5 : toBytes ((byteRows b).drop n0) = some (b.drop n0) := by rw [byteRows_drop, toBytes_rows]
      have u6 : ((byteRows B1).drop n0).take (64 - n0) = (byteRows B1).drop n0 := List.take_of_length_le (by rw [List.length_drop]; omega)
      have u7 : ((byteRows b).drop n0).take (64 - n0) = (byteRows b).drop n0 := List.take_of_length_le (by rw [List.length_drop]; omega)
      simp only [dV, dkc] at s2 s3 s4
      rw [pdv_cons hne] at s3 s4
      generalize (stepD _ _ _).1 = w1 at *
      generalize (stepD _ _ _).2 = w2 at *
      rcases hm with ⟨ga, f1, f2, rfl⟩ | ⟨gb, gp, gq, rfl⟩
      · simp only at f1 f2
        subst f1 f2
        rw [pdv_nil rfl] at s2 s3
        simp -implicitDefEqProofs [he, HA, q16, q17, q11, Y.cell, Y.val, Y.mv, Y.ld, Y.low1, Y.low2, Y.low, Yr, hlen, s2, s3, s4, hA, tb, tt, tx, hbl, hne, hpl, tb1, tt1, tx1, t1', hlr, tl, wA, n1, n2, n3, n4, n5, n6, n7, n8, n9, u1, u2, u3, u4, u5, u6, u7, hle]
      · by_cases h1 : ps = [] <;> by_cases h2 : qs = [] <;> (first | rw [pdv_nil h1] at s2 s3 | rw [pdv_cons h1] at s2 s3) <;>
          simp -implicitDefEqProofs [he, HB, h1, h2, q16, q17, q11, Y.cell, Y.val, Y.mv, Y.ld, Y.low1, Y.low2, Y.low, Yr, hlen, s2, s3, s4, hA, tb, tt, tx, hbl, hne, hpl, tb1, tt1, tx1, t1, t1', hlr, tl, wA, n1, n2, n3, n4, n5, n6, n7, n8, n9, u1, u2, u3, u4, u5, u6, u7, hle]
theorem ref5 : Refines Go.Proofs.Try.prog 5 (E 9 5) := ref 9 5 (q5 8)
end Go.Abs.Try
