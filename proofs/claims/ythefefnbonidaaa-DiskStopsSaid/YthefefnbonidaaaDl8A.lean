/- Part 1 of Dl8: what our evaluation of a function's code says, the machine's run does; no condition of its own. -/
import Derived.Test.YthefefnbonidaaaDkB
set_option linter.unusedVariables false
set_option linter.unusedSimpArgs false
set_option linter.unusedSectionVars false
namespace Go.Abs.Try
open Go Go.Abs
set_option maxHeartbeats 16000000
set_option maxRecDepth 100000
set_option linter.unusedSimpArgs false
set_option linter.unusedVariables false

abbrev kl8 : List Nat := [26000, 26001, 26002, 30000, 30002, 100000, 100400, 27000000, 27000001, 31000001]
theorem stepL8 (m : Nat) (S : List DOp) (hS : ∀ o ∈ S, o.OK) (h60 : S.length ≤ 60) (u1 u2 : AV) (g1 g2 N : Nat) (hN : N ≤ 1000) (p : DS × RS) (hp : POK N 64 p) (i : Nat) (hi : i < S.length) (H : AH) (c : Nat) (hH : Mem 26000 30000 26001 27000000 27000001 31000001 g1 g2 p H) (k : Nat) :
    ∃ H' c', Mem 26000 30000 26001 27000000 27000001 31000001 g1 g2 (callM S[i] p).2 H' ∧ iter (ev (Q (m + 4)) 3000 b8_0) [0, 1, 2, 7, 9, 11] kl8 (k + 1) ⟨[(0, .ro false 4 (S.map DOp.row)), (1, u1), (2, u2), (7, .ptr 26000 g1 0), (9, .ptr 30000 g2 0), (11, .int .i64 i)], H, c⟩ = iter (ev (Q (m + 4)) 3000 b8_0) [0, 1, 2, 7, 9, 11] kl8 k ⟨[(0, .ro false 4 (S.map DOp.row)), (1, u1), (2, u2), (7, .ptr 26000 g1 0), (9, .ptr 30000 g2 0), (11, .int .i64 (i + 1 : Nat))], H', c'⟩ := by
  have hc := call14 m hN (by omega) p hp S[i] (hS _ (List.getElem_mem _))
  have hlen : (S.map DOp.row).length = S.length := by simp
  have hg : (S.map DOp.row)[i]? = some (S[i]).row := by simp [hi]
  have hok : cellsOK (S[i]).row = true := by
    rcases (hS S[i] (List.getElem_mem _)).v with ⟨h, _⟩ | h <;> simp [DOp.row, h]
  have hrl : (S[i]).row.length = 4 := rfl
  have h1 : (i : Int) < S.length := by omega
  have w1 : IntKind.i64.wrap ((i : Int) + 1) = (i : Int) + 1 := wrap_i64 _ (by omega) (by omega)
  generalize callM S[i] p = x at *
  obtain ⟨x, ⟨⟨b', ps', dn', st', lf'⟩, ⟨s', qs', rdn', rst', rlf'⟩⟩⟩ := x
  obtain ⟨⟨b, ps, dn, st, lf⟩, ⟨s, qs, rdn, rst, rlf⟩⟩ := p
  simp only [dV, rV, dkc, rkc] at hc
  have hv : (S[i]).v.cellb = true := by rcases (hS S[i] (List.getElem_mem _)).v with ⟨h, _⟩ | h <;> simp [h]
  have hv2 : (S[i]).v = .nilS ∨ ∃ r, (S[i]).v = .ro false 1 r := by rcases (hS S[i] (List.getElem_mem _)).v with ⟨h, _⟩ | h; exact .inl h; exact .inr ⟨_, h⟩
  generalize S[i] = o at *
  generalize S.map DOp.row = W at *
  have hg' := (List.getElem?_eq_some_iff.1 hg).2
  obtain ⟨ok, oa, on, ol, ov⟩ := o
  simp only [DOp.row] at *
  have hb := byteRows_len b
  have hb' := byteRows_len b'
  have ht : (byteRows b).take b.length = byteRows b := List.take_of_length_le (by omega)
  have t1 : (ps.map prow).take ps.length = ps.map prow := List.take_of_length_le (by simp)
  have t2 : (qs.map qrow).take qs.length = qs.map qrow := List.take_of_length_le (by simp)
  refine ⟨HB 26000 30000 27000000 27000001 31000001 g1 g2 c (c + 1) (if ps' = [] then c + 1 else c + 2) (⟨b', ps', dn', st', lf'⟩, ⟨s', qs', rdn', rst', rlf'⟩), c + 1 + (if ps' = [] then 0 else 1) + (if qs' = [] then 0 else 1), .inr ⟨_, _, _, rfl⟩, iter_norm ?_⟩
  unfold HB
  rcases hH with ⟨ga, e1, e2, rfl⟩ | ⟨gb, gp, gq, rfl⟩
  · simp only at e1 e2
    subst e1 e2
    rw [pdv_nil rfl, qv_nil rfl] at hc
    unfold HA
    by_cases h3 : ps' = [] <;> by_cases h4 : qs' = [] <;> (first | rw [pdv_nil h3] at hc | rw [pdv_cons h3] at hc) <;> (first | rw [qv_nil h4] at hc | rw [qv_cons h4] at hc) <;> rcases hv2 with rfl | ⟨ol2, rfl⟩ <;>
      simp -implicitDefEqProofs [b8_0, St.keep, q14, hc, hb, hb', ht, t1, t2, hlen, hi, h1, w1, hg, hg', h3, h4]
  · unfold HB
    by_cases h5 : ps = [] <;> by_cases h2 : qs = [] <;> by_cases h3 : ps' = [] <;> by_cases h4 : qs' = [] <;>
      (first | rw [pdv_nil h5] at hc | rw [pdv_cons h5] at hc) <;> (first | rw [qv_nil h2] at hc | rw [qv_cons h2] at hc) <;> (first | rw [pdv_nil h3] at hc | rw [pdv_cons h3] at hc) <;> (first | rw [qv_nil h4] at hc | rw [qv_cons h4] at hc) <;> rcases hv2 with rfl | ⟨ol2, rfl⟩ <;>
      simp -implicitDefEqProofs [b8_0, St.keep, q14, hc, hb, hb', ht, t1, t2, hlen, hi, h1, w1, hg, hg', h2, h3, h4, h5]
theorem loopL8 (m : Nat) (S : List DOp) (x : AV) (hx : Ops S x) (hS : ∀ o ∈ S, o.OK) (h60 : S.length ≤ 60) (u1 u2 : AV) (g1 g2 : Nat) : ∀ (d i k N : Nat) (p : DS × RS) (H : AH) (c : Nat), i + d = S.length → d < k → N + d ≤ 1000 → POK N 64 p → Mem 26000 30000 26001 27000000 27000001 31000001 g1 g2 p H →
    ∃ E' H' c' q, Mem 26000 30000 26001 27000000 27000001 31000001 g1 g2 q H' ∧ POK (N + d) 64 q ∧ envOnly [1, 2, 7] E' = [(1, u1), (2, u2), (7, .ptr 26000 g1 0)] ∧ iter (ev (Q (m + 4)) 3000 b8_0) [0, 1, 2, 7, 9, 11] kl8 k ⟨[(0, x), (1, u1), (2, u2), (7, .ptr 26000 g1 0), (9, .ptr 30000 g2 0), (11, .int .i64 i)], H, c⟩ = some (.exit 0, ⟨E', H', c'⟩)
  | d, i, 0, N, p, H, c, hi, hk, hN, hp, hH => by omega
  | 0, i, k + 1, N, p, H, c, hi, hk, hN, hp, hH => by
    obtain rfl : i = S.length := by omega
    have hk : H.only kl8 = H := by
      rcases hH with ⟨ga, e1, e2, rfl⟩ | ⟨gb, gp, gq, rfl⟩
      · simp [HA]
      · unfold HB
        by_cases h1 : p.1.ps = [] <;> by_cases h2 : p.2.qs = [] <;> simp [h1, h2]
    have key : ∃ E', iter (ev (Q (m + 4)) 3000 b8_0) [0, 1, 2, 7, 9, 11] kl8 (k + 1) ⟨[(0, x), (1, u1), (2, u2), (7, .ptr 26000 g1 0), (9, .ptr 30000 g2 0), (11, .int .i64 S.length)], H, c⟩ = some (.exit 0, ⟨E', H, c⟩) ∧ envOnly [1, 2, 7] E' = [(1, u1), (2, u2), (7, .ptr 26000 g1 0)] := by
      rw [iter_succ]
      rcases hx with ⟨rfl, rfl⟩ | rfl
      · simp -implicitDefEqProofs [b8_0, hk]
      · have hlen : (S.map DOp.row).length = S.length := by simp
        generalize S.map DOp.row = W at *
        simp -implicitDefEqProofs [b8_0, hlen, hk]
    obtain ⟨E', e1, e2⟩ := key
    exact ⟨E', H, c, p, hH, hp, e2, e1⟩
  | d + 1, i, k + 1, N, p, H, c, hi, hk, hN, hp, hH => by
    obtain rfl : x = .ro false 4 (S.map DOp.row) := by
      rcases hx with ⟨rfl, rfl⟩ | h
      · simp at hi
      · exact h
    obtain ⟨H1, c1, hH1, e1⟩ := stepL8 m S hS h60 u1 u2 g1 g2 N (by omega) p hp i (by omega) H c hH k
    obtain ⟨E', H', c', q, r1, r2, r3, r4⟩ := loopL8 m S _ (.inr rfl) hS h60 u1 u2 g1 g2 d (i + 1) k (N + 1) _ H1 c1 (by omega) (by omega) (by omega) (hp.call _) hH1
    exact ⟨E', H', c', q, r1, by rw [show N + (d + 1) = N + 1 + d by omega]; exact r2, r3, by rw [e1]; exact r4⟩
/-- the loop, found by its start -/
theorem foundL8 {m : Nat} {S : List DOp} {x : AV} (hx : Ops S x) (hS : ∀ o ∈ S, o.OK) (h60 : S.length ≤ 60) {u1 u2 : AV} {g1 g2 N c : Nat} {p : DS × RS} {H : AH} {X : Option (Ex × St)}
    (hI : iter (ev (Q (m + 4)) 3000 b8_0) [0, 1, 2, 7, 9, 11] kl8 3000 ⟨[(0, x), (1, u1), (2, u2), (7, .ptr 26000 g1 0), (9, .ptr 30000 g2 0), (11, .int .i64 0)], H, c⟩ = X) (hN : N ≤ 900) (hp : POK N 64 p) (hH : Mem 26000 30000 26001 27000000 27000001 31000001 g1 g2 p H) :
    ∃ E' H' c' q, Mem 26000 30000 26001 27000000 27000001 31000001 g1 g2 q H' ∧ POK (N + S.length) 64 q ∧ envOnly [1, 2, 7] E' = [(1, u1), (2, u2), (7, .ptr 26000 g1 0)] ∧ X = some (.exit 0, ⟨E', H', c'⟩) := by
  obtain ⟨E', H', c', q, r1, r2, r3, r4⟩ := loopL8 m S x hx hS h60 u1 u2 g1 g2 S.length 0 3000 N p H c (by omega) (by omega) (by omega) hp hH
  exact ⟨E', H', c', q, r1, r2, r3, by rw [← hI]; exact r4⟩
end Go.Abs.Try

namespace Go.Abs.Try
open Go Go.Abs
set_option maxHeartbeats 16000000
set_option maxRecDepth 100000
set_option linter.unusedSimpArgs false
set_option linter.unusedVariables false

theorem law8 (x0 x1 x2 : AV) (o0 : okRow [.sl [.int .i64, .int .i64, .int .i64, .sl [.int .u8]]] [x0]) (o1 : okRow [.int .i64] [x1]) (o2 : okRow [.sl [.int .u8]] [x2]) : E 9 8 [x0, x1, x2] = some (.bool true, []) := by
  obtain ⟨S, hx, hS, _⟩ := ok_script o0
  obtain ⟨a, _, e, _, _⟩ := o1.int
  obtain ⟨rfl, _⟩ : x1 = .int .i64 a ∧ _ := by simpa using e
  obtain ⟨l, hl, hll⟩ := ok_bytes o2
  have hL := large10 7 S x0 hx.t hS
  obtain ⟨Z, z1, z2, z3, z4, hN, hM⟩ := new64 7
  clear z4
  rw [e8]
  have hlen := hl.len
  have hin := arg_cell hl
  have hlr := byteRows_len l
  have hx0 := hx
  cases hb : largeM S
  · rw [hb] at hL
    obtain ⟨h60, hok⟩ := small hb hS
    by_cases h3 : 300 < l.length
    · have h3' : (300 : Int) < l.length := by omega
      rcases hx with ⟨rfl, rfl⟩ | rfl <;> rcases hl with ⟨rfl, rfl⟩ | rfl <;> (try simp at h3 hlr) <;> simp -implicitDefEqProofs [a8, c8, q10, hL, hin, hlr, h3, h3']
    · have h3' : ¬ (300 : Int) < l.length := by omega
      obtain ⟨nn, hnn⟩ := hl.b
      rcases hx with ⟨rfl, rfl⟩ | rfl <;> rcases hl with ⟨rfl, rfl⟩ | rfl <;>
        simp -implicitDefEqProofs [a8, c8, q10, hL, q12, hN, q13, hM, hlen, h3, h3', hin, z1, z2, z3] <;>
        (
         generalize hI : iter _ _ _ _ _ = X
         obtain ⟨E', H', c', ⟨⟨b, ps, dn, st, lf⟩, ⟨s, qs, rdn, rst, rlf⟩⟩, hm, hp, he, rfl⟩ := foundL8 hx0 hok h60 hI (Nat.zero_le _) (pok0 z1) (.inl ⟨0, rfl, rfl, by simp [HA, z1]⟩)
         clear hI
         have hbl : b.length = 64 := hp.b
         have hd : DOK 60 ⟨b, ps, dn, st, lf⟩ := hp.d.mono (by first | omega | (simp; omega) | simp)
         obtain ⟨st1, lf1, e1, s1, hd1⟩ : ∃ st1 lf1 e1, E 8 22 [.pv (dV ⟨b, ps, dn, st, lf⟩), .int .i64 0] = some (.int .i64 e1, [dV ⟨b, ps, true, st1, lf1⟩]) ∧ DOK 60 ⟨b, ps, true, st1, lf1⟩ := by
           have h1 := eStop 6 ⟨b, ps, dn, st, lf⟩ 0
           have h2 := hd.stop 0
           unfold dStop at h1 h2
           cases dn
           · exact ⟨_, _, _, h1, h2⟩
           · exact ⟨_, _, _, h1, h2⟩
         have s2 := readAll 6 _ hd1 hbl
         have s3 := eWrite 6 (by omega) _ hd1 a nn _ _ hnn
         have s4 := eSync 6 _ hd1
         have s5 := eStop 6 ⟨b, ps, true, st1, lf1⟩ 5
         have s6 := eDown 7 ⟨b, ps, true, st1, lf1⟩
         simp only [dWrite, dSync, dStop, if_true] at s3 s4 s5
         simp only [dV, dkc] at s1 s2 s3 s4 s5 s6
         have tb := byteRows_len b
         rw [hbl] at tb
         have tt : (byteRows b).take 64 = byteRows b := List.take_of_length_le (by omega)
         have tx := toBytes_rows b
         have hA := awake_ok
         have t1 : (ps.map prow).take ps.length = ps.map prow := List.take_of_length_le (by simp)
         rcases hm with ⟨ga, f1, f2, rfl⟩ | ⟨gb, gp, gq, rfl⟩
         · simp only at f1 f2
           subst f1 f2
           rw [pdv_nil rfl] at s1 s2 s3 s4 s5 s6
           simp -implicitDefEqProofs [he, HA, q22, q16, q17, q18, q20, q11, s1, s2, s3, s4, s5, s6, hA, tb, tt, tx, hbl]
         · by_cases h1 : ps = [] <;> by_cases h2 : qs = [] <;> (first | rw [pdv_nil h1] at s1 s2 s3 s4 s5 s6 | rw [pdv_cons h1] at s1 s2 s3 s4 s5 s6) <;>
             simp -implicitDefEqProofs [he, HB, h1, h2, q22, q16, q17, q18, q20, q11, s1, s2, s3, s4, s5, s6, hA, tb, tt, tx, hbl, t1])
  · rw [hb] at hL
    rcases hx with ⟨rfl, rfl⟩ | rfl <;> rcases hl with ⟨rfl, rfl⟩ | rfl <;> simp -implicitDefEqProofs [a8, c8, q10, hL, hin]
theorem ref8 : Refines Go.Proofs.Try.prog 8 (E 9 8) := ref 9 8 (q8 8)
end Go.Abs.Try
