/- Part 1 of Dl3: what our evaluation of a function's code says, the machine's run does; no condition of its own. -/
import Derived.Test.YthefefnbonidaaaDkB
set_option linter.unusedVariables false
set_option linter.unusedSimpArgs false
set_option linter.unusedSectionVars false
namespace Go.Abs.Try
open Go Go.Abs
set_option maxHeartbeats 16000000
set_option maxRecDepth 100000
set_option linter.unusedSimpArgs false
set_option linter.unusedVariables false
/-- what came in and lies still, as operations see it -/
structure Still (x : AV) : Prop where
  cell : ∀ (H : AH) c nm, inCell H c nm x = some (x, H, c)
  val : ∀ (H : AH) c nm, inVal H c nm x = some (x, H, c)
  mv : ∀ (H : AH) r m, mvArgs H (x :: r) m = (mvArgs H r m.tail).map fun q => (x :: q.1, q.2.1, q.2.2)
  ld : ∀ (H : AH), lendArg H x = some x
  low1 : ∀ ns al, x.low1 ns al = true
  low2 : ∀ ns al, x.low2 ns al = true
  low : ∀ ns al, x.low ns al = true
theorem Is.still {l x} (h : Is l x) : Still x := by rcases h with ⟨rfl, _⟩ | rfl <;> exact ⟨fun _ _ _ => rfl, fun _ _ _ => rfl, fun _ _ _ => rfl, fun _ => rfl, fun _ _ => rfl, fun _ _ => rfl, fun _ _ => rfl⟩
theorem Ops.still {S x} (h : Ops S x) : Still x := by rcases h with ⟨rfl, _⟩ | rfl <;> exact ⟨fun _ _ _ => rfl, fun _ _ _ => rfl, fun _ _ _ => rfl, fun _ => rfl, fun _ _ => rfl, fun _ _ => rfl, fun _ _ => rfl⟩
theorem Is.rows {l x} (h : Is l x) (H : AH) : rowsOf H 1 x = some (byteRows l) := by
  rcases h with ⟨rfl, rfl⟩ | rfl
  · rfl
  · simp [rowsOf]
end Go.Abs.Try

namespace Go.Abs.Try
open Go Go.Abs
set_option maxHeartbeats 16000000
set_option maxRecDepth 100000
set_option linter.unusedSimpArgs false
set_option linter.unusedVariables false

abbrev kl3 : List Nat := [65000, 65001, 65002, 69000, 69002, 100000, 100400, 66000000, 66000001, 70000001]
theorem stepL3 (m : Nat) (S : List DOp) (hS : ∀ o ∈ S, o.OK) (h60 : S.length ≤ 60) (u1 u2 u3 u4 u5 u6 : AV) (g1 g2 N : Nat) (hN : N ≤ 1000) (p : DS × RS) (hp : POK N 64 p) (i : Nat) (hi : i < S.length) (H : AH) (c : Nat) (hH : Mem 65000 69000 65001 66000000 66000001 70000001 g1 g2 p H) (k : Nat) :
    ∃ H' c', c ≤ c' ∧ Mem 65000 69000 65001 66000000 66000001 70000001 g1 g2 (callM S[i] p).2 H' ∧ iter (ev (Q (m + 4)) 3000 b3_0) [0, 1, 2, 3, 4, 5, 6, 15, 17, 19] kl3 (k + 1) ⟨[(0, .ro false 4 (S.map DOp.row)), (1, u1), (2, u2), (3, u3), (4, u4), (5, u5), (6, u6), (15, .ptr 65000 g1 0), (17, .ptr 69000 g2 0), (19, .int .i64 i)], H, c⟩ = iter (ev (Q (m + 4)) 3000 b3_0) [0, 1, 2, 3, 4, 5, 6, 15, 17, 19] kl3 k ⟨[(0, .ro false 4 (S.map DOp.row)), (1, u1), (2, u2), (3, u3), (4, u4), (5, u5), (6, u6), (15, .ptr 65000 g1 0), (17, .ptr 69000 g2 0), (19, .int .i64 (i + 1 : Nat))], H', c'⟩ := by
  have hc := call14 m hN (by omega) p hp S[i] (hS _ (List.getElem_mem _))
  have hlen : (S.map DOp.row).length = S.length := by simp
  have hg : (S.map DOp.row)[i]? = some (S[i]).row := by simp [hi]
  have hok : cellsOK (S[i]).row = true := by
    rcases (hS S[i] (List.getElem_mem _)).v with ⟨h, _⟩ | h <;> simp [DOp.row, h]
  have hrl : (S[i]).row.length = 4 := rfl
  have h1 : (i : Int) < S.length := by omega
  have w1 : IntKind.i64.wrap ((i : Int) + 1) = (i : Int) + 1 := wrap_i64 _ (by omega) (by omega)
  generalize callM S[i] p = x at *
  obtain ⟨x, ⟨⟨b', ps', dn', st', lf'⟩, ⟨s', qs', rdn', rst', rlf'⟩⟩⟩ := x
  obtain ⟨⟨b, ps, dn, st, lf⟩, ⟨s, qs, rdn, rst, rlf⟩⟩ := p
  simp only [dV, rV, dkc, rkc] at hc
  have hv : (S[i]).v.cellb = true := by rcases (hS S[i] (List.getElem_mem _)).v with ⟨h, _⟩ | h <;> simp [h]
  have hv2 : (S[i]).v = .nilS ∨ ∃ r, (S[i]).v = .ro false 1 r := by rcases (hS S[i] (List.getElem_mem _)).v with ⟨h, _⟩ | h; exact .inl h; exact .inr ⟨_, h⟩
  generalize S[i] = o at *
  generalize S.map DOp.row = W at *
  have hg' := (List.getElem?_eq_some_iff.1 hg).2
  obtain ⟨ok, oa, on, ol, ov⟩ := o
  simp only [DOp.row] at *
  have hb := byteRows_len b
  have hb' := byteRows_len b'
  have ht : (byteRows b).take b.length = byteRows b := List.take_of_length_le (by omega)
  have t1 : (ps.map prow).take ps.length = ps.map prow := List.take_of_length_le (by simp)
  have t2 : (qs.map qrow).take qs.length = qs.map qrow := List.take_of_length_le (by simp)
  refine ⟨HB 65000 69000 66000000 66000001 70000001 g1 g2 c (c + 1) (if ps' = [] then c + 1 else c + 2) (⟨b', ps', dn', st', lf'⟩, ⟨s', qs', rdn', rst', rlf'⟩), c + 1 + (if ps' = [] then 0 else 1) + (if qs' = [] then 0 else 1), by omega, .inr ⟨_, _, _, rfl⟩, iter_norm ?_⟩
  unfold HB
  rcases hH with ⟨ga, e1, e2, rfl⟩ | ⟨gb, gp, gq, rfl⟩
  · simp only at e1 e2
    subst e1 e2
    rw [pdv_nil rfl, qv_nil rfl] at hc
    unfold HA
    by_cases h3 : ps' = [] <;> by_cases h4 : qs' = [] <;> (first | rw [pdv_nil h3] at hc | rw [pdv_cons h3] at hc) <;> (first | rw [qv_nil h4] at hc | rw [qv_cons h4] at hc) <;> rcases hv2 with rfl | ⟨ol2, rfl⟩ <;>
      simp -implicitDefEqProofs [b3_0, St.keep, q14, hc, hb, hb', ht, t1, t2, hlen, hi, h1, w1, hg, hg', h3, h4]
  · unfold HB
    by_cases h5 : ps = [] <;> by_cases h2 : qs = [] <;> by_cases h3 : ps' = [] <;> by_cases h4 : qs' = [] <;>
      (first | rw [pdv_nil h5] at hc | rw [pdv_cons h5] at hc) <;> (first | rw [qv_nil h2] at hc | rw [qv_cons h2] at hc) <;> (first | rw [pdv_nil h3] at hc | rw [pdv_cons h3] at hc) <;> (first | rw [qv_nil h4] at hc | rw [qv_cons h4] at hc) <;> rcases hv2 with rfl | ⟨ol2, rfl⟩ <;>
      simp -implicitDefEqProofs [b3_0, St.keep, q14, hc, hb, hb', ht, t1, t2, hlen, hi, h1, w1, hg, hg', h2, h3, h4, h5]
theorem loopL3 (m : Nat) (S : List DOp) (x : AV) (hx : Ops S x) (hS : ∀ o ∈ S, o.OK) (h60 : S.length ≤ 60) (u1 u2 u3 u4 u5 u6 : AV) (g1 g2 : Nat) : ∀ (d i k N : Nat) (p : DS × RS) (H : AH) (c : Nat), i + d = S.length → d < k → N + d ≤ 1000 → POK N 64 p → Mem 65000 69000 65001 66000000 66000001 70000001 g1 g2 p H →
    ∃ E' H' c' q, c ≤ c' ∧ Mem 65000 69000 65001 66000000 66000001 70000001 g1 g2 q H' ∧ POK (N + d) 64 q ∧ envOnly [1, 2, 3, 4, 5, 6, 15] E' = [(1, u1), (2, u2), (3, u3), (4, u4), (5, u5), (6, u6), (15, .ptr 65000 g1 0)] ∧ iter (ev (Q (m + 4)) 3000 b3_0) [0, 1, 2, 3, 4, 5, 6, 15, 17, 19] kl3 k ⟨[(0, x), (1, u1), (2, u2), (3, u3), (4, u4), (5, u5), (6, u6), (15, .ptr 65000 g1 0), (17, .ptr 69000 g2 0), (19, .int .i64 i)], H, c⟩ = some (.exit 0, ⟨E', H', c'⟩)
  | d, i, 0, N, p, H, c, hi, hk, hN, hp, hH => by omega
  | 0, i, k + 1, N, p, H, c, hi, hk, hN, hp, hH => by
    obtain rfl : i = S.length := by omega
    have hk : H.only kl3 = H := by
      rcases hH with ⟨ga, e1, e2, rfl⟩ | ⟨gb, gp, gq, rfl⟩
      · simp [HA]
      · unfold HB
        by_cases h1 : p.1.ps = [] <;> by_cases h2 : p.2.qs = [] <;> simp [h1, h2]
    have key : ∃ E', iter (ev (Q (m + 4)) 3000 b3_0) [0, 1, 2, 3, 4, 5, 6, 15, 17, 19] kl3 (k + 1) ⟨[(0, x), (1, u1), (2, u2), (3, u3), (4, u4), (5, u5), (6, u6), (15, .ptr 65000 g1 0), (17, .ptr 69000 g2 0), (19, .int .i64 S.length)], H, c⟩ = some (.exit 0, ⟨E', H, c⟩) ∧ envOnly [1, 2, 3, 4, 5, 6, 15] E' = [(1, u1), (2, u2), (3, u3), (4, u4), (5, u5), (6, u6), (15, .ptr 65000 g1 0)] := by
      rw [iter_succ]
      rcases hx with ⟨rfl, rfl⟩ | rfl
      · simp -implicitDefEqProofs [b3_0, hk]
      · have hlen : (S.map DOp.row).length = S.length := by simp
        generalize S.map DOp.row = W at *
        simp -implicitDefEqProofs [b3_0, hlen, hk]
    obtain ⟨E', e1, e2⟩ := key
    exact ⟨E', H, c, p, Nat.le_refl _, hH, hp, e2, e1⟩
  | d + 1, i, k + 1, N, p, H, c, hi, hk, hN, hp, hH => by
    obtain rfl : x = .ro false 4 (S.map DOp.row) := by
      rcases hx with ⟨rfl, rfl⟩ | h
      · simp at hi
      · exact h
    obtain ⟨H1, c1, q1, hH1, e1⟩ := stepL3 m S hS h60 u1 u2 u3 u4 u5 u6 g1 g2 N (by omega) p hp i (by omega) H c hH k
    obtain ⟨E', H', c', q, q2, r1, r2, r3, r4⟩ := loopL3 m S _ (.inr rfl) hS h60 u1 u2 u3 u4 u5 u6 g1 g2 d (i + 1) k (N + 1) _ H1 c1 (by omega) (by omega) (by omega) (hp.call _) hH1
    exact ⟨E', H', c', q, Nat.le_trans q1 q2, r1, by rw [show N + (d + 1) = N + 1 + d by omega]; exact r2, r3, by rw [e1]; exact r4⟩
/-- the loop, found by its start -/
theorem foundL3 {m : Nat} {S : List DOp} {x : AV} (hx : Ops S x) (hS : ∀ o ∈ S, o.OK) (h60 : S.length ≤ 60) {u1 u2 u3 u4 u5 u6 : AV} {g1 g2 N c : Nat} {p : DS × RS} {H : AH} {X : Option (Ex × St)}
    (hI : iter (ev (Q (m + 4)) 3000 b3_0) [0, 1, 2, 3, 4, 5, 6, 15, 17, 19] kl3 3000 ⟨[(0, x), (1, u1), (2, u2), (3, u3), (4, u4), (5, u5), (6, u6), (15, .ptr 65000 g1 0), (17, .ptr 69000 g2 0), (19, .int .i64 0)], H, c⟩ = X) (hN : N ≤ 900) (hp : POK N 64 p) (hH : Mem 65000 69000 65001 66000000 66000001 70000001 g1 g2 p H) :
    ∃ E' H' c' q, c ≤ c' ∧ Mem 65000 69000 65001 66000000 66000001 70000001 g1 g2 q H' ∧ POK (N + S.length) 64 q ∧ envOnly [1, 2, 3, 4, 5, 6, 15] E' = [(1, u1), (2, u2), (3, u3), (4, u4), (5, u5), (6, u6), (15, .ptr 65000 g1 0)] ∧ X = some (.exit 0, ⟨E', H', c'⟩) := by
  obtain ⟨E', H', c', q, q2, r1, r2, r3, r4⟩ := loopL3 m S x hx hS h60 u1 u2 u3 u4 u5 u6 g1 g2 S.length 0 3000 N p H c (by omega) (by omega) (by omega) hp hH
  exact ⟨E', H', c', q, q2, r1, r2, r3, by rw [← hI]; exact r4⟩
end Go.Abs.Try

namespace Go.Abs.Try
open Go Go.Abs
set_option maxHeartbeats 16000000
set_option maxRecDepth 100000
set_option linter.unusedSimpArgs false
set_option linter.unusedVariables false
/-- what is written lies where it was written, and nowhere else -/
theorem putOut (b l : List UInt8) (a A n : Nat) (h : a + l.length ≤ b.length) (ho : A + n ≤ a ∨ a + l.length ≤ A ∨ l = []) : ((put b a l).drop A).take n = (b.drop A).take n := by
  apply List.ext_getElem?
  intro i
  by_cases hi : i < n
  · rw [List.getElem?_take_of_lt hi, List.getElem?_take_of_lt hi, List.getElem?_drop, List.getElem?_drop]
    have hA : (b.take a).length = a := by rw [List.length_take]; omega
    unfold put
    by_cases h1 : A + i < a
    · rw [List.getElem?_append_left (by omega), List.getElem?_take_of_lt h1]
    · rw [List.getElem?_append_right (by omega), hA]
      by_cases h2 : A + i - a < l.length
      · rcases ho with ho | ho | ho
        · omega
        · omega
        · subst ho; simp at h2
      · rw [List.getElem?_append_right (by omega), List.getElem?_drop]
        congr 1; omega
  · rw [List.getElem?_eq_none (by rw [List.length_take]; omega), List.getElem?_eq_none (by rw [List.length_take]; omega)]

theorem putIn (b l : List UInt8) (a : Nat) (h : a + l.length ≤ b.length) : ((put b a l).drop a).take l.length = l := by
  have hA : (b.take a).length = a := by rw [List.length_take]; omega
  unfold put; rw [List.drop_append_of_le_length (by omega), List.drop_of_length_le (by omega), List.nil_append, List.take_append_of_le_length (by omega), List.take_of_length_le (by omega)]
/-- two writes, the second of one byte beside the first, and a crash -/
theorem two (b : List UInt8) (A P : Nat) (n1 n2 : Bool) (l : List UInt8) (x : UInt8) (kp tr : Int) (hb : b.length = 64) (hA : A + l.length ≤ 64) (hP : P + 1 ≤ 64) (ho : P + 1 ≤ A ∨ A + l.length ≤ P) :
    let b2 := put b A l
    let b3 := put b2 P [x]
    let b4 := pcrash kp tr [⟨A, n1, l, (b.drop A).take l.length⟩, ⟨P, n2, [x], (b2.drop P).take 1⟩] b3
    (b4.drop P).take 1 = (b.drop P).take 1 ∨ ((b4.drop P).take 1 = [x] ∧ (b4.drop A).take l.length = l) := by
  intro b2 b3 b4
  have l2 : b2.length = 64 := by show (put b A l).length = 64; rw [put_len _ _ _ (by omega)]; exact hb
  have l3 : b3.length = 64 := by show (put b2 P [x]).length = 64; rw [put_len _ _ _ (by simp; omega)]; exact l2
  have e2 : (b2.drop P).take 1 = (b.drop P).take 1 := putOut b l A P 1 (by omega) (by omega)
  have hw2 : ((b2.drop P).take 1).length = 1 := by simp; omega
  have hw1 : ((b.drop A).take l.length).length = l.length := by simp; omega
  generalize hW1 : (b.drop A).take l.length = W1 at *
  generalize hW2 : (b2.drop P).take 1 = W2 at *
  have hk : keepN kp 2 = 0 ∨ keepN kp 2 = 1 ∨ keepN kp 2 = 2 := by unfold keepN; omega
  have u2 : ((put b3 P W2).drop P).take 1 = W2 := by
    have := putIn b3 W2 P (by omega)
    rwa [hw2] at this
  have lu2 : (put b3 P W2).length = 64 := by rw [put_len _ _ _ (by omega)]; exact l3
  rcases hk with hk | hk | hk
  · left
    have e : b4 = put (put (put b3 P W2) A W1) A (l.take (tearN tr l.length)) := by
      show pcrash _ _ _ _ = _
      unfold pcrash
      simp only [List.length_cons, List.length_nil, hk, hW1, hW2]
      rfl
    have lu1 : (put (put b3 P W2) A W1).length = 64 := by rw [put_len _ _ _ (by omega)]; exact lu2
    rw [e, putOut _ _ _ _ _ (by rw [List.length_take]; omega) (by rw [List.length_take]; omega), putOut _ _ _ _ _ (by omega) (by omega), u2, e2]
  · left
    have e : b4 = put (put b3 P W2) P ([x].take (tearN tr 1)) := by
      show pcrash _ _ _ _ = _
      unfold pcrash
      simp only [List.length_cons, List.length_nil, hk, hW1, hW2]
      rfl
    have t0 : tearN tr 1 = 0 := by unfold tearN; omega
    rw [e, t0, List.take_zero, putOut _ _ _ _ _ (by simp; omega) (.inr (.inr rfl)), u2, e2]
  · right
    have e : b4 = b3 := by
      show pcrash _ _ _ _ = _
      unfold pcrash
      simp only [List.length_cons, List.length_nil, hk, hW1, hW2]
      rfl
    rw [e]
    refine ⟨putIn b2 [x] P (by simp; omega), ?_⟩
    rw [show b3 = put b2 P [x] from rfl, putOut _ _ _ _ _ (by simp; omega) (by simp; omega)]
    exact putIn b l A (by omega)
theorem ok_byte {x : AV} (h : okRow [.int .u8] [x]) : ∃ u : UInt8, x = .int .u8 u.toNat := by
  obtain ⟨l, hl⟩ := ok_rows [[x]] (fun r hr => by rw [List.mem_singleton.1 hr]; exact h)
  cases l with
  | nil => cases hl
  | cons u t =>
    simp only [byteRows, List.map_cons, List.cons.injEq] at hl
    exact ⟨u, hl.1.1⟩
theorem one_of {b : List UInt8} {P : Nat} (h : P + 1 ≤ b.length) : ∃ z, (b.drop P).take 1 = [z] := by
  have : ((b.drop P).take 1).length = 1 := by simp; omega
  exact List.length_eq_one_iff.1 this
end Go.Abs.Try

namespace Go.Abs.Try
open Go Go.Abs
set_option maxHeartbeats 16000000
set_option maxRecDepth 100000
set_option linter.unusedSimpArgs false
set_option linter.unusedVariables false
theorem inB_nat (k a n : Nat) : inB k a n = decide (a + n ≤ k) := by
  unfold inB
  by_cases h : a + n ≤ k
  · have h1 : (a : Int) ≤ k := by omega
    have h2 : (n : Int) ≤ k - a := by omega
    simp [h, h1, h2]
  · simp only [h, decide_false, Bool.and_eq_false_iff, decide_eq_false_iff_not]
    omega
theorem law3 (x0 x1 x2 x3 x4 x5 x6 : AV) (o0 : okRow [.sl [.int .i64, .int .i64, .int .i64, .sl [.int .u8]]] [x0]) (o1 : okRow [.int .i64] [x1]) (o2 : okRow [.sl [.int .u8]] [x2])
    (o3 : okRow [.int .i64] [x3]) (o4 : okRow [.int .u8] [x4]) (o5 : okRow [.int .i64] [x5]) (o6 : okRow [.int .i64] [x6]) : E 9 3 [x0, x1, x2, x3, x4, x5, x6] = some (.bool true, []) := by
  obtain ⟨S, hx, hS, _⟩ := ok_script o0
  obtain ⟨a, _, e, _, _⟩ := o1.int
  obtain ⟨rfl, _⟩ : x1 = .int .i64 a ∧ _ := by simpa using e
  obtain ⟨l, hl, hll⟩ := ok_bytes o2
  obtain ⟨p, _, e, _, _⟩ := o3.int
  obtain ⟨rfl, _⟩ : x3 = .int .i64 p ∧ _ := by simpa using e
  obtain ⟨x, rfl⟩ := ok_byte o4
  obtain ⟨kp, _, e, _, _⟩ := o5.int
  obtain ⟨rfl, _⟩ : x5 = .int .i64 kp ∧ _ := by simpa using e
  obtain ⟨tr, _, e, _, _⟩ := o6.int
  obtain ⟨rfl, _⟩ : x6 = .int .i64 tr ∧ _ := by simpa using e
  clear o0 o1 o2 o3 o4 o5 o6 e
  have hL := large10 7 S x0 hx.t hS
  have X := hx.still
  have Y := hl.still
  have Yr := hl.rows
  have hlen := hl.len
  have hA := awake_ok
  obtain ⟨Z, z1, z2, z3, z4, hN, hM⟩ := new64 7
  clear z4
  rw [e3]
  cases hb : largeM S
  rotate_left
  · rw [hb] at hL
    simp -implicitDefEqProofs [a3, c3, q10, q11, hL, hA, X.cell, X.val, X.mv, X.ld, Y.cell, Y.val]
  rw [hb] at hL
  obtain ⟨h60, hok⟩ := small hb hS
  by_cases h3 : 100 < l.length
  · have h3' : (100 : Int) < l.length := by omega
    simp -implicitDefEqProofs [a3, c3, q10, q11, hL, hA, X.cell, X.val, X.mv, X.ld, Y.cell, Y.val, hlen, h3, h3']
  have h3' : ¬ (100 : Int) < l.length := by omega
  by_cases k1 : a < 0
  · simp -implicitDefEqProofs [a3, c3, q10, q11, hL, hA, X.cell, X.val, X.mv, X.ld, Y.cell, Y.val, hlen, h3, h3', k1]
  by_cases k2 : 64 < a
  · simp -implicitDefEqProofs [a3, c3, q10, q11, hL, hA, X.cell, X.val, X.mv, X.ld, Y.cell, Y.val, hlen, h3, h3', k1, k2]
  by_cases k3 : p < 0
  · simp -implicitDefEqProofs [a3, c3, q10, q11, hL, hA, X.cell, X.val, X.mv, X.ld, Y.cell, Y.val, hlen, h3, h3', k1, k2, k3]
  by_cases k4 : 64 < p
  · simp -implicitDefEqProofs [a3, c3, q10, q11, hL, hA, X.cell, X.val, X.mv, X.ld, Y.cell, Y.val, hlen, h3, h3', k1, k2, k3, k4]
  obtain ⟨A, rfl⟩ : ∃ A : Nat, a = A := ⟨a.toNat, by omega⟩
  obtain ⟨P, rfl⟩ : ∃ P : Nat, p = P := ⟨p.toNat, by omega⟩
  have w5 : IntKind.i64.wrap ((P : Int) - A) = (P : Int) - A := wrap_i64 _ (by omega) (by omega)
  by_cases k5 : (A : Int) ≤ P ∧ (P : Int) - A < l.length
  · obtain ⟨k5, k6⟩ := k5
    simp -implicitDefEqProofs [a3, c3, q10, q11, hL, hA, X.cell, X.val, X.mv, X.ld, Y.cell, Y.val, hlen, h3, h3', k1, k2, k3, k4, k5, w5, k6]
  have ho : P + 1 ≤ A ∨ A + l.length ≤ P := by omega
  obtain ⟨nn, hnn⟩ := hl.b
  have hor : ((A : Int) ≤ P ∧ ¬ (P : Int) - A < l.length) ∨ ¬ (A : Int) ≤ P := by omega
  rcases hor with ⟨k6, k7⟩ | k6
  all_goals
    first
    | simp -implicitDefEqProofs (maxSteps := 5000000) [a3, c3, q10, hL, X.cell, X.val, X.mv, X.ld, Y.cell, Y.val, hlen, h3, h3', k1, k2, k3, k4, k6, w5, k7, q12, hN, q13, hM, z1, z2, z3]
    | simp -implicitDefEqProofs (maxSteps := 5000000) [a3, c3, q10, hL, X.cell, X.val, X.mv, X.ld, Y.cell, Y.val, hlen, h3, h3', k1, k2, k3, k4, k6, w5, q12, hN, q13, hM, z1, z2, z3]
    generalize hI : iter _ _ _ _ _ = W
    obtain ⟨E', H', c', ⟨⟨b, ps, dn, st, lf⟩, ⟨s, qs, rdn, rst, rlf⟩⟩, hcc, hm, hp, he, rfl⟩ := foundL3 hx hok h60 hI (Nat.zero_le _) (pok0 z1) (.inl ⟨0, rfl, rfl, by simp [HA, z1]⟩)
    clear hI
    have hbl : b.length = 64 := hp.b
    have hd : DOK 60 ⟨b, ps, dn, st, lf⟩ := hp.d.mono (by first | omega | (simp; omega) | simp)
    have s1 := eCrash 5 (by omega) _ hd 1000 0
    have hd1 := hd.crash 1000 0
    have hb1 : (pcrash 1000 0 ps b).length = 64 := by rw [pcrash_len hd.w]; exact hbl
    unfold dCrash at s1 hd1
    simp only at s1 hd1
    have tb := byteRows_len b
    rw [hbl] at tb
    have tt : (byteRows b).take 64 = byteRows b := List.take_of_length_le (by omega)
    have t1 : (ps.map prow).take ps.length = ps.map prow := List.take_of_length_le (by simp)
    generalize pcrash 1000 0 ps b = b1 at *
    have tb1 := byteRows_len b1
    rw [hb1] at tb1
    have tt1 : (byteRows b1).take 64 = byteRows b1 := List.take_of_length_le (by omega)
    have pn : pdv [] = .nilS := rfl
    have s2 := eRead 6 _ hd1 P 1
    by_cases k8 : P = 64
    · have hi : inB b1.length P 1 = false := by rw [hb1, k8]; rfl
      simp only [dRead, hi, Bool.false_eq_true, if_false] at s2
      simp only [dV, dkc, pn] at s1 s2
      rcases hm with ⟨ga, f1, f2, rfl⟩ | ⟨gb, gp, gq, rfl⟩
      · simp only at f1 f2
        subst f1 f2
        rw [pdv_nil rfl] at s1
        simp -implicitDefEqProofs [he, HA, q15, q16, q11, Y.cell, Y.val, Y.mv, Y.ld, s1, s2, hA, tb, tt, hbl, tb1, tt1, hb1]
      · by_cases h1 : ps = [] <;> by_cases h2 : qs = [] <;> (first | rw [pdv_nil h1] at s1 | rw [pdv_cons h1] at s1) <;>
          simp -implicitDefEqProofs [he, HB, h1, h2, q15, q16, q11, Y.cell, Y.val, Y.mv, Y.ld, s1, s2, hA, tb, tt, t1, hbl, tb1, tt1, hb1]
    have hP : P + 1 ≤ 64 := by omega
    have hi : inB b1.length P 1 = true := by rw [hb1]; exact (inB_nat 64 P 1).trans (by simpa using hP)
    obtain ⟨y, hy⟩ := one_of (b := b1) (P := P) (by omega)
    have hone : Int.toNat 1 = 1 := rfl
    have cl1 : ∀ z : UInt8, cl [z] = .fr 1 [[.int .u8 z.toNat]] := fun z => rfl
    simp only [dRead, hi, if_true, Int.toNat_natCast, hone, hy, cl1] at s2
    have s3 := eWrite 6 (by omega) _ hd1 A nn _ _ hnn
    have hib := inB_nat 64 A l.length
    simp only [dWrite, hb1, Bool.false_eq_true, if_false] at s3
    by_cases k9 : A + l.length ≤ 64
    rotate_left
    · simp only [k9, decide_false] at hib
      simp only [hib, Bool.false_eq_true, if_false] at s3
      simp only [dV, dkc, pn] at s1 s2 s3
      rcases hm with ⟨ga, f1, f2, rfl⟩ | ⟨gb, gp, gq, rfl⟩
      · simp only at f1 f2
        subst f1 f2
        rw [pdv_nil rfl] at s1
        simp -implicitDefEqProofs [he, HA, q15, q16, q17, q11, Y.cell, Y.val, Y.mv, Y.ld, s1, s2, s3, hA, tb, tt, hbl, tb1, tt1, hb1]
      · by_cases h1 : ps = [] <;> by_cases h2 : qs = [] <;> (first | rw [pdv_nil h1] at s1 | rw [pdv_cons h1] at s1) <;>
          simp -implicitDefEqProofs [he, HB, h1, h2, q15, q16, q17, q11, Y.cell, Y.val, Y.mv, Y.ld, s1, s2, s3, hA, tb, tt, t1, hbl, tb1, tt1, hb1]
    simp only [k9, decide_true] at hib
    have hd2 := hd1.write A nn l
    have st0 : ∀ lf, stepD false false lf = (false, lf) := fun _ => rfl
    simp only [dWrite, hb1, hib, if_true, Bool.false_eq_true, if_false, dStep, st0, List.nil_append, Int.toNat_natCast] at s3 hd2
    have law := two b1 A P nn false l x kp tr hb1 k9 hP ho
    simp only at law
    have hb2 := put_len b1 A l (by omega)
    rw [hb1] at hb2
    generalize (⟨A, nn, l, (b1.drop A).take l.length⟩ : PW) = w1 at *
    generalize put b1 A l = b2 at *
    have s4 := eWrite 6 (by omega) _ hd2 P false [x] (.ro true 1 (byteRows [x])) (.inr ⟨rfl, true, rfl⟩)
    have hd3 := hd2.write P false [x]
    have hi2 : inB 64 P 1 = true := by rw [← hb1]; exact hi
    have hi3 : inB 64 P ((1 : Nat) : Int) = true := hi2
    have lx' : ([x] : List UInt8).length = 1 := rfl
    have bx : byteRows [x] = [[.int .u8 x.toNat]] := rfl
    simp only [dWrite, hb2, lx', hi2, hi3, if_true, Bool.false_eq_true, if_false, dStep, st0, List.cons_append, List.nil_append, Int.toNat_natCast] at s4 hd3
    have hb3 := put_len b2 P [x] (by rw [hb2]; exact hP)
    rw [hb2] at hb3
    generalize (⟨P, false, [x], (b2.drop P).take 1⟩ : PW) = w2 at *
    generalize put b2 P [x] = b3 at *
    have s5 := eCrash 5 (by omega) _ hd3 kp tr
    have hd4 := hd3.crash kp tr
    have hb4 : (pcrash kp tr [w1, w2] b3).length = 64 := by rw [pcrash_len hd3.w]; exact hb3
    unfold dCrash at s5 hd4
    simp only at s5 hd4
    generalize pcrash kp tr [w1, w2] b3 = b4 at *
    have s6 := eRead 6 _ hd4 P 1
    have s7 := eRead 6 _ hd4 A l.length
    have hi4 : inB b4.length P 1 = true := by rw [hb4]; exact hi2
    have hi5 : inB b4.length A l.length = true := by rw [hb4]; exact hib
    obtain ⟨z, hz⟩ := one_of (b := b4) (P := P) (by omega)
    simp only [dRead, hi4, hi5, if_true, Int.toNat_natCast, hone, hz, cl1] at s6 s7
    rw [hz, hy] at law
    generalize hr4 : (b4.drop A).take l.length = r4 at *
    have lr4 : r4.length = l.length := by rw [← hr4, List.length_take, List.length_drop]; omega
    have tr4 := byteRows_len r4
    have ttr4 : (byteRows r4).take r4.length = byteRows r4 := List.take_of_length_le (by omega)
    have tbr := toBytes_rows r4
    have tbl := toBytes_rows l
    have tb2 := byteRows_len b2
    rw [hb2] at tb2
    have tt2 : (byteRows b2).take 64 = byteRows b2 := List.take_of_length_le (by omega)
    have tb3 := byteRows_len b3
    rw [hb3] at tb3
    have tt3 : (byteRows b3).take 64 = byteRows b3 := List.take_of_length_le (by omega)
    have tb4 := byteRows_len b4
    rw [hb4] at tb4
    have tt4 : (byteRows b4).take 64 = byteRows b4 := List.take_of_length_le (by omega)
    have t0 : toBytes [] = some [] := rfl
    have n1 : ¬ ([w1] : List PW) = [] := by simp
    have n2 : ¬ ([w1, w2] : List PW) = [] := by simp
    have m1 : ([w1] : List PW).map prow = [prow w1] := rfl
    have m2 : ([w1, w2] : List PW).map prow = [prow w1, prow w2] := rfl
    rw [bx] at s4
    simp only [dV, dkc, pn] at s1 s2 s3 s4 s5 s6 s7
    rw [pdv_cons n1, m1] at s3 s4
    rw [pdv_cons n2, m2] at s4 s5
    generalize prow w1 = v1 at *
    generalize prow w2 = v2 at *
    have hcl : (cl r4 = .emp ∧ r4 = [] ∧ l = []) ∨ cl r4 = .fr 1 (byteRows r4) := by
      unfold cl; by_cases hz : r4 = []
      · refine .inl ⟨by simp [hz], hz, ?_⟩
        rw [hz] at lr4; exact List.length_eq_zero_iff.1 lr4.symm
      · exact .inr (by simp [hz])
    have hzz : z = y ∨ (¬ z = y ∧ z = x ∧ r4 = l) := by
      rcases law with h | ⟨h1, h2⟩
      · left; simpa using h
      · by_cases hh : z = y
        · exact .inl hh
        · right; exact ⟨hh, by simpa using h1, h2⟩
    rcases hzz with h0 | ⟨h0, h1, h2⟩
    · subst h0
      rcases hm with ⟨ga, f1, f2, rfl⟩ | ⟨gb, gp, gq, rfl⟩
      · simp only at f1 f2
        subst f1 f2
        rw [pdv_nil rfl] at s1
        rcases hcl with ⟨q1, q2, q3⟩ | q1 <;> rw [q1] at s7 <;>
          simp -implicitDefEqProofs [he, HA, q15, q16, q17, q11, Y.cell, Y.val, Y.mv, Y.ld, Y.low1, Y.low2, Y.low, Yr, hlen, s1, s2, s3, s4, s5, s6, s7, hA, tb, tt, hbl, tb1, tt1, hb1, tb2, tt2, hb2, tb3, tt3, hb3, tb4, tt4, hb4, tr4, ttr4, tbr, tbl, t0]
      · by_cases h1 : ps = [] <;> by_cases h2 : qs = [] <;> (first | rw [pdv_nil h1] at s1 | rw [pdv_cons h1] at s1) <;> rcases hcl with ⟨q1, q2, q3⟩ | q1 <;> rw [q1] at s7 <;>
          simp -implicitDefEqProofs [he, HB, h1, h2, q15, q16, q17, q11, Y.cell, Y.val, Y.mv, Y.ld, Y.low1, Y.low2, Y.low, Yr, hlen, s1, s2, s3, s4, s5, s6, s7, hA, tb, tt, t1, hbl, tb1, tt1, hb1, tb2, tt2, hb2, tb3, tt3, hb3, tb4, tt4, hb4, tr4, ttr4, tbr, tbl, t0]
    · subst h1
      have h0' : ¬ ((z.toNat : Int) = y.toNat) := by
        intro h; exact h0 (UInt8.toNat.inj (by omega))
      have h0'' : ¬ (z.toNat = y.toNat) := fun h => h0 (UInt8.toNat.inj h)
      have h0b : ((z.toNat : Int) == (y.toNat : Int)) = false := by simp only [beq_eq_false_iff_ne, ne_eq]; exact h0'
      rw [h2] at tbr
      rcases hm with ⟨ga, f1, f2, rfl⟩ | ⟨gb, gp, gq, rfl⟩
      · simp only at f1 f2
        subst f1 f2
        rw [pdv_nil rfl] at s1
        rcases hcl with ⟨q1, q2, q3⟩ | q1 <;> rw [q1] at s7 <;> (try have q4 : l.isEmpty = true := by (rw [q3]; rfl)) <;> (try rw [h2] at s7) <;>
          first
          | simp -implicitDefEqProofs [he, HA, q15, q16, q17, q11, Y.cell, Y.val, Y.mv, Y.ld, Y.low1, Y.low2, Y.low, Yr, hlen, s1, s2, s3, s4, s5, s6, s7, hA, tb, tt, hbl, tb1, tt1, hb1, tb2, tt2, hb2, tb3, tt3, hb3, tb4, tt4, hb4, tr4, ttr4, tbr, tbl, t0, h0b, q4]
          | simp -implicitDefEqProofs [he, HA, q15, q16, q17, q11, Y.cell, Y.val, Y.mv, Y.ld, Y.low1, Y.low2, Y.low, Yr, hlen, s1, s2, s3, s4, s5, s6, s7, hA, tb, tt, hbl, tb1, tt1, hb1, tb2, tt2, hb2, tb3, tt3, hb3, tb4, tt4, hb4, tr4, ttr4, tbr, tbl, t0, h0b]
      · by_cases h1 : ps = [] <;> by_cases h3 : qs = [] <;> (first | rw [pdv_nil h1] at s1 | rw [pdv_cons h1] at s1) <;> rcases hcl with ⟨q1, q2, q3⟩ | q1 <;> rw [q1] at s7 <;> (try have q4 : l.isEmpty = true := by (rw [q3]; rfl)) <;> (try rw [h2] at s7) <;>
          first
          | simp -implicitDefEqProofs [he, HB, h1, h3, q15, q16, q17, q11, Y.cell, Y.val, Y.mv, Y.ld, Y.low1, Y.low2, Y.low, Yr, hlen, s1, s2, s3, s4, s5, s6, s7, hA, tb, tt, t1, hbl, tb1, tt1, hb1, tb2, tt2, hb2, tb3, tt3, hb3, tb4, tt4, hb4, tr4, ttr4, tbr, tbl, t0, h0b, q4]
          | simp -implicitDefEqProofs [he, HB, h1, h3, q15, q16, q17, q11, Y.cell, Y.val, Y.mv, Y.ld, Y.low1, Y.low2, Y.low, Yr, hlen, s1, s2, s3, s4, s5, s6, s7, hA, tb, tt, t1, hbl, tb1, tt1, hb1, tb2, tt2, hb2, tb3, tt3, hb3, tb4, tt4, hb4, tr4, ttr4, tbr, tbl, t0, h0b]
theorem ref3 : Refines Go.Proofs.Try.prog 3 (E 9 3) := ref 9 3 (q3 8)
end Go.Abs.Try
