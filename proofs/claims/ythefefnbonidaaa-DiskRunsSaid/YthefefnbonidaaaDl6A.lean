/- Part 1 of Dl6: what our evaluation of a function's code says, the machine's run does; no condition of its own. -/
import Derived.Test.YthefefnbonidaaaDkB
set_option linter.unusedVariables false
set_option linter.unusedSimpArgs false
set_option linter.unusedSectionVars false
namespace Go.Abs.Try
open Go Go.Abs
set_option maxHeartbeats 16000000
set_option maxRecDepth 100000
set_option linter.unusedSimpArgs false
set_option linter.unusedVariables false
/-- what came in and lies still, as operations see it -/
structure Still (x : AV) : Prop where
  cell : ∀ (H : AH) c nm, inCell H c nm x = some (x, H, c)
  val : ∀ (H : AH) c nm, inVal H c nm x = some (x, H, c)
  mv : ∀ (H : AH) r m, mvArgs H (x :: r) m = (mvArgs H r m.tail).map fun q => (x :: q.1, q.2.1, q.2.2)
  ld : ∀ (H : AH), lendArg H x = some x
  low1 : ∀ ns al, x.low1 ns al = true
  low2 : ∀ ns al, x.low2 ns al = true
  low : ∀ ns al, x.low ns al = true
theorem Is.still {l x} (h : Is l x) : Still x := by rcases h with ⟨rfl, _⟩ | rfl <;> exact ⟨fun _ _ _ => rfl, fun _ _ _ => rfl, fun _ _ _ => rfl, fun _ => rfl, fun _ _ => rfl, fun _ _ => rfl, fun _ _ => rfl⟩
theorem Ops.still {S x} (h : Ops S x) : Still x := by rcases h with ⟨rfl, _⟩ | rfl <;> exact ⟨fun _ _ _ => rfl, fun _ _ _ => rfl, fun _ _ _ => rfl, fun _ => rfl, fun _ _ => rfl, fun _ _ => rfl, fun _ _ => rfl⟩
theorem Is.rows {l x} (h : Is l x) (H : AH) : rowsOf H 1 x = some (byteRows l) := by
  rcases h with ⟨rfl, rfl⟩ | rfl
  · rfl
  · simp [rowsOf]
end Go.Abs.Try

namespace Go.Abs.Try
open Go Go.Abs
set_option maxHeartbeats 16000000
set_option maxRecDepth 100000
set_option linter.unusedSimpArgs false
set_option linter.unusedVariables false
/- The plain law of DiskRuns: the two disks go side by side. -/
/-- the pending writes of the two disks match, from what is safe on -/
def Mt : List UInt8 → List PW → List Wr → Prop
  | _, [], [] => True
  | s, w :: ps, q :: qs => w.a = q.1 ∧ w.now = q.2 ∧ w.was = (s.drop q.1).take q.2.length ∧ q.1 + q.2.length ≤ s.length ∧ Mt (put s q.1 q.2) ps qs
  | _, _, _ => False
theorem put_back (s : List UInt8) (a : Nat) (l : List UInt8) (h : a + l.length ≤ s.length) : put (put s a l) a ((s.drop a).take l.length) = s := by
  have hl : ((s.drop a).take l.length).length = l.length := by simp; omega
  have hA : (s.take a).length = a := by rw [List.length_take]; omega
  have e1 : (put s a l).take a = s.take a := by
    unfold put; rw [List.take_append_of_le_length (by omega), List.take_of_length_le (by omega)]
  have e2 : (put s a l).drop (a + l.length) = s.drop (a + l.length) := by
    unfold put; rw [← List.append_assoc, List.drop_append, List.drop_of_length_le (by simp; omega), List.nil_append, show a + l.length - (s.take a ++ l).length = 0 by simp; omega, List.drop_zero]
  rw [put.eq_1 (put s a l), hl, e1, e2]
  rw [show s.drop (a + l.length) = (s.drop a).drop l.length by rw [List.drop_drop], List.take_append_drop, List.take_append_drop]
theorem put_nil (s : List UInt8) (a : Nat) : put s a [] = s := by simp [put]
theorem Mt.undo : ∀ {s : List UInt8} {ps qs}, Mt s ps qs → undo ps (now s qs) = s
  | s, [], [], _ => rfl
  | s, w :: ps, q :: qs, h => by
    obtain ⟨h1, h2, h3, h4, h5⟩ := h
    show put (Go.Abs.Try.undo ps (now (put s q.1 q.2) qs)) w.a w.was = s
    rw [h5.undo, h1, h3]
    exact put_back s q.1 q.2 h4
theorem Mt.cut : ∀ {s : List UInt8} {ps qs} (k : Nat), Mt s ps qs → Go.Abs.Try.undo (ps.drop k) (now s qs) = now s (qs.take k)
  | s, ps, qs, 0, h => h.undo
  | s, [], [], k + 1, _ => rfl
  | s, w :: ps, q :: qs, k + 1, h => by
    obtain ⟨h1, h2, h3, h4, h5⟩ := h
    exact h5.cut k
theorem Mt.len : ∀ {s : List UInt8} {ps qs}, Mt s ps qs → ps.length = qs.length
  | s, [], [], _ => rfl
  | s, w :: ps, q :: qs, h => by
    obtain ⟨h1, h2, h3, h4, h5⟩ := h
    simp [h5.len]
theorem Mt.get : ∀ {s : List UInt8} {ps qs} (k : Nat), Mt s ps qs → (ps[k]?).map (fun w => (w.a, w.now)) = qs[k]?
  | s, [], [], k, _ => rfl
  | s, w :: ps, q :: qs, 0, h => by
    obtain ⟨h1, h2, h3, h4, h5⟩ := h
    simp [h1, h2]
  | s, w :: ps, q :: qs, k + 1, h => by
    obtain ⟨h1, h2, h3, h4, h5⟩ := h
    simpa using h5.get k
theorem Mt.push : ∀ {s : List UInt8} {ps qs} (w : PW), Mt s ps qs → w.was = ((now s qs).drop w.a).take w.now.length → w.a + w.now.length ≤ (now s qs).length → Mt s (ps ++ [w]) (qs ++ [(w.a, w.now)])
  | s, [], [], w, _, h1, h2 => ⟨rfl, rfl, h1, h2, trivial⟩
  | s, v :: ps, q :: qs, w, h, e1, e2 => by
    obtain ⟨h1, h2, h3, h4, h5⟩ := h
    exact ⟨h1, h2, h3, h4, h5.push w e1 e2⟩
theorem now_app : ∀ (qs : List Wr) (s : List UInt8) (q : Wr), now s (qs ++ [q]) = put (now s qs) q.1 q.2
  | [], s, q => rfl
  | w :: r, s, q => now_app r _ q
/-- behind the torn one nothing is changed -/
theorem rcrash_past (kp tr : Int) : ∀ (qs : List Wr) (i : Nat) (s : List UInt8), kp.toNat < i → rcrash kp tr i s qs = s
  | [], i, s, h => rfl
  | w :: r, i, s, h => by
    rw [rcrash]
    have h1 : ¬ (i : Int) < kp := by omega
    have h2 : ¬ (i = kp.toNat ∧ w.2 ≠ []) := by omega
    simp only [h1, h2, if_false]
    exact rcrash_past kp tr r (i + 1) s (by omega)
theorem rcrash_eq (kp tr : Int) : ∀ (qs : List Wr) (i : Nat) (s : List UInt8), i ≤ kp.toNat → rcrash kp tr i s qs =
    match qs[kp.toNat - i]? with
    | some w => put (now s (qs.take (kp.toNat - i))) w.1 (w.2.take (tearN tr w.2.length))
    | none => now s (qs.take (kp.toNat - i))
  | [], i, s, h => by simp [rcrash, now]
  | w :: r, i, s, h => by
    rw [rcrash]
    by_cases hi : i = kp.toNat
    · have h1 : ¬ (i : Int) < kp := by omega
      rw [hi, Nat.sub_self]
      simp only [show ¬ ((kp.toNat : Int) < kp) by omega, if_false, true_and]
      rw [rcrash_past kp tr r _ _ (by omega)]
      simp only [List.getElem?_cons_zero, List.take_zero, now]
      by_cases hw : w.2 = []
      · simp [hw, put_nil]
      · simp [hw]
    · have h1 : (i : Int) < kp := by omega
      simp only [h1, hi, if_true, false_and, if_false]
      rw [rcrash_eq kp tr r (i + 1) _ (by omega)]
      obtain ⟨j, hj⟩ : ∃ j, kp.toNat - i = j + 1 := ⟨kp.toNat - i - 1, by omega⟩
      rw [hj, show kp.toNat - (i + 1) = j by omega]
      simp only [List.getElem?_cons_succ, List.take_succ_cons, now]
theorem Mt.crash {s : List UInt8} {ps qs} (h : Mt s ps qs) (kp tr : Int) : pcrash kp tr ps (now s qs) = rcrash kp tr 0 s qs := by
  rw [rcrash_eq kp tr qs 0 s (Nat.zero_le _)]
  have hc := h.cut (keepN kp ps.length)
  have hg := h.get (keepN kp ps.length)
  have hl := h.len
  unfold pcrash
  simp only [hc, Nat.sub_zero]
  by_cases hk : kp.toNat < ps.length
  · have e : keepN kp ps.length = kp.toNat := by unfold keepN; omega
    rw [e] at hg ⊢
    rw [← hg]
    cases ps[kp.toNat]? <;> rfl
  · have e : keepN kp ps.length = ps.length := by unfold keepN; omega
    rw [e]
    rw [List.getElem?_eq_none (by omega), List.getElem?_eq_none (by omega), List.take_of_length_le (by omega), List.take_of_length_le (by omega)]
structure Inv (B : Nat) (p : DS × RS) : Prop where
  b : p.1.b = now p.2.s p.2.qs
  l : p.2.s.length = B
  m : Mt p.2.s p.1.ps p.2.qs
  dn : p.1.dn = p.2.dn
  st : p.1.st = p.2.st
  lf : p.1.lf = p.2.lf
theorem inv_call {N B : Nat} {p : DS × RS} (h : Inv B p) (hp : POK N B p) (o : DOp) : (callM o p).1 = true ∧ Inv B (callM o p).2 := by
  obtain ⟨⟨b, ps, dn, st, lf⟩, ⟨s, qs, rdn, rst, rlf⟩⟩ := p
  obtain ⟨hb, hl, hm, h1, h2, h3⟩ := h
  simp only at hb hl hm h1 h2 h3
  subst h1 h2 h3
  have hbl : b.length = s.length := by rw [hb]; exact now_len _ _ hp.r.w
  have hnl : (now s qs).length = s.length := now_len _ _ hp.r.w
  unfold callM
  split
  · unfold dWrite rWrite
    simp only [hbl]
    cases dn with
    | true => simp only [if_true, beq_self_eq_true, true_and]; exact ⟨hb, hl, hm, rfl, rfl, rfl⟩
    | false =>
      simp only [Bool.false_eq_true, if_false]
      split
      · next hin =>
        have hle := inB_len hin
        simp only [beq_self_eq_true, true_and, dStep, rStep]
        refine ⟨?_, hl, ?_, rfl, rfl, rfl⟩
        · show put b _ _ = now s (qs ++ [_])
          rw [now_app, hb]
        · refine hm.push _ ?_ ?_
          · show (b.drop _).take _ = _
            rw [hb]
          · show _ ≤ (now s qs).length
            rw [hnl]; exact hle
      · simp only [beq_self_eq_true, true_and]; exact ⟨hb, hl, hm, rfl, rfl, rfl⟩
  split
  · unfold dSync rSync
    cases dn with
    | true => simp only [if_true, beq_self_eq_true, true_and]; exact ⟨hb, hl, hm, rfl, rfl, rfl⟩
    | false =>
      simp only [Bool.false_eq_true, if_false, beq_self_eq_true, true_and, dStep, rStep]
      exact ⟨hb, by show (now s qs).length = B; rw [hnl]; exact hl, trivial, rfl, rfl, rfl⟩
  split
  · refine ⟨?_, hb, hl, hm, rfl, rfl, rfl⟩
    simp only [decide_eq_true_eq]
    unfold dRead rRead
    simp only [hbl]
    rw [hb]
  split
  · unfold dStop rStop
    cases dn with
    | true => simp only [if_true, beq_self_eq_true, true_and]; exact ⟨hb, hl, hm, rfl, rfl, rfl⟩
    | false =>
      simp only [Bool.false_eq_true, if_false]
      split
      · simp only [beq_self_eq_true, true_and]; exact ⟨hb, hl, hm, rfl, rfl, rfl⟩
      · simp only [beq_self_eq_true, true_and]; exact ⟨hb, hl, hm, rfl, rfl, rfl⟩
  split
  · refine ⟨rfl, ?_, ?_, trivial, rfl, rfl, rfl⟩
    · show pcrash _ _ ps b = rcrash _ _ 0 s qs
      rw [hb]; exact hm.crash _ _
    · show (rcrash _ _ 0 s qs).length = B
      rw [rcrash_len _ _ _ _ _ hp.r.w]; exact hl
  · exact ⟨rfl, hb, hl, hm, rfl, rfl, rfl⟩
end Go.Abs.Try

namespace Go.Abs.Try
open Go Go.Abs
set_option maxHeartbeats 16000000
set_option maxRecDepth 100000
set_option linter.unusedSimpArgs false
set_option linter.unusedVariables false
theorem readAllB (m : Nat) {N : Nat} (d : DS) (h : DOK N d) (B : Nat) (hb : d.b.length = B) (h1 : 1 ≤ B) : E (m + 2) 16 [.pv (dV d), .int .i64 0, .int .i64 B] = some (.tup [.fr 1 (byteRows d.b), .int .i64 0], [dV d]) := by
  have := eRead m d h 0 B
  have hi : inB d.b.length 0 B = true := by rw [hb]; unfold inB; simp
  have e : dRead d 0 B = (d.b, 0) := by
    unfold dRead
    rw [hi]
    simp [List.take_of_length_le (Nat.le_of_eq hb)]
  rw [hi, e] at this
  have hc : cl d.b = .fr 1 (byteRows d.b) := by
    unfold cl; rw [if_neg]; intro h0; rw [h0] at hb; simp at hb; omega
  simpa [hc] using this
abbrev kl6 : List Nat := [17000, 17001, 17002, 52000, 52002, 100200, 18000000, 18000001, 53000001]
theorem stepL6 (m : Nat) (B : Nat) (hB1 : 1 ≤ B) (hB2 : B ≤ 1000) (S : List DOp) (hS : ∀ o ∈ S, o.OK) (h60 : S.length ≤ 60) (g1 g2 N : Nat) (hN : N ≤ 900) (p : DS × RS) (hp : POK N B p) (hv : Inv B p) (i : Nat) (hi : i < S.length) (H : AH) (c : Nat) (hg1 : g1 < c) (hg2 : g2 < c) (hH : Mem 17000 52000 17001 18000000 18000001 53000001 g1 g2 p H) (k : Nat) :
    ∃ H' c', c ≤ c' ∧ Mem 17000 52000 17001 18000000 18000001 53000001 g1 g2 (callM S[i] p).2 H' ∧ iter (ev (Q (m + 4)) 3000 b6_0) [0, 1, 5, 7, 9] kl6 (k + 1) ⟨[(0, .int .i64 B), (1, .ro false 4 (S.map DOp.row)), (5, .ptr 17000 g1 0), (7, .ptr 52000 g2 0), (9, .int .i64 i)], H, c⟩ = iter (ev (Q (m + 4)) 3000 b6_0) [0, 1, 5, 7, 9] kl6 k ⟨[(0, .int .i64 B), (1, .ro false 4 (S.map DOp.row)), (5, .ptr 17000 g1 0), (7, .ptr 52000 g2 0), (9, .int .i64 (i + 1 : Nat))], H', c'⟩ := by
  have hc := call14 m (by omega) (by omega) p hp S[i] (hS _ (List.getElem_mem _))
  obtain ⟨hx, hv'⟩ := inv_call hv hp S[i]
  have hp' := hp.call S[i]
  rw [hx] at hc
  have hlen : (S.map DOp.row).length = S.length := by simp
  have hg : (S.map DOp.row)[i]? = some (S[i]).row := by simp [hi]
  have h1 : (i : Int) < S.length := by omega
  have w1 : IntKind.i64.wrap ((i : Int) + 1) = (i : Int) + 1 := wrap_i64 _ (by omega) (by omega)
  generalize callM S[i] p = x at *
  obtain ⟨x, ⟨⟨b', ps', dn', st', lf'⟩, ⟨s', qs', rdn', rst', rlf'⟩⟩⟩ := x
  obtain ⟨⟨b, ps, dn, st, lf⟩, ⟨s, qs, rdn, rst, rlf⟩⟩ := p
  have e1 := hv'.dn
  have e2 := hv'.b
  have e3 := hp'.b
  simp only at e1 e2 e3
  subst e1
  have kD : E (m + 4) 20 [.pv (dV ⟨b', ps', dn', st', lf'⟩)] = some (.bool dn', [dV ⟨b', ps', dn', st', lf'⟩]) := eDown (m + 3) _
  have kR : E (m + 4) 16 [.pv (dV ⟨b', ps', dn', st', lf'⟩), .int .i64 0, .int .i64 B] = some (.tup [.fr 1 (byteRows b'), .int .i64 0], [dV ⟨b', ps', dn', st', lf'⟩]) := readAllB (m + 2) _ hp'.d B e3 hB1
  have kN : E (m + 4) 21 [.pv (rV ⟨s', qs', dn', rst', rlf'⟩)] = some (.str ⟨b'.toArray⟩, [rV ⟨s', qs', dn', rst', rlf'⟩]) := by rw [e2]; exact erNow (m + 2) (by omega) _ hp'.r
  have tx := toBytes_rows b'
  simp only [dV, rV, dkc, rkc] at hc kD kR kN
  have hv2 : (S[i]).v = .nilS ∨ ∃ r, (S[i]).v = .ro false 1 r := by rcases (hS S[i] (List.getElem_mem _)).v with ⟨h, _⟩ | h; exact .inl h; exact .inr ⟨_, h⟩
  clear hx hS hv hp hv' hp' e2
  generalize S[i] = o at *
  generalize S.map DOp.row = W at *
  have hg' := (List.getElem?_eq_some_iff.1 hg).2
  obtain ⟨ok, oa, on, ol, ov⟩ := o
  simp only [DOp.row] at *
  have hb := byteRows_len b
  have hb' := byteRows_len b'
  rw [e3] at hb'
  have ht : (byteRows b).take b.length = byteRows b := List.take_of_length_le (by omega)
  have ht' : (byteRows b').take B = byteRows b' := List.take_of_length_le (by omega)
  have t1 : (ps.map prow).take ps.length = ps.map prow := List.take_of_length_le (by simp)
  have t2 : (qs.map qrow).take qs.length = qs.map qrow := List.take_of_length_le (by simp)
  have t3 : (ps'.map prow).take ps'.length = ps'.map prow := List.take_of_length_le (by simp)
  have t4 : (qs'.map qrow).take qs'.length = qs'.map qrow := List.take_of_length_le (by simp)
  have g1k1 : g1 < c + 1 := by omega
  have g1k2 : g1 < c + 1 + 1 := by omega
  have g1k3 : g1 < c + 1 + 1 + 1 := by omega
  have g1k4 : g1 < c + 1 + 1 + 1 + 1 := by omega
  have g1k5 : g1 < c + 1 + 1 + 1 + 1 + 1 := by omega
  have g1k6 : g1 < c + 1 + 1 + 1 + 1 + 1 + 1 := by omega
  have g1k7 : g1 < c + 1 + 1 + 1 + 1 + 1 + 1 + 1 := by omega
  have g1k8 : g1 < c + 1 + 1 + 1 + 1 + 1 + 1 + 1 + 1 := by omega
  have g1k9 : g1 < c + 1 + 1 + 1 + 1 + 1 + 1 + 1 + 1 + 1 := by omega
  have g1k10 : g1 < c + 1 + 1 + 1 + 1 + 1 + 1 + 1 + 1 + 1 + 1 := by omega
  have g2k1 : g2 < c + 1 := by omega
  have g2k2 : g2 < c + 1 + 1 := by omega
  have g2k3 : g2 < c + 1 + 1 + 1 := by omega
  have g2k4 : g2 < c + 1 + 1 + 1 + 1 := by omega
  have g2k5 : g2 < c + 1 + 1 + 1 + 1 + 1 := by omega
  have g2k6 : g2 < c + 1 + 1 + 1 + 1 + 1 + 1 := by omega
  have g2k7 : g2 < c + 1 + 1 + 1 + 1 + 1 + 1 + 1 := by omega
  have g2k8 : g2 < c + 1 + 1 + 1 + 1 + 1 + 1 + 1 + 1 := by omega
  have g2k9 : g2 < c + 1 + 1 + 1 + 1 + 1 + 1 + 1 + 1 + 1 := by omega
  have g2k10 : g2 < c + 1 + 1 + 1 + 1 + 1 + 1 + 1 + 1 + 1 + 1 := by omega
  have ck1 : c < c + 1 := by omega
  have cl1 : c ≤ c + 1 := by omega
  have ck2 : c < c + 1 + 1 := by omega
  have cl2 : c ≤ c + 1 + 1 := by omega
  have ck3 : c < c + 1 + 1 + 1 := by omega
  have cl3 : c ≤ c + 1 + 1 + 1 := by omega
  have ck4 : c < c + 1 + 1 + 1 + 1 := by omega
  have cl4 : c ≤ c + 1 + 1 + 1 + 1 := by omega
  have ck5 : c < c + 1 + 1 + 1 + 1 + 1 := by omega
  have cl5 : c ≤ c + 1 + 1 + 1 + 1 + 1 := by omega
  have ck6 : c < c + 1 + 1 + 1 + 1 + 1 + 1 := by omega
  have cl6 : c ≤ c + 1 + 1 + 1 + 1 + 1 + 1 := by omega
  have ck7 : c < c + 1 + 1 + 1 + 1 + 1 + 1 + 1 := by omega
  have cl7 : c ≤ c + 1 + 1 + 1 + 1 + 1 + 1 + 1 := by omega
  have ck8 : c < c + 1 + 1 + 1 + 1 + 1 + 1 + 1 + 1 := by omega
  have cl8 : c ≤ c + 1 + 1 + 1 + 1 + 1 + 1 + 1 + 1 := by omega
  have ck9 : c < c + 1 + 1 + 1 + 1 + 1 + 1 + 1 + 1 + 1 := by omega
  have cl9 : c ≤ c + 1 + 1 + 1 + 1 + 1 + 1 + 1 + 1 + 1 := by omega
  have ck10 : c < c + 1 + 1 + 1 + 1 + 1 + 1 + 1 + 1 + 1 + 1 := by omega
  have cl10 : c ≤ c + 1 + 1 + 1 + 1 + 1 + 1 + 1 + 1 + 1 + 1 := by omega
  obtain ⟨cp, hcp⟩ : ∃ cp, cp = if ps' = [] then 0 else 1 := ⟨_, rfl⟩
  obtain ⟨cq, hcq⟩ : ∃ cq, cq = if qs' = [] then 0 else 1 := ⟨_, rfl⟩
  refine ⟨HB 17000 52000 18000000 18000001 53000001 g1 g2 (c + 1 + cp + cq + 1 + cp) (c + 1 + cp + cq + 1 + cp + 1) (c + 1 + cp + cq + 1 + cp + 1 + cp + 1) (⟨b', ps', dn', st', lf'⟩, ⟨s', qs', dn', rst', rlf'⟩), c + 1 + cp + cq + 1 + cp + 1 + cp + 1 + cq, by omega, .inr ⟨_, _, _, rfl⟩, iter_norm ?_⟩
  unfold HB
  rcases hH with ⟨ga, e1, e2, rfl⟩ | ⟨gb, gp, gq, rfl⟩
  · simp only at e1 e2
    subst e1 e2
    rw [pdv_nil rfl, qv_nil rfl] at hc
    unfold HA
    by_cases h3 : ps' = [] <;> by_cases h4 : qs' = [] <;> (first | rw [pdv_nil h3] at hc kD kR | rw [pdv_cons h3] at hc kD kR) <;> (first | rw [qv_nil h4] at hc kN | rw [qv_cons h4] at hc kN) <;> simp only [h3, h4, if_true, if_false] at hcp hcq <;> subst hcp hcq <;> rcases hv2 with rfl | ⟨ol2, rfl⟩ <;>
      simp -implicitDefEqProofs [b6_0, St.keep, q14, q20, q16, q21, hc, kD, kR, kN, tx, hb, hb', ht, ht', t1, t2, t3, t4, e3, hlen, hi, h1, w1, hg, hg', h3, h4, hg1, hg2, ck1, cl1, ck2, cl2, ck3, cl3, ck4, cl4, ck5, cl5, ck6, cl6, ck7, cl7, ck8, cl8, ck9, cl9, ck10, cl10, g1k1, g1k2, g1k3, g1k4, g1k5, g1k6, g1k7, g1k8, g1k9, g1k10, g2k1, g2k2, g2k3, g2k4, g2k5, g2k6, g2k7, g2k8, g2k9, g2k10]
  · unfold HB
    by_cases h5 : ps = [] <;> by_cases h2 : qs = [] <;> (first | rw [pdv_nil h5] at hc | rw [pdv_cons h5] at hc) <;> (first | rw [qv_nil h2] at hc | rw [qv_cons h2] at hc) <;>
    by_cases h3 : ps' = [] <;> by_cases h4 : qs' = [] <;> (first | rw [pdv_nil h3] at hc kD kR | rw [pdv_cons h3] at hc kD kR) <;> (first | rw [qv_nil h4] at hc kN | rw [qv_cons h4] at hc kN) <;> simp only [h3, h4, if_true, if_false] at hcp hcq <;> subst hcp hcq <;> rcases hv2 with rfl | ⟨ol2, rfl⟩ <;>
      simp -implicitDefEqProofs [b6_0, St.keep, q14, q20, q16, q21, hc, kD, kR, kN, tx, hb, hb', ht, ht', t1, t2, t3, t4, e3, hlen, hi, h1, w1, hg, hg', h2, h5, h3, h4, hg1, hg2, ck1, cl1, ck2, cl2, ck3, cl3, ck4, cl4, ck5, cl5, ck6, cl6, ck7, cl7, ck8, cl8, ck9, cl9, ck10, cl10, g1k1, g1k2, g1k3, g1k4, g1k5, g1k6, g1k7, g1k8, g1k9, g1k10, g2k1, g2k2, g2k3, g2k4, g2k5, g2k6, g2k7, g2k8, g2k9, g2k10]
theorem loopL6 (m : Nat) (B : Nat) (hB1 : 1 ≤ B) (hB2 : B ≤ 1000) (S : List DOp) (x : AV) (hx : Ops S x) (hS : ∀ o ∈ S, o.OK) (h60 : S.length ≤ 60) (g1 g2 : Nat) : ∀ (d i k N : Nat) (p : DS × RS) (H : AH) (c : Nat), i + d = S.length → d < k → N + d ≤ 900 → POK N B p → Inv B p → g1 < c → g2 < c → Mem 17000 52000 17001 18000000 18000001 53000001 g1 g2 p H →
    ∃ s', iter (ev (Q (m + 4)) 3000 b6_0) [0, 1, 5, 7, 9] kl6 k ⟨[(0, .int .i64 B), (1, x), (5, .ptr 17000 g1 0), (7, .ptr 52000 g2 0), (9, .int .i64 i)], H, c⟩ = some (.exit 0, s')
  | d, i, 0, N, p, H, c, hi, hk, hN, hp, hv, hg1, hg2, hH => by omega
  | 0, i, k + 1, N, p, H, c, hi, hk, hN, hp, hv, hg1, hg2, hH => by
    obtain rfl : i = S.length := by omega
    have hk : H.only kl6 = H := by
      rcases hH with ⟨ga, e1, e2, rfl⟩ | ⟨gb, gp, gq, rfl⟩
      · simp [HA]
      · unfold HB
        by_cases h1 : p.1.ps = [] <;> by_cases h2 : p.2.qs = [] <;> simp [h1, h2]
    rw [iter_succ]
    rcases hx with ⟨rfl, rfl⟩ | rfl
    · simp -implicitDefEqProofs [b6_0, hk]
    · have hlen : (S.map DOp.row).length = S.length := by simp
      generalize S.map DOp.row = W at *
      simp -implicitDefEqProofs [b6_0, hlen, hk]
  | d + 1, i, k + 1, N, p, H, c, hi, hk, hN, hp, hv, hg1, hg2, hH => by
    obtain rfl : x = .ro false 4 (S.map DOp.row) := by
      rcases hx with ⟨rfl, rfl⟩ | h
      · simp at hi
      · exact h
    obtain ⟨H1, c1, q1, hH1, e1⟩ := stepL6 m B hB1 hB2 S hS h60 g1 g2 N (by omega) p hp hv i (by omega) H c hg1 hg2 hH k
    obtain ⟨s', r4⟩ := loopL6 m B hB1 hB2 S _ (.inr rfl) hS h60 g1 g2 d (i + 1) k (N + 1) _ H1 c1 (by omega) (by omega) (by omega) (hp.call _) (inv_call hv hp _).2 (by omega) (by omega) hH1
    exact ⟨s', by rw [e1]; exact r4⟩
/-- the loop, found by its start -/
theorem foundL6 {m : Nat} {B : Nat} (hB1 : 1 ≤ B) (hB2 : B ≤ 1000) {S : List DOp} {x : AV} (hx : Ops S x) (hS : ∀ o ∈ S, o.OK) (h60 : S.length ≤ 60) {g1 g2 N c : Nat} {p : DS × RS} {H : AH} {X : Option (Ex × St)}
    (hI : iter (ev (Q (m + 4)) 3000 b6_0) [0, 1, 5, 7, 9] kl6 3000 ⟨[(0, .int .i64 B), (1, x), (5, .ptr 17000 g1 0), (7, .ptr 52000 g2 0), (9, .int .i64 0)], H, c⟩ = X) (hN : N ≤ 800) (hp : POK N B p) (hv : Inv B p) (hg1 : g1 < c) (hg2 : g2 < c) (hH : Mem 17000 52000 17001 18000000 18000001 53000001 g1 g2 p H) :
    ∃ s', X = some (.exit 0, s') := by
  obtain ⟨s', r4⟩ := loopL6 m B hB1 hB2 S x hx hS h60 g1 g2 S.length 0 3000 N p H c (by omega) (by omega) (by omega) hp hv hg1 hg2 hH
  exact ⟨s', by rw [← hI]; exact r4⟩
end Go.Abs.Try

namespace Go.Abs.Try
open Go Go.Abs
set_option maxHeartbeats 16000000
set_option maxRecDepth 100000
set_option linter.unusedSimpArgs false
set_option linter.unusedVariables false
theorem law6 (x0 x1 : AV) (o0 : okRow [.int .i64] [x0]) (o1 : okRow [.sl [.int .i64, .int .i64, .int .i64, .sl [.int .u8]]] [x1]) : E 9 6 [x0, x1] = some (.bool true, []) := by
  obtain ⟨S, hx, hS, _⟩ := ok_script o1
  obtain ⟨n, _, e, _, _⟩ := o0.int
  obtain ⟨rfl, _⟩ : x0 = .int .i64 n ∧ _ := by simpa using e
  clear o0 o1 e
  have hL := large10 7 S x1 hx.t hS
  have X := hx.still
  have hA := awake_ok
  have hN := new12 7 n
  have hM := new13 7 n
  rw [e6]
  cases hb : largeM S
  rotate_left
  · rw [hb] at hL
    simp -implicitDefEqProofs [a6, c6, q10, q11, hL, hA, X.cell, X.val, X.mv, X.ld]
  rw [hb] at hL
  obtain ⟨h60, hok⟩ := small hb hS
  by_cases k1 : n < 1
  · simp only [k1, true_or, if_true] at hN
    simp -implicitDefEqProofs [a6, c6, q10, q11, q12, hL, hA, hN, X.cell, X.val, X.mv, X.ld, k1]
  by_cases k2 : 1000000 < n
  · simp only [k1, k2, or_true, if_true] at hN
    simp -implicitDefEqProofs [a6, c6, q10, q11, q12, hL, hA, hN, X.cell, X.val, X.mv, X.ld, k1, k2]
  simp only [k1, k2, or_self, if_false, dkc, rkc] at hN hM
  obtain ⟨B, rfl⟩ : ∃ B : Nat, n = B := ⟨n.toNat, by omega⟩
  rw [Int.toNat_natCast] at hN hM
  have hz : List.replicate B [AV.int .u8 0] = byteRows (List.replicate B 0) := by simp [byteRows]
  have z1 : (List.replicate B (0 : UInt8)).length = B := by simp
  rw [hz] at hN
  generalize List.replicate B (0 : UInt8) = Z at *
  have z2 : (byteRows Z).length = B := by rw [byteRows_len, z1]
  have z3 : (byteRows Z).take B = byteRows Z := List.take_of_length_le (by omega)
  have hR := eRoom 7 ⟨Z, [], false, false, 0⟩
  have pn : pdv [] = .nilS := rfl
  simp only [dV, dkc, pn, z1] at hR
  by_cases k3 : 1000 < B
  · have k3' : (1000 : Int) < B := by omega
    simp -implicitDefEqProofs [a6, c6, q10, q11, q12, q19, hL, hA, hN, hR, X.cell, X.val, X.mv, X.ld, k1, k2, k3, k3', z1, z2, z3]
  have k3' : ¬ (1000 : Int) < B := by omega
  simp -implicitDefEqProofs (maxSteps := 5000000) [a6, c6, q10, q11, q12, q13, q19, hL, hA, hN, hM, hR, X.cell, X.val, X.mv, X.ld, k1, k2, k3, k3', z1, z2, z3]
  rw [iter_keep]
  simp
  generalize hI : iter _ _ _ _ _ = W
  have hp : POK 0 B (⟨Z, [], false, false, 0⟩, ⟨Z, [], false, false, 0⟩) :=
    ⟨⟨by simp [z1]; omega, by simp, by simp, by simp, by simp, by simp⟩, ⟨by simp [z1]; omega, by simp, by simp, by simp, by simp, fun w hw => by cases hw⟩, by simp [z1]⟩
  have hv : Inv B (⟨Z, [], false, false, 0⟩, ⟨Z, [], false, false, 0⟩) := ⟨rfl, z1, trivial, rfl, rfl, rfl⟩
  obtain ⟨s', rfl⟩ := foundL6 (by omega) (by omega) hx hok h60 hI (Nat.zero_le _) hp hv (by omega) (by omega) (.inr ⟨2, 0, 0, by simp [HB, z1]⟩)
  simp -implicitDefEqProofs [hA]
theorem ref6 : Refines Go.Proofs.Try.prog 6 (E 9 6) := ref 9 6 (q6 8)
end Go.Abs.Try
