/- Part 2 of FB: what our evaluation of a function's code says, the machine's run does; no condition of its own. -/
import Derived.Test.YteeganhogbbpnaaDoorFBA
set_option linter.unusedVariables false
set_option linter.unusedSimpArgs false
set_option linter.unusedSectionVars false
namespace Go.Abs.Tryd
open Go Go.Abs Go.Proofs Go.Abs.Sha
set_option maxHeartbeats 64000000
set_option maxRecDepth 100000
set_option linter.unusedSimpArgs false
set_option linter.unusedVariables false
theorem glob0_ws : glob0 = ws KK := by kernel_rfl
theorem look0 : Globs.look 0 = some (ws KK) := by rw [← glob0_ws]; rfl
theorem step21 (n K : Nat) (g2 g4 g5 g6 c k : Nat) (A B : Blk) (L : List W) (hL : L.length = 64) (t : Nat) (ht : t < 64) (v : V8) (hg5 : g5 < c) (hg6 : g6 < c) :
    iter (ev (Q (n + 1)) K b37_1) [2, 4, 5, 6, 7] [2, 4, 5, 6] (k + 1) ⟨[(2, .ptr 2 g2 0), (4, .ptr 4 g4 0), (5, .ptr 5 g5 0), (6, .ptr 6 g6 0), (7, .int .i64 t)], [⟨2, g2, A⟩, ⟨4, g4, B⟩, ⟨5, g5, .var (ws L)⟩, ⟨6, g6, .var (vc v)⟩], c⟩ =
    iter (ev (Q (n + 1)) K b37_1) [2, 4, 5, 6, 7] [2, 4, 5, 6] k ⟨[(2, .ptr 2 g2 0), (4, .ptr 4 g4 0), (5, .ptr 5 g5 0), (6, .ptr 6 g6 0), (7, .int .i64 (t + 1 : Nat))], [⟨2, g2, A⟩, ⟨4, g4, B⟩, ⟨5, g5, .var (ws L)⟩, ⟨6, g6, .var (vc (stp (KK.getD t 0) (L.getD t 0) v))⟩], c⟩ := by
  have h1 : (t : Int) < 64 := by omega
  have w1 : IntKind.i64.wrap ((t : Int) + 1) = (t : Int) + 1 := wrap_i64 _ (by omega) (by omega)
  have hlen := ws_len L
  have kl := ws_len KK
  have k0 := KK_len
  have hk := ws_at (L := KK) (i := t) (by omega)
  have hk2 := (List.getElem?_eq_some_iff.1 hk).2
  have a0 := ws_at (L := L) (i := t) (by omega)
  have b0 := (List.getElem?_eq_some_iff.1 a0).2
  have lw := plains_low (ws_plain L)
  have lk := look0
  have us : IntKind.u32.signed = false := rfl
  have um : IntKind.u32.max = 4294967295 := by decide +kernel
  have z39e : z63 = [.int .u32 0, .int .u32 0, .int .u32 0, .int .u32 0, .int .u32 0, .int .u32 0, .int .u32 0, .int .u32 0] := rfl
  generalize L.getD t 0 = x0 at *
  generalize KK.getD t 0 = kk at *
  obtain ⟨v0, v1, v2, v3, v4, v5, v6, v7⟩ := v
  apply iter_norm
  simp (config := { maxSteps := 3000000 }) -implicitDefEqProofs [b37_1, St.keep, h1, ht, w1, hlen, hL, kl, k0, hk, hk2, a0, b0, lw, lk, z39e, us, um, hg5, hg6, abin, vc, stp, pp, qq, q45, turn6, turn11, turn25, turn2, turn13, turn22]
theorem loop21 (n K : Nat) (g2 g4 g5 g6 c : Nat) (A B : Blk) (l : List UInt8) (v : V8) (hg5 : g5 < c) (hg6 : g6 < c) : ∀ (d t k : Nat), t + d = 64 → d < k →
    iter (ev (Q (n + 1)) K b37_1) [2, 4, 5, 6, 7] [2, 4, 5, 6] k ⟨[(2, .ptr 2 g2 0), (4, .ptr 4 g4 0), (5, .ptr 5 g5 0), (6, .ptr 6 g6 0), (7, .int .i64 t)], [⟨2, g2, A⟩, ⟨4, g4, B⟩, ⟨5, g5, .var (ws (RW l 64))⟩, ⟨6, g6, .var (vc (cmp (wf l) t v))⟩], c⟩ =
    some (.exit 0, ⟨[(2, .ptr 2 g2 0), (4, .ptr 4 g4 0), (5, .ptr 5 g5 0), (6, .ptr 6 g6 0), (7, .int .i64 64), (14, .int .i64 64), (15, .bool false)], [⟨2, g2, A⟩, ⟨4, g4, B⟩, ⟨5, g5, .var (ws (RW l 64))⟩, ⟨6, g6, .var (vc (cmp (wf l) 64 v))⟩], c⟩)
  | 0, t, 0, hi, hk => by omega
  | 0, t, k + 1, hi, hk => by
    obtain rfl : t = 64 := by omega
    rw [iter_succ]
    generalize cmp (wf l) 64 v = V
    simp -implicitDefEqProofs [b37_1, abin]
  | d + 1, t, 0, hi, hk => by omega
  | d + 1, t, k + 1, hi, hk => by
    rw [step21 n K g2 g4 g5 g6 c k A B (RW l 64) (ar_len _ _) t (by omega) (cmp (wf l) t v) hg5 hg6, RW_get l 64 t (by omega) (by omega)]
    exact loop21 n K g2 g4 g5 g6 c A B l v hg5 hg6 d (t + 1) k (by omega) (by omega)
theorem step21a0 (Φ : Nat → Option FnF) (K : Nat) (g2 g4 g6 c k : Nat) (B : Blk) (u0 u1 u2 u3 u4 u5 u6 u7 x0 x1 x2 x3 x4 x5 x6 x7 : W) (hg2 : g2 < c) (hg6 : g6 < c) :
    iter (ev Φ K b37_0) [2, 4, 6, 10] [2, 4, 6] (k + 1) ⟨[(2, .ptr 2 g2 0), (4, .ptr 4 g4 0), (6, .ptr 6 g6 0), (10, .int .i64 0)], [⟨2, g2, .var [.int .u32 (N u0), .int .u32 (N u1), .int .u32 (N u2), .int .u32 (N u3), .int .u32 (N u4), .int .u32 (N u5), .int .u32 (N u6), .int .u32 (N u7)]⟩, ⟨4, g4, B⟩, ⟨6, g6, .var [.int .u32 (N x0), .int .u32 (N x1), .int .u32 (N x2), .int .u32 (N x3), .int .u32 (N x4), .int .u32 (N x5), .int .u32 (N x6), .int .u32 (N x7)]⟩], c⟩ =
    iter (ev Φ K b37_0) [2, 4, 6, 10] [2, 4, 6] k ⟨[(2, .ptr 2 g2 0), (4, .ptr 4 g4 0), (6, .ptr 6 g6 0), (10, .int .i64 1)], [⟨2, g2, .var [.int .u32 (N (u0 + x0)), .int .u32 (N u1), .int .u32 (N u2), .int .u32 (N u3), .int .u32 (N u4), .int .u32 (N u5), .int .u32 (N u6), .int .u32 (N u7)]⟩, ⟨4, g4, B⟩, ⟨6, g6, .var [.int .u32 (N x0), .int .u32 (N x1), .int .u32 (N x2), .int .u32 (N x3), .int .u32 (N x4), .int .u32 (N x5), .int .u32 (N x6), .int .u32 (N x7)]⟩], c⟩ := by
  have w1 : IntKind.i64.wrap 1 = 1 := wrap_i64 _ (by omega) (by omega)
  apply iter_norm
  simp -implicitDefEqProofs [b37_0, St.keep, hg2, hg6, w1, abin]
theorem step21a1 (Φ : Nat → Option FnF) (K : Nat) (g2 g4 g6 c k : Nat) (B : Blk) (u0 u1 u2 u3 u4 u5 u6 u7 x0 x1 x2 x3 x4 x5 x6 x7 : W) (hg2 : g2 < c) (hg6 : g6 < c) :
    iter (ev Φ K b37_0) [2, 4, 6, 10] [2, 4, 6] (k + 1) ⟨[(2, .ptr 2 g2 0), (4, .ptr 4 g4 0), (6, .ptr 6 g6 0), (10, .int .i64 1)], [⟨2, g2, .var [.int .u32 (N (u0 + x0)), .int .u32 (N u1), .int .u32 (N u2), .int .u32 (N u3), .int .u32 (N u4), .int .u32 (N u5), .int .u32 (N u6), .int .u32 (N u7)]⟩, ⟨4, g4, B⟩, ⟨6, g6, .var [.int .u32 (N x0), .int .u32 (N x1), .int .u32 (N x2), .int .u32 (N x3), .int .u32 (N x4), .int .u32 (N x5), .int .u32 (N x6), .int .u32 (N x7)]⟩], c⟩ =
    iter (ev Φ K b37_0) [2, 4, 6, 10] [2, 4, 6] k ⟨[(2, .ptr 2 g2 0), (4, .ptr 4 g4 0), (6, .ptr 6 g6 0), (10, .int .i64 2)], [⟨2, g2, .var [.int .u32 (N (u0 + x0)), .int .u32 (N (u1 + x1)), .int .u32 (N u2), .int .u32 (N u3), .int .u32 (N u4), .int .u32 (N u5), .int .u32 (N u6), .int .u32 (N u7)]⟩, ⟨4, g4, B⟩, ⟨6, g6, .var [.int .u32 (N x0), .int .u32 (N x1), .int .u32 (N x2), .int .u32 (N x3), .int .u32 (N x4), .int .u32 (N x5), .int .u32 (N x6), .int .u32 (N x7)]⟩], c⟩ := by
  have w1 : IntKind.i64.wrap 2 = 2 := wrap_i64 _ (by omega) (by omega)
  apply iter_norm
  simp -implicitDefEqProofs [b37_0, St.keep, hg2, hg6, w1, abin]
theorem step21a2 (Φ : Nat → Option FnF) (K : Nat) (g2 g4 g6 c k : Nat) (B : Blk) (u0 u1 u2 u3 u4 u5 u6 u7 x0 x1 x2 x3 x4 x5 x6 x7 : W) (hg2 : g2 < c) (hg6 : g6 < c) :
    iter (ev Φ K b37_0) [2, 4, 6, 10] [2, 4, 6] (k + 1) ⟨[(2, .ptr 2 g2 0), (4, .ptr 4 g4 0), (6, .ptr 6 g6 0), (10, .int .i64 2)], [⟨2, g2, .var [.int .u32 (N (u0 + x0)), .int .u32 (N (u1 + x1)), .int .u32 (N u2), .int .u32 (N u3), .int .u32 (N u4), .int .u32 (N u5), .int .u32 (N u6), .int .u32 (N u7)]⟩, ⟨4, g4, B⟩, ⟨6, g6, .var [.int .u32 (N x0), .int .u32 (N x1), .int .u32 (N x2), .int .u32 (N x3), .int .u32 (N x4), .int .u32 (N x5), .int .u32 (N x6), .int .u32 (N x7)]⟩], c⟩ =
    iter (ev Φ K b37_0) [2, 4, 6, 10] [2, 4, 6] k ⟨[(2, .ptr 2 g2 0), (4, .ptr 4 g4 0), (6, .ptr 6 g6 0), (10, .int .i64 3)], [⟨2, g2, .var [.int .u32 (N (u0 + x0)), .int .u32 (N (u1 + x1)), .int .u32 (N (u2 + x2)), .int .u32 (N u3), .int .u32 (N u4), .int .u32 (N u5), .int .u32 (N u6), .int .u32 (N u7)]⟩, ⟨4, g4, B⟩, ⟨6, g6, .var [.int .u32 (N x0), .int .u32 (N x1), .int .u32 (N x2), .int .u32 (N x3), .int .u32 (N x4), .int .u32 (N x5), .int .u32 (N x6), .int .u32 (N x7)]⟩], c⟩ := by
  have w1 : IntKind.i64.wrap 3 = 3 := wrap_i64 _ (by omega) (by omega)
  apply iter_norm
  simp -implicitDefEqProofs [b37_0, St.keep, hg2, hg6, w1, abin]
theorem step21a3 (Φ : Nat → Option FnF) (K : Nat) (g2 g4 g6 c k : Nat) (B : Blk) (u0 u1 u2 u3 u4 u5 u6 u7 x0 x1 x2 x3 x4 x5 x6 x7 : W) (hg2 : g2 < c) (hg6 : g6 < c) :
    iter (ev Φ K b37_0) [2, 4, 6, 10] [2, 4, 6] (k + 1) ⟨[(2, .ptr 2 g2 0), (4, .ptr 4 g4 0), (6, .ptr 6 g6 0), (10, .int .i64 3)], [⟨2, g2, .var [.int .u32 (N (u0 + x0)), .int .u32 (N (u1 + x1)), .int .u32 (N (u2 + x2)), .int .u32 (N u3), .int .u32 (N u4), .int .u32 (N u5), .int .u32 (N u6), .int .u32 (N u7)]⟩, ⟨4, g4, B⟩, ⟨6, g6, .var [.int .u32 (N x0), .int .u32 (N x1), .int .u32 (N x2), .int .u32 (N x3), .int .u32 (N x4), .int .u32 (N x5), .int .u32 (N x6), .int .u32 (N x7)]⟩], c⟩ =
    iter (ev Φ K b37_0) [2, 4, 6, 10] [2, 4, 6] k ⟨[(2, .ptr 2 g2 0), (4, .ptr 4 g4 0), (6, .ptr 6 g6 0), (10, .int .i64 4)], [⟨2, g2, .var [.int .u32 (N (u0 + x0)), .int .u32 (N (u1 + x1)), .int .u32 (N (u2 + x2)), .int .u32 (N (u3 + x3)), .int .u32 (N u4), .int .u32 (N u5), .int .u32 (N u6), .int .u32 (N u7)]⟩, ⟨4, g4, B⟩, ⟨6, g6, .var [.int .u32 (N x0), .int .u32 (N x1), .int .u32 (N x2), .int .u32 (N x3), .int .u32 (N x4), .int .u32 (N x5), .int .u32 (N x6), .int .u32 (N x7)]⟩], c⟩ := by
  have w1 : IntKind.i64.wrap 4 = 4 := wrap_i64 _ (by omega) (by omega)
  apply iter_norm
  simp -implicitDefEqProofs [b37_0, St.keep, hg2, hg6, w1, abin]
theorem step21a4 (Φ : Nat → Option FnF) (K : Nat) (g2 g4 g6 c k : Nat) (B : Blk) (u0 u1 u2 u3 u4 u5 u6 u7 x0 x1 x2 x3 x4 x5 x6 x7 : W) (hg2 : g2 < c) (hg6 : g6 < c) :
    iter (ev Φ K b37_0) [2, 4, 6, 10] [2, 4, 6] (k + 1) ⟨[(2, .ptr 2 g2 0), (4, .ptr 4 g4 0), (6, .ptr 6 g6 0), (10, .int .i64 4)], [⟨2, g2, .var [.int .u32 (N (u0 + x0)), .int .u32 (N (u1 + x1)), .int .u32 (N (u2 + x2)), .int .u32 (N (u3 + x3)), .int .u32 (N u4), .int .u32 (N u5), .int .u32 (N u6), .int .u32 (N u7)]⟩, ⟨4, g4, B⟩, ⟨6, g6, .var [.int .u32 (N x0), .int .u32 (N x1), .int .u32 (N x2), .int .u32 (N x3), .int .u32 (N x4), .int .u32 (N x5), .int .u32 (N x6), .int .u32 (N x7)]⟩], c⟩ =
    iter (ev Φ K b37_0) [2, 4, 6, 10] [2, 4, 6] k ⟨[(2, .ptr 2 g2 0), (4, .ptr 4 g4 0), (6, .ptr 6 g6 0), (10, .int .i64 5)], [⟨2, g2, .var [.int .u32 (N (u0 + x0)), .int .u32 (N (u1 + x1)), .int .u32 (N (u2 + x2)), .int .u32 (N (u3 + x3)), .int .u32 (N (u4 + x4)), .int .u32 (N u5), .int .u32 (N u6), .int .u32 (N u7)]⟩, ⟨4, g4, B⟩, ⟨6, g6, .var [.int .u32 (N x0), .int .u32 (N x1), .int .u32 (N x2), .int .u32 (N x3), .int .u32 (N x4), .int .u32 (N x5), .int .u32 (N x6), .int .u32 (N x7)]⟩], c⟩ := by
  have w1 : IntKind.i64.wrap 5 = 5 := wrap_i64 _ (by omega) (by omega)
  apply iter_norm
  simp -implicitDefEqProofs [b37_0, St.keep, hg2, hg6, w1, abin]
theorem step21a5 (Φ : Nat → Option FnF) (K : Nat) (g2 g4 g6 c k : Nat) (B : Blk) (u0 u1 u2 u3 u4 u5 u6 u7 x0 x1 x2 x3 x4 x5 x6 x7 : W) (hg2 : g2 < c) (hg6 : g6 < c) :
    iter (ev Φ K b37_0) [2, 4, 6, 10] [2, 4, 6] (k + 1) ⟨[(2, .ptr 2 g2 0), (4, .ptr 4 g4 0), (6, .ptr 6 g6 0), (10, .int .i64 5)], [⟨2, g2, .var [.int .u32 (N (u0 + x0)), .int .u32 (N (u1 + x1)), .int .u32 (N (u2 + x2)), .int .u32 (N (u3 + x3)), .int .u32 (N (u4 + x4)), .int .u32 (N u5), .int .u32 (N u6), .int .u32 (N u7)]⟩, ⟨4, g4, B⟩, ⟨6, g6, .var [.int .u32 (N x0), .int .u32 (N x1), .int .u32 (N x2), .int .u32 (N x3), .int .u32 (N x4), .int .u32 (N x5), .int .u32 (N x6), .int .u32 (N x7)]⟩], c⟩ =
    iter (ev Φ K b37_0) [2, 4, 6, 10] [2, 4, 6] k ⟨[(2, .ptr 2 g2 0), (4, .ptr 4 g4 0), (6, .ptr 6 g6 0), (10, .int .i64 6)], [⟨2, g2, .var [.int .u32 (N (u0 + x0)), .int .u32 (N (u1 + x1)), .int .u32 (N (u2 + x2)), .int .u32 (N (u3 + x3)), .int .u32 (N (u4 + x4)), .int .u32 (N (u5 + x5)), .int .u32 (N u6), .int .u32 (N u7)]⟩, ⟨4, g4, B⟩, ⟨6, g6, .var [.int .u32 (N x0), .int .u32 (N x1), .int .u32 (N x2), .int .u32 (N x3), .int .u32 (N x4), .int .u32 (N x5), .int .u32 (N x6), .int .u32 (N x7)]⟩], c⟩ := by
  have w1 : IntKind.i64.wrap 6 = 6 := wrap_i64 _ (by omega) (by omega)
  apply iter_norm
  simp -implicitDefEqProofs [b37_0, St.keep, hg2, hg6, w1, abin]
theorem step21a6 (Φ : Nat → Option FnF) (K : Nat) (g2 g4 g6 c k : Nat) (B : Blk) (u0 u1 u2 u3 u4 u5 u6 u7 x0 x1 x2 x3 x4 x5 x6 x7 : W) (hg2 : g2 < c) (hg6 : g6 < c) :
    iter (ev Φ K b37_0) [2, 4, 6, 10] [2, 4, 6] (k + 1) ⟨[(2, .ptr 2 g2 0), (4, .ptr 4 g4 0), (6, .ptr 6 g6 0), (10, .int .i64 6)], [⟨2, g2, .var [.int .u32 (N (u0 + x0)), .int .u32 (N (u1 + x1)), .int .u32 (N (u2 + x2)), .int .u32 (N (u3 + x3)), .int .u32 (N (u4 + x4)), .int .u32 (N (u5 + x5)), .int .u32 (N u6), .int .u32 (N u7)]⟩, ⟨4, g4, B⟩, ⟨6, g6, .var [.int .u32 (N x0), .int .u32 (N x1), .int .u32 (N x2), .int .u32 (N x3), .int .u32 (N x4), .int .u32 (N x5), .int .u32 (N x6), .int .u32 (N x7)]⟩], c⟩ =
    iter (ev Φ K b37_0) [2, 4, 6, 10] [2, 4, 6] k ⟨[(2, .ptr 2 g2 0), (4, .ptr 4 g4 0), (6, .ptr 6 g6 0), (10, .int .i64 7)], [⟨2, g2, .var [.int .u32 (N (u0 + x0)), .int .u32 (N (u1 + x1)), .int .u32 (N (u2 + x2)), .int .u32 (N (u3 + x3)), .int .u32 (N (u4 + x4)), .int .u32 (N (u5 + x5)), .int .u32 (N (u6 + x6)), .int .u32 (N u7)]⟩, ⟨4, g4, B⟩, ⟨6, g6, .var [.int .u32 (N x0), .int .u32 (N x1), .int .u32 (N x2), .int .u32 (N x3), .int .u32 (N x4), .int .u32 (N x5), .int .u32 (N x6), .int .u32 (N x7)]⟩], c⟩ := by
  have w1 : IntKind.i64.wrap 7 = 7 := wrap_i64 _ (by omega) (by omega)
  apply iter_norm
  simp -implicitDefEqProofs [b37_0, St.keep, hg2, hg6, w1, abin]
theorem step21a7 (Φ : Nat → Option FnF) (K : Nat) (g2 g4 g6 c k : Nat) (B : Blk) (u0 u1 u2 u3 u4 u5 u6 u7 x0 x1 x2 x3 x4 x5 x6 x7 : W) (hg2 : g2 < c) (hg6 : g6 < c) :
    iter (ev Φ K b37_0) [2, 4, 6, 10] [2, 4, 6] (k + 1) ⟨[(2, .ptr 2 g2 0), (4, .ptr 4 g4 0), (6, .ptr 6 g6 0), (10, .int .i64 7)], [⟨2, g2, .var [.int .u32 (N (u0 + x0)), .int .u32 (N (u1 + x1)), .int .u32 (N (u2 + x2)), .int .u32 (N (u3 + x3)), .int .u32 (N (u4 + x4)), .int .u32 (N (u5 + x5)), .int .u32 (N (u6 + x6)), .int .u32 (N u7)]⟩, ⟨4, g4, B⟩, ⟨6, g6, .var [.int .u32 (N x0), .int .u32 (N x1), .int .u32 (N x2), .int .u32 (N x3), .int .u32 (N x4), .int .u32 (N x5), .int .u32 (N x6), .int .u32 (N x7)]⟩], c⟩ =
    iter (ev Φ K b37_0) [2, 4, 6, 10] [2, 4, 6] k ⟨[(2, .ptr 2 g2 0), (4, .ptr 4 g4 0), (6, .ptr 6 g6 0), (10, .int .i64 8)], [⟨2, g2, .var [.int .u32 (N (u0 + x0)), .int .u32 (N (u1 + x1)), .int .u32 (N (u2 + x2)), .int .u32 (N (u3 + x3)), .int .u32 (N (u4 + x4)), .int .u32 (N (u5 + x5)), .int .u32 (N (u6 + x6)), .int .u32 (N (u7 + x7))]⟩, ⟨4, g4, B⟩, ⟨6, g6, .var [.int .u32 (N x0), .int .u32 (N x1), .int .u32 (N x2), .int .u32 (N x3), .int .u32 (N x4), .int .u32 (N x5), .int .u32 (N x6), .int .u32 (N x7)]⟩], c⟩ := by
  have w1 : IntKind.i64.wrap 8 = 8 := wrap_i64 _ (by omega) (by omega)
  apply iter_norm
  simp -implicitDefEqProofs [b37_0, St.keep, hg2, hg6, w1, abin]
theorem loop21a (Φ : Nat → Option FnF) (K : Nat) (g2 g4 g6 c k : Nat) (B : Blk) (u0 u1 u2 u3 u4 u5 u6 u7 x0 x1 x2 x3 x4 x5 x6 x7 : W) (hg2 : g2 < c) (hg6 : g6 < c) :
    iter (ev Φ K b37_0) [2, 4, 6, 10] [2, 4, 6] (k + 9) ⟨[(2, .ptr 2 g2 0), (4, .ptr 4 g4 0), (6, .ptr 6 g6 0), (10, .int .i64 0)], [⟨2, g2, .var [.int .u32 (N u0), .int .u32 (N u1), .int .u32 (N u2), .int .u32 (N u3), .int .u32 (N u4), .int .u32 (N u5), .int .u32 (N u6), .int .u32 (N u7)]⟩, ⟨4, g4, B⟩, ⟨6, g6, .var [.int .u32 (N x0), .int .u32 (N x1), .int .u32 (N x2), .int .u32 (N x3), .int .u32 (N x4), .int .u32 (N x5), .int .u32 (N x6), .int .u32 (N x7)]⟩], c⟩ =
    some (.exit 2, ⟨[(2, .ptr 2 g2 0), (4, .ptr 4 g4 0), (6, .ptr 6 g6 0), (10, .int .i64 8), (102, .int .i64 8), (103, .bool false)], [⟨2, g2, .var [.int .u32 (N (u0 + x0)), .int .u32 (N (u1 + x1)), .int .u32 (N (u2 + x2)), .int .u32 (N (u3 + x3)), .int .u32 (N (u4 + x4)), .int .u32 (N (u5 + x5)), .int .u32 (N (u6 + x6)), .int .u32 (N (u7 + x7))]⟩, ⟨4, g4, B⟩, ⟨6, g6, .var [.int .u32 (N x0), .int .u32 (N x1), .int .u32 (N x2), .int .u32 (N x3), .int .u32 (N x4), .int .u32 (N x5), .int .u32 (N x6), .int .u32 (N x7)]⟩], c⟩) := by
  rw [step21a0 Φ K g2 g4 g6 c (k + 8) B u0 u1 u2 u3 u4 u5 u6 u7 x0 x1 x2 x3 x4 x5 x6 x7 hg2 hg6]
  rw [step21a1 Φ K g2 g4 g6 c (k + 7) B u0 u1 u2 u3 u4 u5 u6 u7 x0 x1 x2 x3 x4 x5 x6 x7 hg2 hg6]
  rw [step21a2 Φ K g2 g4 g6 c (k + 6) B u0 u1 u2 u3 u4 u5 u6 u7 x0 x1 x2 x3 x4 x5 x6 x7 hg2 hg6]
  rw [step21a3 Φ K g2 g4 g6 c (k + 5) B u0 u1 u2 u3 u4 u5 u6 u7 x0 x1 x2 x3 x4 x5 x6 x7 hg2 hg6]
  rw [step21a4 Φ K g2 g4 g6 c (k + 4) B u0 u1 u2 u3 u4 u5 u6 u7 x0 x1 x2 x3 x4 x5 x6 x7 hg2 hg6]
  rw [step21a5 Φ K g2 g4 g6 c (k + 3) B u0 u1 u2 u3 u4 u5 u6 u7 x0 x1 x2 x3 x4 x5 x6 x7 hg2 hg6]
  rw [step21a6 Φ K g2 g4 g6 c (k + 2) B u0 u1 u2 u3 u4 u5 u6 u7 x0 x1 x2 x3 x4 x5 x6 x7 hg2 hg6]
  rw [step21a7 Φ K g2 g4 g6 c (k + 1) B u0 u1 u2 u3 u4 u5 u6 u7 x0 x1 x2 x3 x4 x5 x6 x7 hg2 hg6]
  rw [iter_succ]
  simp -implicitDefEqProofs [b37_0, abin]
theorem vc_len (v : V8) : (vc v).length = 8 := rfl
theorem vc_plain (v : V8) : (vc v).all AV.plain = true := rfl
theorem z39_len : z63.length = 8 := rfl
theorem z39_drop : z63.drop 8 = [] := rfl
theorem block21 (n : Nat) (x : Bool) (l : List UInt8) (hl : l.length = 64) (v : V8) : E (n + 3) 37 [.agg (vc v), .ro x 1 (byteRows l)] = some (.agg (vc (blk l v)), []) := by
  rw [e37]
  have hw := words24 n x l hl
  have lb := loop21 (n + 1) 3000 0 1 2 3 4 (.var (vc v)) (.var z63) l v (by omega) (by omega) 64 0 3000 (by omega) (by omega)
  rw [cmp_0] at lb
  have hblk : blk l v = add8 v (cmp (wf l) 64 v) := rfl
  rw [hblk]
  have wl := ws_len (RW l 64)
  have wp := ws_plain (RW l 64)
  have rl : (RW l 64).length = 64 := ar_len _ _
  rw [rl] at wl
  generalize ws (RW l 64) = D at *
  generalize cmp (wf l) 64 v = V at *
  have vl := vc_len v
  have vp := vc_plain v
  have vt : (vc v).take 8 = vc v := List.take_of_length_le (by omega)
  have la : ∀ k, iter (ev (Q (n + 2)) 3000 b37_0) [2, 4, 6, 10] [2, 4, 6] (k + 9) ⟨[(2, .ptr 2 0 0), (4, .ptr 4 1 0), (6, .ptr 6 3 0), (10, .int .i64 0)], [⟨2, 0, .var (vc v)⟩, ⟨4, 1, .var z63⟩, ⟨6, 3, .var (vc V)⟩], 4⟩ =
    some (.exit 2, ⟨[(2, .ptr 2 0 0), (4, .ptr 4 1 0), (6, .ptr 6 3 0), (10, .int .i64 8), (102, .int .i64 8), (103, .bool false)], [⟨2, 0, .var (vc (add8 v V))⟩, ⟨4, 1, .var z63⟩, ⟨6, 3, .var (vc V)⟩], 4⟩) := fun k => loop21a (Q (n + 2)) 3000 0 1 3 4 k (.var z63) v.v0 v.v1 v.v2 v.v3 v.v4 v.v5 v.v6 v.v7 V.v0 V.v1 V.v2 V.v3 V.v4 V.v5 V.v6 V.v7 (by omega) (by omega)
  have dt : D.take 64 = D := List.take_of_length_le (by omega)
  have rlen := vc_len (add8 v V)
  have rp := vc_plain (add8 v V)
  have rt : (vc (add8 v V)).take 8 = vc (add8 v V) := List.take_of_length_le (by omega)
  generalize vc (add8 v V) = R at *
  generalize vc v = C at *
  generalize vc V = C2 at *
  have hb : ∃ e, ev (Q (n + 2)) 3000 a37.code ⟨[(0, .agg C), (1, .ro x 1 (byteRows l))], [], 0⟩ = some (.ret, ⟨(2, .ptr 2 0 0) :: (4, .ptr 4 1 0) :: e, [⟨2, 0, .var R⟩, ⟨4, 1, .var R⟩], 4⟩) := by
    refine ⟨[(115, .agg R)], ?_⟩
    rw [show a37.code = Tryd.c37 from rfl, Tryd.c37]
    refine ev_seqN (s1 := ⟨[(0, .agg C), (1, .ro x 1 (byteRows l)), (2, .ptr 2 0 0), (4, .ptr 4 1 0)], [⟨2, 0, .var C⟩, ⟨4, 1, .var z63⟩], 2⟩) (by simp [plains_cells vp]) ?_
    refine ev_seqN (s1 := ⟨[(0, .agg C), (1, .ro x 1 (byteRows l)), (2, .ptr 2 0 0), (4, .ptr 4 1 0), (5, .ptr 5 2 0), (11, .ro x 1 (byteRows l)), (12, .agg D)], [⟨2, 0, .var C⟩, ⟨4, 1, .var z63⟩, ⟨5, 2, .var D⟩], 3⟩) (by simp [q44, hw, wl, z50_len, z50_drop, plains_cells wp, plains_in wp]) ?_
    refine ev_keepN ?_
    refine ev_seqN (s1 := ⟨[(2, .ptr 2 0 0), (4, .ptr 4 1 0), (5, .ptr 5 2 0), (6, .ptr 6 3 0), (13, .agg C)], [⟨2, 0, .var C⟩, ⟨4, 1, .var z63⟩, ⟨5, 2, .var D⟩, ⟨6, 3, .var C⟩], 4⟩) (by simp [vl, vt, z39_len, z39_drop, plains_cells vp]) ?_
    refine ev_seqN (ev_loopN (by simp [St.keep]) lb) ?_
    refine ev_keepN ?_
    refine ev_seqN (ev_loopN (by simp [St.keep]) (la 2991)) ?_
    refine ev_keepN ?_
    simp -implicitDefEqProofs [rlen, rt, z39_len, z39_drop, plains_cells rp]
  obtain ⟨e, hb⟩ := hb
  refine fun_of (q := ([.agg C, .ro x 1 (byteRows l)], [], 0)) (by simp [a37]) (by simp [plains_in vp]) hb (.inr rfl) ?_
  simp -implicitDefEqProofs [a37, rlen, rt, plains_mv rp]
end Go.Abs.Tryd

namespace Go.Abs.Tryd
open Go Go.Abs Go.Proofs Go.Abs.Sha
set_option maxHeartbeats 64000000
set_option maxRecDepth 100000
set_option linter.unusedSimpArgs false
set_option linter.unusedVariables false
/-- the name of the message's array: of the text's bytes, or of the first byte behind an empty text -/
def nm20 : Bool → Nat
  | true => 8
  | false => 11
theorem step20a (Φ : Nat → Option FnF) (K : Nat) (b : Bool) (s : ByteArray) (g c k : Nat) (P : List UInt8) (hP : P.length ≤ 200000) (h56 : P.length % 64 ≠ 56) :
    iter (ev Φ K b36_1) [0, 3] [8, 11, 18, 34] (k + 1) ⟨[(0, .str s), (3, .own (nm20 b) g 0 P.length)], [⟨nm20 b, g, .arr 1 (byteRows P) false⟩], c⟩ =
    iter (ev Φ K b36_1) [0, 3] [8, 11, 18, 34] k ⟨[(0, .str s), (3, .own (nm20 b) (c + 1) 0 (P ++ [0]).length)], [⟨nm20 b, c + 1, .arr 1 (byteRows (P ++ [0])) false⟩], c + 2⟩ := by
  have t1 : ((P.length : Int).tmod 64 == 56) = false := by rw [Int.tmod_eq_emod_of_nonneg (by omega), beq_eq_false_iff_ne]; omega
  have t2 : ((P.length : Int).tmod 64 != 56) = true := by simp [bne, t1]
  have rl := rows_len P
  have tk : (byteRows P).take P.length = byteRows P := List.take_of_length_le (by omega)
  have ea : byteRows (P ++ [0]) = byteRows P ++ [[AV.int .u8 0]] := by simp [byteRows]
  have l1 : P.length + 1 ≤ 17592186044416 := by omega
  have l2 : ¬ P.length + 1 ≤ P.length := by omega
  have l3 : P.length ≤ 17592186044415 := by omega
  rw [ea]
  apply iter_norm
  cases b <;> simp -implicitDefEqProofs [b36_1, St.keep, nm20, t1, t2, rl, tk, aappend, maxBytes, abin, l1, l2, l3]
theorem loop20a (Φ : Nat → Option FnF) (K : Nat) (b : Bool) (s : ByteArray) : ∀ (d : Nat) (P : List UInt8) (g c k : Nat), P.length + d ≤ 200000 → (P.length + d) % 64 = 56 → d < 64 → d < k →
    ∃ e g' c', iter (ev Φ K b36_1) [0, 3] [8, 11, 18, 34] k ⟨[(0, .str s), (3, .own (nm20 b) g 0 P.length)], [⟨nm20 b, g, .arr 1 (byteRows P) false⟩], c⟩ =
      some (.exit 0, ⟨(0, .str s) :: (3, .own (nm20 b) g' 0 (P ++ List.replicate d 0).length) :: e, [⟨nm20 b, g', .arr 1 (byteRows (P ++ List.replicate d 0)) false⟩], c'⟩) ∧ (∀ x ∈ e, 10 ≤ x.1)
  | d, P, g, c, 0, hP, h56, hd, hk => by omega
  | 0, P, g, c, k + 1, hP, h56, hd, hk => by
    rw [List.replicate_zero, List.append_nil]
    have t1 : ((P.length : Int).tmod 64) = 56 := by rw [Int.tmod_eq_emod_of_nonneg (by omega)]; omega
    rw [iter_succ]
    cases b
    · refine ⟨[(12, .own 11 g 0 P.length), (13, .int .i64 P.length), (14, .int .i64 56), (15, .bool false)], g, c, ?_, by simp⟩
      simp -implicitDefEqProofs [b36_1, nm20, t1, abin]
    · refine ⟨[(12, .own 8 g 0 P.length), (13, .int .i64 P.length), (14, .int .i64 56), (15, .bool false)], g, c, ?_, by simp⟩
      simp -implicitDefEqProofs [b36_1, nm20, t1, abin]
  | d + 1, P, g, c, k + 1, hP, h56, hd, hk => by
    rw [step20a Φ K b s g c k P (by omega) (by omega)]
    have e : P ++ List.replicate (d + 1) 0 = (P ++ [0]) ++ List.replicate d 0 := by rw [List.replicate_succ]; simp
    rw [e]
    exact loop20a Φ K b s d (P ++ [0]) _ _ k (by simp; omega) (by simp; omega) (by omega) (by omega)
theorem step20b (Φ : Nat → Option FnF) (K : Nat) (b : Bool) (g c k x j : Nat) (hj : j < 8) (P : List UInt8) (hP : P.length ≤ 200000) :
    iter (ev Φ K b36_0) [3, 4, 5] [8, 11, 18, 34] (k + 1) ⟨[(3, .own (nm20 b) g 0 P.length), (4, .int .u64 x), (5, .int .i64 (7 - (j : Int)))], [⟨nm20 b, g, .arr 1 (byteRows P) false⟩], c⟩ =
    iter (ev Φ K b36_0) [3, 4, 5] [8, 11, 18, 34] k ⟨[(3, .own (nm20 b) (c + 1) 0 (P ++ [UInt8.ofNat (x / 2 ^ (56 - 8 * j))]).length), (4, .int .u64 x), (5, .int .i64 (7 - ((j + 1 : Nat) : Int)))], [⟨nm20 b, c + 1, .arr 1 (byteRows (P ++ [UInt8.ofNat (x / 2 ^ (56 - 8 * j))])) false⟩], c + 2⟩ := by
  have h1 : (0 : Int) ≤ 7 - (j : Int) := by omega
  have w1 : IntKind.i64.wrap (7 - (j : Int) - 1) = 7 - ((j + 1 : Nat) : Int) := by rw [wrap_i64 _ (by omega) (by omega)]; omega
  have w2 : IntKind.i64.wrap (8 * (7 - (j : Int))) = ((56 - 8 * j : Nat) : Int) := by rw [wrap_i64 _ (by omega) (by omega)]; omega
  have m1 : min (56 - 8 * j) 64 = 56 - 8 * j := by omega
  generalize 56 - 8 * j = e at *
  have n1 : ¬ (e : Int) < 0 := by omega
  have f1 := fdiv_pow x e
  have b1 := byte_shr x e
  have rl := rows_len P
  have tk : (byteRows P).take P.length = byteRows P := List.take_of_length_le (by omega)
  have ea : byteRows (P ++ [UInt8.ofNat (x / 2 ^ e)]) = byteRows P ++ [[AV.int .u8 ((UInt8.ofNat (x / 2 ^ e)).toNat : Nat)]] := by simp [byteRows]
  have l1 : P.length + 1 ≤ 17592186044416 := by omega
  have l2 : ¬ P.length + 1 ≤ P.length := by omega
  have l3 : P.length ≤ 17592186044415 := by omega
  rw [ea]
  generalize 7 - ((j + 1 : Nat) : Int) = q1 at *
  generalize 7 - (j : Int) = q0 at *
  generalize (UInt8.ofNat (x / 2 ^ e)) = bb at *
  generalize ((x / 2 ^ e : Nat) : Int) = yy at *
  apply iter_norm
  cases b <;> simp -implicitDefEqProofs [b36_0, St.keep, nm20, h1, w1, w2, m1, n1, f1, b1, rl, tk, aappend, maxBytes, abin, l1, l2, l3]
theorem loop20b (Φ : Nat → Option FnF) (K : Nat) (b : Bool) (x : Nat) (P : List UInt8) (hP : P.length ≤ 199000) : ∀ (d j k g c : Nat), j + d = 8 → d < k →
    ∃ e g' c', iter (ev Φ K b36_0) [3, 4, 5] [8, 11, 18, 34] k ⟨[(3, .own (nm20 b) g 0 (P ++ (be8 x).take j).length), (4, .int .u64 x), (5, .int .i64 (7 - (j : Int)))], [⟨nm20 b, g, .arr 1 (byteRows (P ++ (be8 x).take j)) false⟩], c⟩ =
      some (.exit 2, ⟨(3, .own (nm20 b) g' 0 (P ++ be8 x).length) :: e, [⟨nm20 b, g', .arr 1 (byteRows (P ++ be8 x)) false⟩], c'⟩) ∧ e = [(4, .int .u64 x), (5, .int .i64 (-1)), (23, .int .i64 (-1)), (24, .bool false)]
  | 0, j, 0, g, c, hi, hk => by omega
  | 0, j, k + 1, g, c, hi, hk => by
    obtain rfl : j = 8 := by omega
    rw [List.take_of_length_le (l := be8 x) (by rw [be8_len]; omega)]
    refine ⟨_, g, c, ?_, rfl⟩
    rw [iter_succ]
    cases b <;> simp -implicitDefEqProofs [b36_0, nm20, abin]
  | d + 1, j, 0, g, c, hi, hk => by omega
  | d + 1, j, k + 1, g, c, hi, hk => by
    have hb : j < (be8 x).length := by rw [be8_len]; omega
    have e1 : (be8 x).take (j + 1) = (be8 x).take j ++ [UInt8.ofNat (x / 2 ^ (56 - 8 * j))] := by
      rw [List.take_add_one, List.getElem?_eq_getElem hb]
      simp [be8]
    rw [step20b Φ K b g c k x j (by omega) (P ++ (be8 x).take j) (by rw [List.length_append, List.length_take, be8_len]; omega)]
    rw [List.append_assoc, ← e1]
    exact loop20b Φ K b x P hP d (j + 1) k _ _ (by omega) (by omega)
end Go.Abs.Tryd

namespace Go.Abs.Tryd
open Go Go.Abs Go.Proofs Go.Abs.Sha
set_option maxHeartbeats 64000000
set_option maxRecDepth 100000
set_option linter.unusedSimpArgs false
set_option linter.unusedVariables false
theorem zeros_56 (n : Nat) : (n + 1 + zeros n) % 64 = 56 ∧ zeros n < 64 := by unfold zeros; omega
/-- the way behind the first two appendings -/
theorem msg_tail (Φ : Nat → Option FnF) (b : Bool) (l : List UInt8) (hl : l.length ≤ 100000) (g c : Nat) (code : AC)
    (hcode : Tryd.c36 = .seq (.reg false [{ dst := some 2, op := .mov (.c .nilS) }]) (.seq (.reg false [{ dst := some 3, op := .mov (.c .nilS) }])
      (.seq (.reg false [{ dst := some 6, op := .mov (.t 3) }, { dst := some 7, op := .mov (.t 0) }, { dst := some 8, op := .app 8 1 1 (.t 6) (.t 7) }, { dst := some 3, op := .mov (.t 8) }])
      (.keep [0, 3] [8, 11, 18, 34] (.seq (.reg false [{ dst := some 9, op := .mov (.t 3) }, { dst := some 10, op := .bslice 10 1 [(.int .u8 0)] 1 [(0, (.c (.int .u8 128)))] }, { dst := some 11, op := .app 11 1 1 (.t 9) (.t 10) }, { dst := some 3, op := .mov (.t 11) }])
      (.keep [0, 3] [8, 11, 18, 34] code))))))
    : ∃ e g' c', ev Φ 3000 code ⟨[(0, .str ⟨l.toArray⟩), (3, .own (nm20 b) g 0 (l ++ [128]).length)], [⟨nm20 b, g, .arr 1 (byteRows (l ++ [128])) false⟩], c⟩ =
      some (.ret, ⟨(2, .own (nm20 b) g' 0 (l ++ pad l.length).length) :: e, [⟨nm20 b, g', .arr 1 (byteRows (l ++ pad l.length)) false⟩], c'⟩) := by
  obtain rfl : code = (.seq (.block 0 (.loop [0, 3] [8, 11, 18, 34] b36_1)) (.keep [0, 3] [8, 11, 18, 34] (.seq (.reg false [
    { dst := some 19, op := .mov (.t 0) },
    { dst := some 20, op := .lenS (.t 19) },
    { dst := some 21, op := .conv .u64 (.t 20) },
    { dst := some 22, op := .bin .mul (.t 21) (.c (.int .u64 8)) },
    { dst := some 4, op := .mov (.t 22) }])
  (.keep [3, 4] [8, 11, 18, 34] ((.seq ((.seq (.reg false [
    { dst := some 5, op := .mov (.c (.int .i64 7)) }])
  (.block 2 (.loop [3, 4, 5] [8, 11, 18, 34] b36_0))))
  (.keep [3] [8, 11, 18, 34] ((.seq (.reg false [
    { dst := some 35, op := .mov (.t 3) },
    { dst := some 2, op := .mov (.t 35) }])
  (.ret)))))))))) := by
    unfold Tryd.c36 at hcode
    injection hcode with _ h1
    injection h1 with _ h2
    injection h2 with _ h3
    injection h3 with _ _ h4
    injection h4 with _ h5
    injection h5 with _ _ h6
    exact h6.symm
  obtain ⟨z56, z64⟩ := zeros_56 l.length
  obtain ⟨e1, g1, c1, la, he1⟩ := loop20a Φ 3000 b ⟨l.toArray⟩ (zeros l.length) (l ++ [128]) g c 3000 (by simp; omega) (by simp; omega) z64 (by omega)
  have epad : l ++ pad l.length = (l ++ [128] ++ List.replicate (zeros l.length) 0) ++ be8 (l.length * 8) := by simp [pad]
  rw [epad]
  have hPl : (l ++ [128] ++ List.replicate (zeros l.length) 0).length ≤ 199000 := by simp; omega
  obtain ⟨e2, g2, c2, lb, he2⟩ := loop20b Φ 3000 b (l.length * 8) _ hPl 8 0 3000 g1 c1 (by omega) (by omega)
  have sz := size_of l
  generalize (l ++ [128] ++ List.replicate (zeros l.length) 0) = P at *
  rw [List.take_zero, List.append_nil] at lb
  have w1 : IntKind.u64.wrap (l.length : Int) = l.length := by rw [wrap_u64]; omega
  have w2 : IntKind.u64.wrap ((l.length : Int) * 8) = (l.length : Int) * 8 := by rw [wrap_u64]; omega
  generalize byteRows P = R at *
  generalize byteRows (P ++ be8 (l.length * 8)) = R2 at *
  generalize (P ++ be8 (l.length * 8)).length = n2 at *
  have eo : envOnly [0, 3] ((0, AV.str ⟨l.toArray⟩) :: (3, .own (nm20 b) g1 0 P.length) :: e1) = [(0, .str ⟨l.toArray⟩), (3, .own (nm20 b) g1 0 P.length)] := by
    have : ∀ e : Env, (∀ x ∈ e, 10 ≤ x.1) → envOnly [0, 3] e = [] := by
      intro e he
      induction e with
      | nil => rfl
      | cons x r ih =>
        have hx := he x List.mem_cons_self
        obtain ⟨m, u⟩ := x
        simp only at hx
        simp [envOnly, show ¬ m = 0 by omega, show ¬ m = 3 by omega, ih fun y hy => he y (List.mem_cons_of_mem _ hy)]
    simp [envOnly, this e1 he1]
  have blk1 : ev Φ 3000 (.block 0 (.loop [0, 3] [8, 11, 18, 34] b36_1)) ⟨[(0, .str ⟨l.toArray⟩), (3, .own (nm20 b) g 0 (l ++ [128]).length)], [⟨nm20 b, g, .arr 1 (byteRows (l ++ [128])) false⟩], c⟩ =
      some (.normal, ⟨(0, .str ⟨l.toArray⟩) :: (3, .own (nm20 b) g1 0 P.length) :: e1, [⟨nm20 b, g1, .arr 1 R false⟩], c1⟩) := by
    rw [ev, ev, la]; rfl
  refine ⟨[(3, .own (nm20 b) g2 0 n2), (35, .own (nm20 b) g2 0 n2)], g2, c2, ?_⟩
  refine ev_seqN blk1 ?_
  refine ev_keepN ?_
  rw [eo]
  refine ev_seqN (s1 := ⟨[(0, .str ⟨l.toArray⟩), (3, .own (nm20 b) g1 0 P.length), (4, .int .u64 ((l.length * 8 : Nat) : Int)), (19, .str ⟨l.toArray⟩), (20, .int .i64 l.length), (21, .int .u64 l.length), (22, .int .u64 ((l.length * 8 : Nat) : Int))], [⟨nm20 b, g1, .arr 1 R false⟩], c1⟩) (by cases b <;> simp [nm20, sz, w1, w2, abin]) ?_
  refine ev_keepN ?_
  refine ev_seqN (ev_loopN (by cases b <;> simp [St.keep, nm20]) lb) ?_
  refine ev_keepN ?_
  subst he2
  cases b <;> simp [nm20]
theorem message20 (n : Nat) (l : List UInt8) (hl : l.length ≤ 100000) : E (n + 1) 36 [.str ⟨l.toArray⟩] = some (.fr 1 (byteRows (l ++ pad l.length)), []) := by
  rw [e36]
  have fin : ∀ (b : Bool) (e : Env) (g c : Nat) (st : St), ev (Q n) 3000 a36.code ⟨[(0, .str ⟨l.toArray⟩)], [], 0⟩ = some (.ret, ⟨(2, .own (nm20 b) g 0 (l ++ pad l.length).length) :: e, [⟨nm20 b, g, .arr 1 (byteRows (l ++ pad l.length)) false⟩], c⟩) → evFun (Q n) 3000 a36 [.str ⟨l.toArray⟩] = some (.fr 1 (byteRows (l ++ pad l.length)), []) := by
    intro b e g c _ h
    have rl := rows_len (l ++ pad l.length)
    have tk : (byteRows (l ++ pad l.length)).take (l ++ pad l.length).length = byteRows (l ++ pad l.length) := List.take_of_length_le (by omega)
    generalize (l ++ pad l.length) = M at *
    refine fun_of (q := ([.str ⟨l.toArray⟩], [], 0)) (by simp [a36]) (by simp) h (.inr rfl) ?_
    cases b <;> simp [a36, nm20, rl, tk]
  have rb : byteRows (l ++ [128]) = byteRows l ++ [[.int .u8 128]] := by simp [byteRows]
  have rl := rows_len l
  have tk : (byteRows l).take l.length = byteRows l := List.take_of_length_le (by omega)
  cases l with
  | nil =>
    obtain ⟨e, g, c, h⟩ := msg_tail (Q n) false [] (by simp) 1 2 _ rfl
    refine fin false e g c ⟨[], [], 0⟩ ?_
    rw [show a36.code = Tryd.c36 from rfl, Tryd.c36]
    refine ev_seqN (s1 := ⟨[(0, .str ⟨#[]⟩), (2, .nilS)], [], 0⟩) (by simp) ?_
    refine ev_seqN (s1 := ⟨[(0, .str ⟨#[]⟩), (2, .nilS), (3, .nilS)], [], 0⟩) (by simp) ?_
    refine ev_seqN (s1 := ⟨[(0, .str ⟨#[]⟩), (2, .nilS), (3, .nilS), (6, .nilS), (7, .str ⟨#[]⟩), (8, .nilS)], [], 0⟩) (by simp [aappend, byteRows]) ?_
    refine ev_keepN ?_
    refine ev_seqN (s1 := ⟨[(0, .str ⟨#[]⟩), (3, .own 11 1 0 1), (9, .nilS), (10, .own 10 0 0 1), (11, .own 11 1 0 1)], [⟨10, 0, .arr 1 [[.int .u8 128]] false⟩, ⟨11, 1, .arr 1 [[.int .u8 128]] false⟩], 2⟩) (by simp [aappend, maxBytes]) ?_
    refine ev_keepN ?_
    exact h
  | cons x l =>
    obtain ⟨e, g, c, h⟩ := msg_tail (Q n) true (x :: l) hl 2 3 _ rfl
    refine fin true e g c ⟨[], [], 0⟩ ?_
    have l1 : l.length ≤ 17592186044415 := by simp at hl; omega
    have l2 : l.length + 1 ≤ 17592186044415 := by simp at hl; omega
    have l3 : l.length + 1 + 1 ≤ 17592186044416 := by simp at hl; omega
    have l4 : ¬ l.length + 1 + 1 ≤ l.length + 1 := by omega
    have hb : byteRows (x :: l) = [.int .u8 x.toNat] :: byteRows l := rfl
    have rl2 := rows_len l
    have tk2 : (byteRows l).take l.length = byteRows l := List.take_of_length_le (by omega)
    rw [show a36.code = Tryd.c36 from rfl, Tryd.c36]
    refine ev_seqN (s1 := ⟨[(0, .str ⟨(x :: l).toArray⟩), (2, .nilS)], [], 0⟩) (by simp) ?_
    refine ev_seqN (s1 := ⟨[(0, .str ⟨(x :: l).toArray⟩), (2, .nilS), (3, .nilS)], [], 0⟩) (by simp) ?_
    refine ev_seqN (s1 := ⟨[(0, .str ⟨(x :: l).toArray⟩), (2, .nilS), (3, .own 8 0 0 (l.length + 1)), (6, .nilS), (7, .str ⟨(x :: l).toArray⟩), (8, .own 8 0 0 (l.length + 1))], [⟨8, 0, .arr 1 (byteRows (x :: l)) false⟩], 1⟩) (by simp [aappend, hb, rl2, maxBytes, l1]) ?_
    refine ev_keepN ?_
    refine ev_seqN (s1 := ⟨[(0, .str ⟨(x :: l).toArray⟩), (3, .own 8 2 0 (x :: l ++ [128]).length), (9, .own 8 0 0 (l.length + 1)), (10, .own 10 1 0 1), (11, .own 8 2 0 (x :: l ++ [128]).length)], [⟨8, 2, .arr 1 (byteRows (x :: l ++ [128])) false⟩, ⟨10, 1, .arr 1 [[.int .u8 128]] false⟩], 3⟩) (by rw [rb, hb]; simp [aappend, rl2, tk2, maxBytes, l1, l2, l3, l4]) ?_
    refine ev_keepN ?_
    exact h
end Go.Abs.Tryd

namespace Go.Abs.Tryd
open Go Go.Abs Go.Proofs Go.Abs.Sha
set_option maxHeartbeats 64000000
set_option maxRecDepth 100000
set_option linter.unusedSimpArgs false
set_option linter.unusedVariables false
theorem step11 (n K : Nat) (g2 g3 g c k : Nat) (A : Blk) (M : List UInt8) (hM : M.length ≤ 200000) (at' : Nat) (ha : at' + 64 ≤ M.length) (v : V8) (hg3 : g3 < c) (hg : g < c) :
    iter (ev (Q (n + 3)) K b25_1) [2, 3, 4, 5] [2, 3, 11000] (k + 1) ⟨[(2, .ptr 2 g2 0), (3, .ptr 3 g3 0), (4, .own 11000 g 0 M.length), (5, .int .i64 at')], [⟨2, g2, A⟩, ⟨3, g3, .var (vc v)⟩, ⟨11000, g, .arr 1 (byteRows M) false⟩], c⟩ =
    iter (ev (Q (n + 3)) K b25_1) [2, 3, 4, 5] [2, 3, 11000] k ⟨[(2, .ptr 2 g2 0), (3, .ptr 3 g3 0), (4, .own 11000 g 0 M.length), (5, .int .i64 (at' + 64 : Nat))], [⟨2, g2, A⟩, ⟨3, g3, .var (vc (blk (blkOf M at') v))⟩, ⟨11000, g, .arr 1 (byteRows M) false⟩], c⟩ := by
  have h1 : (at' : Int) < (M.length : Int) := by omega
  have w1 : IntKind.i64.wrap ((at' : Int) + 64) = (at' : Int) + 64 := wrap_i64 _ (by omega) (by omega)
  have rl := rows_len M
  have p0 : (0 : Int) ≤ (at' : Int) + 64 := by omega
  have p1 : (at' : Int) + 64 ≤ (M.length : Int) := by omega
  have p2 : ((at' : Int) + 64).toNat = at' + 64 := by omega
  have p3 : at' + 64 ≤ M.length := ha
  have p4 : at' ≤ at' + 64 := by omega
  have p5 : at' + (at' + 64 - at') ≤ M.length := by omega
  have p6 : at' + 64 - at' = 64 := by omega
  have sl : ((byteRows M).drop at').take 64 = byteRows (blkOf M at') := by rw [rows_drop, rows_take]; rfl
  have hb := block21 n true (blkOf M at') (by simp [blkOf]; omega) v
  have vl := vc_len v
  have vp := vc_plain v
  have vt : (vc v).take 8 = vc v := List.take_of_length_le (by omega)
  have ul := vc_len (blk (blkOf M at') v)
  have up := vc_plain (blk (blkOf M at') v)
  have vd : (vc v).drop 8 = [] := List.drop_eq_nil_of_le (by omega)
  generalize vc (blk (blkOf M at') v) = U at *
  generalize vc v = C at *
  generalize byteRows (blkOf M at') = B at *
  apply iter_norm
  simp -implicitDefEqProofs [b25_1, St.keep, h1, w1, rl, p0, p1, p2, p3, p4, p5, p6, sl, q37, hb, vl, vt, vd, ul, hg3, hg, plains_lend vp, plains_in up, plains_cells up, plains_low vp, plains_low up, abin]
theorem loop11 (n K : Nat) (g2 g3 g c : Nat) (A : Blk) (M : List UInt8) (hM : M.length ≤ 200000) (h64 : M.length % 64 = 0) (hg3 : g3 < c) (hg : g < c) : ∀ (d at' k : Nat) (v : V8), at' + 64 * d = M.length → d < k →
    iter (ev (Q (n + 3)) K b25_1) [2, 3, 4, 5] [2, 3, 11000] k ⟨[(2, .ptr 2 g2 0), (3, .ptr 3 g3 0), (4, .own 11000 g 0 M.length), (5, .int .i64 at')], [⟨2, g2, A⟩, ⟨3, g3, .var (vc v)⟩, ⟨11000, g, .arr 1 (byteRows M) false⟩], c⟩ =
    some (.exit 0, ⟨[(2, .ptr 2 g2 0), (3, .ptr 3 g3 0), (4, .own 11000 g 0 M.length), (5, .int .i64 M.length), (11, .int .i64 M.length), (12, .own 11000 g 0 M.length), (13, .int .i64 M.length), (14, .bool false)], [⟨2, g2, A⟩, ⟨3, g3, .var (vc (absorb (M.drop at') v).1)⟩, ⟨11000, g, .arr 1 (byteRows M) false⟩], c⟩)
  | 0, at', 0, v, hi, hk => by omega
  | 0, at', k + 1, v, hi, hk => by
    obtain rfl : at' = M.length := by omega
    rw [absorb_short v (by simp), iter_succ]
    generalize vc v = C
    simp -implicitDefEqProofs [b25_1, abin]
  | d + 1, at', 0, v, hi, hk => by omega
  | d + 1, at', k + 1, v, hi, hk => by
    rw [step11 n K g2 g3 g c k A M hM at' (by omega) v hg3 hg]
    have hl : 64 ≤ (M.drop at').length := by rw [List.length_drop]; omega
    rw [absorb_long v hl, List.drop_drop]
    exact loop11 n K g2 g3 g c A M hM h64 hg3 hg d (at' + 64) k _ (by omega) (by omega)
theorem step11d (Φ : Nat → Option FnF) (K : Nat) (g2 g3 g9 c k : Nat) (A : Blk) (C : List AV) (i : Nat) (hi : i < 32) (v : V8) (hC : ∀ j, j < 8 → C[j]? = some (.int .u32 (N (v.list.getD j 0)))) :
    iter (ev Φ K b25_0) [2, 3, 6, 7] [2, 3, 6] (k + 1) ⟨[(2, .ptr 2 g2 0), (3, .ptr 3 g3 0), (6, .ptr 6 g9 0), (7, .int .i64 i)], [⟨2, g2, A⟩, ⟨3, g3, .var C⟩, ⟨6, g9, .var (u8s (dgn v i))⟩], c⟩ =
    iter (ev Φ K b25_0) [2, 3, 6, 7] [2, 3, 6] k ⟨[(2, .ptr 2 g2 0), (3, .ptr 3 g3 0), (6, .ptr 6 g9 0), (7, .int .i64 (i + 1 : Nat))], [⟨2, g2, A⟩, ⟨3, g3, .var C⟩, ⟨6, g9, .var (u8s (dgn v (i + 1)))⟩], c⟩ := by
  have h1 : (i : Int) < 32 := by omega
  have w1 : IntKind.i64.wrap ((i : Int) + 1) = (i : Int) + 1 := wrap_i64 _ (by omega) (by omega)
  have q1 := quo4 i (by omega)
  have j1 : i / 4 < 8 := by omega
  have hc := hC (i / 4) j1
  have hc2 := (List.getElem?_eq_some_iff.1 hc).2
  have hc3 := (List.getElem?_eq_some_iff.1 hc).1
  have z1 : 0 ≤ ((i / 4 : Nat) : Int) := by omega
  have z2 : ((i / 4 : Nat) : Int).toNat = i / 4 := by omega
  have e4 : (i : Int).tmod 4 = ((i % 4 : Nat) : Int) := by rw [Int.tmod_eq_emod_of_nonneg (by omega)]; omega
  have w2 : IntKind.i64.wrap (8 * ((i % 4 : Nat) : Int)) = 8 * ((i % 4 : Nat) : Int) := wrap_i64 _ (by omega) (by omega)
  have w3 : IntKind.i64.wrap (24 - 8 * ((i % 4 : Nat) : Int)) = ((24 - 8 * (i % 4) : Nat) : Int) := by rw [wrap_i64 _ (by omega) (by omega)]; omega
  have m1 : min (24 - 8 * (i % 4)) 32 = 24 - 8 * (i % 4) := by omega
  have n1 : ¬ ((24 - 8 * (i % 4) : Nat) : Int) < 0 := by omega
  have hb : dgb v i = UInt8.ofNat ((v.list.getD (i / 4) 0).toNat / 2 ^ (24 - 8 * (i % 4))) := rfl
  have hp := bs_put (n := 32) (i := i) (f := fun j => if j < i then dgb v j else 0) (g := fun j => if j < i + 1 then dgb v j else 0) (x := dgb v i) hi (by simp) (by
    intro j hj hne
    by_cases hji : j < i
    · simp [hji, show j < i + 1 by omega]
    · simp [hji, show ¬ j < i + 1 by omega])
  rw [hb] at hp
  change List.take i (u8s (dgn v i)) ++ _ :: List.drop (i + 1) (u8s (dgn v i)) = u8s (dgn v (i + 1)) at hp
  have dl : (u8s (dgn v i)).length = 32 := by rw [u8s_len]; exact bs_len _ _
  generalize u8s (dgn v i) = D1 at *
  generalize u8s (dgn v (i + 1)) = D2 at *
  generalize v.list.getD (i / 4) 0 = y at *
  have f1 := fdiv_pow y.toNat (24 - 8 * (i % 4))
  have b1 := byte_shr y.toNat (24 - 8 * (i % 4))
  change (N y).fdiv _ = _ at f1
  generalize (UInt8.ofNat (y.toNat / 2 ^ (24 - 8 * (i % 4)))).toNat = bb at *
  generalize ((y.toNat / 2 ^ (24 - 8 * (i % 4)) : Nat) : Int) = yy at *
  generalize 24 - 8 * (i % 4) = e at *
  generalize ((i % 4 : Nat) : Int) = r4 at *
  generalize ((i / 4 : Nat) : Int) = u at *
  have p1 : i + 1 ≤ 32 := by omega
  have e4' : (i : Int) % 4 = r4 := by rw [← e4, Int.tmod_eq_emod_of_nonneg (by omega)]
  apply iter_norm
  simp -implicitDefEqProofs [b25_0, St.keep, h1, hi, w1, q1, hc, hc2, hc3, z1, z2, j1, e4, e4', w2, w3, m1, n1, f1, b1, hp, dl, p1, abin]
theorem loop11d (Φ : Nat → Option FnF) (K : Nat) (g2 g3 g9 c : Nat) (A : Blk) (C : List AV) (v : V8) (hC : ∀ j, j < 8 → C[j]? = some (.int .u32 (N (v.list.getD j 0)))) : ∀ (d i k : Nat), i + d = 32 → d < k →
    iter (ev Φ K b25_0) [2, 3, 6, 7] [2, 3, 6] k ⟨[(2, .ptr 2 g2 0), (3, .ptr 3 g3 0), (6, .ptr 6 g9 0), (7, .int .i64 i)], [⟨2, g2, A⟩, ⟨3, g3, .var C⟩, ⟨6, g9, .var (u8s (dgn v i))⟩], c⟩ =
    some (.exit 2, ⟨[(2, .ptr 2 g2 0), (3, .ptr 3 g3 0), (6, .ptr 6 g9 0), (7, .int .i64 32), (24, .int .i64 32), (25, .bool false)], [⟨2, g2, A⟩, ⟨3, g3, .var C⟩, ⟨6, g9, .var (u8s (dg v))⟩], c⟩)
  | 0, i, 0, hi, hk => by omega
  | 0, i, k + 1, hi, hk => by
    obtain rfl : i = 32 := by omega
    rw [dgn32, iter_succ]
    simp -implicitDefEqProofs [b25_0, abin]
  | d + 1, i, 0, hi, hk => by omega
  | d + 1, i, k + 1, hi, hk => by
    rw [step11d Φ K g2 g3 g9 c k A C i (by omega) v hC]
    exact loop11d Φ K g2 g3 g9 c A C v hC d (i + 1) k (by omega) (by omega)
theorem iv_build : fillParts [] z63 [(0, 1, (.c (.int .u32 1779033703))), (1, 1, (.c (.int .u32 3144134277))), (2, 1, (.c (.int .u32 1013904242))), (3, 1, (.c (.int .u32 2773480762))), (4, 1, (.c (.int .u32 1359893119))), (5, 1, (.c (.int .u32 2600822924))), (6, 1, (.c (.int .u32 528734635))), (7, 1, (.c (.int .u32 1541459225)))] = some (vc iv) := by kernel_rfl
theorem sum11 (n : Nat) (l : List UInt8) (hl : l.length ≤ 100000) : E (n + 4) 25 [.str ⟨l.toArray⟩] = some (.agg (u8s (sha l)), []) := by
  rw [e25]
  have hm := message20 (n + 2) l hl
  have hfull := full_len l
  have hpl := pad_len l.length
  have hz := (zeros_56 l.length).2
  have hML2 : (l ++ pad l.length).length ≤ 110000 := by rw [List.length_append, hpl]; omega
  have hML : (l ++ pad l.length).length ≤ 200000 := by omega
  have lb := loop11 n 3000 0 1 2 3 (.var z29) (l ++ pad l.length) hML hfull (by omega) (by omega) ((l ++ pad l.length).length / 64) 0 3000 iv (by omega) (by omega)
  rw [List.drop_zero] at lb
  have hsha : sha l = dg (absorb (l ++ pad l.length) iv).1 := rfl
  rw [hsha]
  generalize (absorb (l ++ pad l.length) iv).1 = V at *
  have ld := loop11d (Q (n + 3)) 3000 0 1 3 4 (.var z29) (vc V) V (fun j hj => by simpa using hC_of V [] j hj) 32 0 3000 (by omega) (by omega)
  rw [dgn0] at ld
  have dp := u8s_plain (dg V)
  have dl : (u8s (dg V)).length = 32 := by rw [u8s_len, dg_len]
  generalize u8s (dg V) = D at *
  have rl := rows_len (l ++ pad l.length)
  generalize (l ++ pad l.length) = M at *
  have dt : D.take 32 = D := List.take_of_length_le (by omega)
  have ip := vc_plain iv
  have il := vc_len iv
  generalize hI : vc iv = I0 at *
  generalize vc V = CV at *
  have hb : ev (Q (n + 3)) 3000 a25.code ⟨[(0, .str ⟨l.toArray⟩)], [], 0⟩ = some (.ret, ⟨[(2, .ptr 2 0 0), (6, .ptr 6 3 0), (40, .agg D)], [⟨2, 0, .var D⟩, ⟨6, 3, .var D⟩], 4⟩) := by
    rw [show a25.code = Tryd.c25 from rfl, Tryd.c25]
    refine ev_seqN (s1 := ⟨[(0, .str ⟨l.toArray⟩), (2, .ptr 2 0 0)], [⟨2, 0, .var z29⟩], 1⟩) (by simp) ?_
    refine ev_seqN (s1 := ⟨[(0, .str ⟨l.toArray⟩), (2, .ptr 2 0 0), (3, .ptr 3 1 0), (8, .agg I0)], [⟨2, 0, .var z29⟩, ⟨3, 1, .var I0⟩], 2⟩) (by rw [← hI]; kernel_rfl) ?_
    refine ev_seqN (s1 := ⟨[(0, .str ⟨l.toArray⟩), (2, .ptr 2 0 0), (3, .ptr 3 1 0), (4, .own 11000 2 0 M.length), (8, .agg I0), (9, .str ⟨l.toArray⟩), (10, .own 11000 2 0 M.length)], [⟨2, 0, .var z29⟩, ⟨3, 1, .var I0⟩, ⟨11000, 2, .arr 1 (byteRows M) false⟩], 3⟩) (by simp [q36, hm, rl]) ?_
    refine ev_seqN (ev_loopN (by simp [St.keep]) lb) ?_
    refine ev_keepN ?_
    refine ev_seqN (s1 := ⟨[(2, .ptr 2 0 0), (3, .ptr 3 1 0), (6, .ptr 6 3 0)], [⟨2, 0, .var z29⟩, ⟨3, 1, .var CV⟩, ⟨6, 3, .var z29⟩], 4⟩) (by simp) ?_
    refine ev_seqN (ev_loopN (by simp [St.keep]) ld) ?_
    refine ev_keepN ?_
    simp -implicitDefEqProofs [dl, dt, z27_len, z27_drop, plains_cells dp]
  refine fun_of (q := ([.str ⟨l.toArray⟩], [], 0)) (by simp [a25]) (by simp) hb (.inr rfl) ?_
  simp -implicitDefEqProofs [a25, dl, dt, plains_mv dp]
end Go.Abs.Tryd

namespace Go.Abs.Tryd
open Go Go.Abs Go.Proofs Go.Abs.Sha
set_option maxHeartbeats 64000000
set_option maxRecDepth 100000
set_option linter.unusedSimpArgs false
set_option linter.unusedVariables false
theorem empty_of {J : Nat → InlF → InlF} {Y : InlF} (Φ : Nat → Option FnF) (K : Nat) (F : CallF) (G : InlF) (D : List AV) (hF : Φ 34 = some ⟨F, G, J, Y⟩) (h : F [.nilS] = some (.agg D, [])) (hp : D.all AV.plain = true) (hl : D.length = 32) : evFun Φ K a21 [] = some (.agg D, []) := by
  have ht : D.take 32 = D := List.take_of_length_le (by omega)
  simp -implicitDefEqProofs [a21, c21, hF, h, plains_cells hp, plains_mv hp, plains_in hp, hl, ht, z27_len, z27_drop]
theorem empty_sha (n : Nat) (m : List UInt8) (hm : m = []) : E (n + 6) 21 [] = some (.agg (u8s (sha m)), []) := by
  rw [e21]
  exact empty_of _ _ _ _ _ (q34 (n + 4)) (of10' n .nilS [] m .nil (by simp) (by rw [hm]; rfl) (by rw [hm]; simp)) (u8s_plain _) (cells32 _)
theorem empty12 (n : Nat) : E (n + 6) 21 [] = some (.agg (u8s (sha [])), []) := empty_sha n [] rfl
theorem knot_of {J : Nat → InlF → InlF} {Y : InlF} (Φ : Nat → Option FnF) (K : Nat) (F : CallF) (G : InlF) (D : List AV) (a b : List UInt8) (ha : a.length = 32) (hb : b.length = 32) (hF : Φ 34 = some ⟨F, G, J, Y⟩) (h : F [.ro true 1 [[.str ⟨#[1]⟩], [.str ⟨a.toArray⟩], [.str ⟨b.toArray⟩]]] = some (.agg D, [])) (hp : D.all AV.plain = true) (hl : D.length = 32) : evFun Φ K a23 [.agg (u8s a), .agg (u8s b)] = some (.agg D, []) := by
  have ht : D.take 32 = D := List.take_of_length_le (by omega)
  have pa := u8s_plain a
  have pb := u8s_plain b
  have la : (u8s a).length = 32 := by rw [u8s_len, ha]
  have lb : (u8s b).length = 32 := by rw [u8s_len, hb]
  have ta : (u8s a).take 32 = u8s a := List.take_of_length_le (by omega)
  have tb : (u8s b).take 32 = u8s b := List.take_of_length_le (by omega)
  have ma := u8s_map a
  have mb := u8s_map b
  have ra := toBytes_rows a
  have rb := toBytes_rows b
  simp -implicitDefEqProofs [a23, c23, hF, h, plains_cells hp, plains_mv hp, plains_in hp, plains_low hp, plains_cells pa, plains_in pa, plains_low pa, plains_cells pb, plains_in pb, plains_low pb, hl, ht, z27_len, z27_drop, la, lb, ta, tb, ma, mb, ra, rb, pa, pb]
theorem knot15 (n : Nat) (a b : List UInt8) (ha : a.length = 32) (hb : b.length = 32) : E (n + 6) 23 [.agg (u8s a), .agg (u8s b)] = some (.agg (u8s (sha (1 :: (a ++ b)))), []) := by
  rw [e23]
  exact knot_of _ _ _ _ _ a b ha hb (q34 (n + 4)) (of10' n (.ro true 1 (strRows [[1], a, b])) [[1], a, b] (1 :: (a ++ b)) (.ro true _) (by simp) (by simp) (by simp; omega)) (u8s_plain _) (cells32 _)
end Go.Abs.Tryd

namespace Go.Abs.Tryd
open Go Go.Abs
set_option maxHeartbeats 16000000
set_option maxRecDepth 100000
set_option linter.unusedSimpArgs false
set_option linter.unusedVariables false
/-- how many bits of a number are set -/
def pop (n : Nat) : Nat := if h : n = 0 then 0 else n % 2 + pop (n / 2)
decreasing_by omega
theorem pop_zero : pop 0 = 0 := by rw [pop]; simp
theorem pop_pos {n : Nat} (h : n ≠ 0) : pop n = n % 2 + pop (n / 2) := by rw [pop]; simp [h]
/-- how often two divides a number -/
def tz (n : Nat) : Nat := if h : n = 0 ∨ n % 2 = 1 then 0 else 1 + tz (n / 2)
decreasing_by omega
theorem tz_odd {n : Nat} (h : n % 2 = 1) : tz n = 0 := by rw [tz]; simp [h]
theorem tz_even {n : Nat} (h : n % 2 = 0) (h0 : n ≠ 0) : tz n = 1 + tz (n / 2) := by rw [tz]; simp [h, h0]
def o1 (x : Nat) : Nat := (x / 2 &&& 6148914691236517205) + (x &&& 6148914691236517205)
def o2 (x : Nat) : Nat := (x / 4 &&& 3689348814741910323) + (x &&& 3689348814741910323)
def o3 (x : Nat) : Nat := (x / 16 + x) &&& 1085102592571150095
def o4 (x : Nat) : Nat := x + x / 256
def o5 (x : Nat) : Nat := x + x / 65536
def o6 (x : Nat) : Nat := x + x / 4294967296
def oc (x : Nat) : Nat := o6 (o5 (o4 (o3 (o2 (o1 x))))) &&& 127
def chkO : Nat → Bool
  | 0 => true
  | k + 1 => Nat.beq (oc k) (oc (k / 2) + k % 2) && chkO k
theorem chkO_ok : chkO 100002 = true := by kernel_rfl
theorem chkO_spec : ∀ n, chkO n = true → ∀ k, k < n → oc k = oc (k / 2) + k % 2
  | 0, _, k, hk => by omega
  | n + 1, h, k, hk => by
    simp only [chkO, Bool.and_eq_true] at h
    by_cases e : k = n
    · subst e; exact Nat.eq_of_beq_eq_true h.1
    · exact chkO_spec n h.2 k (by omega)
theorem oc_pop : ∀ (n k : Nat), k < n → k ≤ 100001 → oc k = pop k
  | 0, k, h, _ => by omega
  | n + 1, k, h, hk => by
    by_cases h0 : k = 0
    · subst h0; rw [pop_zero]; rfl
    · rw [chkO_spec _ chkO_ok k (by omega), pop_pos h0, oc_pop n (k / 2) (by omega) (by omega), Nat.add_comm]
def tzT : List Nat := [0, 1, 56, 2, 57, 49, 28, 3, 61, 58, 42, 50, 38, 29, 17, 4, 62, 47, 59, 36, 45, 43, 51, 22, 53, 39, 33, 30, 24, 18, 12, 5, 63, 55, 48, 27, 60, 41, 37, 16, 46, 35, 44, 21, 52, 32, 23, 11, 54, 26, 40, 15, 34, 20, 31, 10, 25, 14, 19, 9, 13, 8, 7, 6]
def tzI (x : Nat) : Nat := ((x &&& (18446744073709551616 - x)) * 285870213051353865 % 18446744073709551616) / 288230376151711744
def tzV (x : Nat) : Nat := tzT.getD (tzI x) 99
def chkT : Nat → Bool
  | 0 => true
  | k + 1 => (if Nat.beq (k % 2) 1 then Nat.beq (tzV k) 0 else (Nat.beq k 0 || Nat.beq (tzV k) (1 + tzV (k / 2)))) && chkT k
theorem chkT_ok : chkT 100002 = true := by kernel_rfl
end Go.Abs.Tryd

namespace Go.Abs.Tryd
open Go Go.Abs
set_option maxHeartbeats 16000000
set_option maxRecDepth 100000
set_option linter.unusedSimpArgs false
set_option linter.unusedVariables false
theorem and64 (a b : Nat) (ha : a < 18446744073709551616) (hb : b < 18446744073709551616) : abits .and .u64 (a : Int) (b : Int) = some (.int .u64 ((a &&& b : Nat) : Int)) := by
  have h := @Nat.and_le_left a b
  show some (AV.int .u64 (IntKind.u64.wrap ((BitVec.ofInt 64 (a : Int) &&& BitVec.ofInt 64 (b : Int)).toNat : Int))) = _
  rw [show BitVec.ofInt 64 (a : Int) &&& BitVec.ofInt 64 (b : Int) = BitVec.ofNat 64 (a &&& b) by
    rw [BitVec.ofInt_natCast, BitVec.ofInt_natCast]; apply BitVec.eq_of_toNat_eq; simp [BitVec.toNat_and, Nat.mod_eq_of_lt ha, Nat.mod_eq_of_lt hb, Nat.mod_eq_of_lt (Nat.lt_of_le_of_lt h ha)]]
  rw [BitVec.toNat_ofNat, Nat.mod_eq_of_lt (by omega), wrap_u64]
  congr 2; omega
theorem and127 (a : Nat) (ha : a < 9223372036854775808) : abits .and .i64 (a : Int) 127 = some (.int .i64 ((a &&& 127 : Nat) : Int)) := by
  have h := @Nat.and_le_left a 127
  have e : ((127 : Int)) = ((127 : Nat) : Int) := rfl
  rw [e]
  show some (AV.int .i64 (IntKind.i64.wrap ((BitVec.ofInt 64 (a : Int) &&& BitVec.ofInt 64 ((127 : Nat) : Int)).toNat : Int))) = _
  rw [show BitVec.ofInt 64 (a : Int) &&& BitVec.ofInt 64 ((127 : Nat) : Int) = BitVec.ofNat 64 (a &&& 127) by
    rw [BitVec.ofInt_natCast, BitVec.ofInt_natCast]; apply BitVec.eq_of_toNat_eq; simp only [BitVec.toNat_and, BitVec.toNat_ofNat]; rw [Nat.mod_eq_of_lt (by omega), Nat.mod_eq_of_lt (by omega), Nat.mod_eq_of_lt (by omega)]]
  rw [BitVec.toNat_ofNat, Nat.mod_eq_of_lt (by omega), wrap_i64 _ (by omega) (by omega)]
theorem fd (a k : Nat) : (a : Int).fdiv (k : Int) = ((a / k : Nat) : Int) := by
  rw [Int.fdiv_eq_ediv_of_nonneg _ (by omega)]; rfl
theorem ones33 (n x : Nat) (hx : x ≤ 100001) : E (n + 1) 33 [.int .u64 x] = some (.int .i64 (pop x), []) := by
  rw [← oc_pop _ x (Nat.lt_succ_self x) hx, e33]
  have b1 : o1 x ≤ 400000 := by have := @Nat.and_le_left (x / 2) 6148914691236517205; have := @Nat.and_le_left x 6148914691236517205; unfold o1; omega
  have f1 := fd x 2
  have a1 := and64 (x / 2) 6148914691236517205 (by omega) (by omega)
  have a2 := and64 x 6148914691236517205 (by omega) (by omega)
  have p1 : IntKind.u64.wrap (((x / 2 &&& 6148914691236517205 : Nat) : Int) + ((x &&& 6148914691236517205 : Nat) : Int)) = ((o1 x : Nat) : Int) := by
    rw [wrap_u64]; unfold o1 at *; omega
  generalize hy : o1 x = y at *
  have b2 : o2 y ≤ 1000000 := by have := @Nat.and_le_left (y / 4) 3689348814741910323; have := @Nat.and_le_left y 3689348814741910323; unfold o2; omega
  have f2 := fd y 4
  have a3 := and64 (y / 4) 3689348814741910323 (by omega) (by omega)
  have a4 := and64 y 3689348814741910323 (by omega) (by omega)
  have p2 : IntKind.u64.wrap (((y / 4 &&& 3689348814741910323 : Nat) : Int) + ((y &&& 3689348814741910323 : Nat) : Int)) = ((o2 y : Nat) : Int) := by
    rw [wrap_u64]; unfold o2 at *; omega
  generalize hz : o2 y = z at *
  have b3 : o3 z ≤ 2000000 := by have := @Nat.and_le_left (z / 16 + z) 1085102592571150095; unfold o3; omega
  have f3 := fd z 16
  have p3 : IntKind.u64.wrap (((z / 16 : Nat) : Int) + (z : Int)) = ((z / 16 + z : Nat) : Int) := by rw [wrap_u64]; omega
  have a5 := and64 (z / 16 + z) 1085102592571150095 (by omega) (by omega)
  rw [show (z / 16 + z) &&& 1085102592571150095 = o3 z from rfl] at a5
  generalize hw : o3 z = w at *
  generalize z / 16 + z = sm at *
  have f4 := fd w 256
  have p4 : IntKind.u64.wrap ((w : Int) + ((w / 256 : Nat) : Int)) = ((o4 w : Nat) : Int) := by rw [wrap_u64]; unfold o4; omega
  have b4 : o4 w ≤ 4000000 := by unfold o4; omega
  generalize hv : o4 w = v at *
  have f5 := fd v 65536
  have p5 : IntKind.u64.wrap ((v : Int) + ((v / 65536 : Nat) : Int)) = ((o5 v : Nat) : Int) := by rw [wrap_u64]; unfold o5; omega
  have b5 : o5 v ≤ 8000000 := by unfold o5; omega
  generalize hu : o5 v = u at *
  have f6 := fd u 4294967296
  have p6 : IntKind.u64.wrap ((u : Int) + ((u / 4294967296 : Nat) : Int)) = ((o6 u : Nat) : Int) := by rw [wrap_u64]; unfold o6; omega
  have b6 : o6 u ≤ 16000000 := by unfold o6; omega
  have ho : oc x = o6 u &&& 127 := by unfold oc; rw [hy, hz, hw, hv, hu]
  rw [ho]
  generalize o6 u = t at *
  have p7 : IntKind.i64.wrap (t : Int) = t := wrap_i64 _ (by omega) (by omega)
  have a6 := and127 t (by omega)
  simp only [Int.cast_ofNat_Int] at f1 f2 f3 f4 f5 f6 a1 a2 a3 a4 a5
  generalize ((x / 2 : Nat) : Int) = x2 at *
  generalize ((y / 4 : Nat) : Int) = y4 at *
  generalize ((z / 16 : Nat) : Int) = z16 at *
  generalize ((w / 256 : Nat) : Int) = w8 at *
  generalize ((v / 65536 : Nat) : Int) = v16 at *
  generalize ((u / 4294967296 : Nat) : Int) = u32 at *
  simp -implicitDefEqProofs [a33, c33, abin, aint, ashift, f1, f2, f3, f4, f5, f6, a1, a2, a3, a4, a5, a6, p1, p2, p3, p4, p5, p6, p7]
theorem ones20 (n x : Nat) (hx : x ≤ 100001) : E (n + 2) 20 [.int .u64 x] = some (.int .i64 (pop x), []) := by
  rw [e20]
  simp -implicitDefEqProofs [a20, c20, q33, ones33 n x hx]
end Go.Abs.Tryd

namespace Go.Abs.Tryd
open Go Go.Abs
set_option maxHeartbeats 16000000
set_option maxRecDepth 100000
set_option linter.unusedSimpArgs false
set_option linter.unusedVariables false
theorem chkT_spec : ∀ n, chkT n = true → ∀ k, k < n → (k % 2 = 1 → tzV k = 0) ∧ (k % 2 = 0 → k ≠ 0 → tzV k = 1 + tzV (k / 2))
  | 0, _, k, hk => by omega
  | n + 1, h, k, hk => by
    simp only [chkT, Bool.and_eq_true] at h
    by_cases e : k = n
    · subst e
      have h1 := h.1
      by_cases e2 : k % 2 = 1
      · rw [if_pos (by rw [e2]; rfl)] at h1
        exact ⟨fun _ => Nat.eq_of_beq_eq_true h1, fun h => by omega⟩
      · rw [if_neg (by intro h; exact e2 (Nat.eq_of_beq_eq_true h))] at h1
        refine ⟨fun h => by omega, fun _ h0 => ?_⟩
        rw [Bool.or_eq_true] at h1
        rcases h1 with h1 | h1
        · exact absurd (Nat.eq_of_beq_eq_true h1) h0
        · exact Nat.eq_of_beq_eq_true h1
    · exact chkT_spec n h.2 k (by omega)
theorem tzV_tz : ∀ (n k : Nat), k < n → k ≤ 100001 → k ≠ 0 → tzV k = tz k
  | 0, k, h, _, _ => by omega
  | n + 1, k, h, hk, h0 => by
    obtain ⟨h1, h2⟩ := chkT_spec _ chkT_ok k (by omega)
    by_cases e : k % 2 = 1
    · rw [h1 e, tz_odd e]
    · rw [h2 (by omega) h0, tz_even (by omega) h0, tzV_tz n (k / 2) (by omega) (by omega) (by omega)]
def deB : List AV := tzT.map fun n => AV.int .u8 ((n : Nat) : Int)
theorem glob2_deB : glob2 = deB := rfl
theorem tzT_len : tzT.length = 64 := rfl
theorem deB_get (i : Nat) (h : i < 64) : deB[i]? = some (.int .u8 ((tzT.getD i 99 : Nat) : Int)) := by
  have h' : i < tzT.length := by rw [tzT_len]; exact h
  rw [deB, List.getElem?_map, List.getD_eq_getElem?_getD, List.getElem?_eq_getElem h']; rfl
theorem tzT_le (i : Nat) : tzT.getD i 99 ≤ 99 := by
  rw [List.getD_eq_getElem?_getD]
  cases h : tzT[i]? with
  | none => exact Nat.le_refl _
  | some x =>
    have hx := List.mem_of_getElem? h
    have : ∀ y ∈ tzT, y ≤ 99 := by decide
    exact this x hx
theorem look2 : Globs.look 2 = some deB := by rw [← glob2_deB]; rfl
theorem fdp (a e : Nat) : (a : Int).fdiv (2 ^ e) = ((a / 2 ^ e : Nat) : Int) := by
  rw [Int.fdiv_eq_ediv_of_nonneg _ (Int.le_of_lt (Int.pow_pos (by decide)))]
  simp
theorem evReg_append (Φ : Nat → Option FnF) : ∀ (a b : List AOper) (s s1 : St), evReg Φ s a = some s1 → evReg Φ s (a ++ b) = evReg Φ s1 b
  | [], b, s, s1, h => by cases h; rfl
  | o :: r, b, s, s1, h => by
    simp only [evReg, List.cons_append] at h ⊢
    cases e : evOper Φ s o with
    | none => rw [e] at h; cases h
    | some s2 => rw [e] at h; exact evReg_append Φ r b s2 s1 h
theorem tz41_of (Φ : Nat → Option FnF) (K x nx y z i r : Nat) (i1 : ((x : Int) == 0) = false) (h0 : x ≠ 0) (p1' : IntKind.u64.wrap (-(x : Int)) = (nx : Int))
    (a1 : abits .and .u64 (x : Int) (nx : Int) = some (.int .u64 (y : Int))) (p2 : IntKind.u64.wrap ((y : Int) * 285870213051353865) = (z : Int)) (f1 : ashift .shr .u64 (z : Int) 58 = some (.int .u64 (i : Int))) (b3 : i < 64)
    (hd : (deB.drop i).head? = some (.int .u8 (r : Int))) (hg : deB[i]? = some (.int .u8 (r : Int))) (p3 : IntKind.i64.wrap (r : Int) = r) : evFun Φ K a41 [.int .u64 x] = some (.int .i64 r, []) := by
  refine fun_of (q := ([.int .u64 x], [], 0)) (by simp [a41]) (by simp) (s' := ⟨[(0, .int .u64 x), (2, .int .i64 r), (3, .int .u64 x), (4, .bool false), (5, .int .u64 x), (6, .int .u64 x), (7, .int .u64 nx), (8, .int .u64 y), (9, .int .u64 z), (10, .int .u64 i), (11, .rptr (deB.drop i)), (12, .int .u8 r), (13, .int .i64 r)], [], 0⟩) (e := .ret) ?_ (.inr rfl) (by simp [a41])
  show ev Φ K c41 ⟨[(0, .int .u64 x)], [], 0⟩ = _
  unfold c41
  refine ev_seqN (s1 := ⟨[(0, .int .u64 x), (2, .int .i64 0)], [], 0⟩) (by simp) ?_
  refine ev_seqN (s1 := ⟨[(0, .int .u64 x), (2, .int .i64 0), (3, .int .u64 x), (4, .bool false)], [], 0⟩) (by simp [i1, h0]) ?_
  refine ev_seqN (s1 := ⟨[(0, .int .u64 x), (2, .int .i64 r), (3, .int .u64 x), (4, .bool false), (5, .int .u64 x), (6, .int .u64 x), (7, .int .u64 nx), (8, .int .u64 y), (9, .int .u64 z), (10, .int .u64 i), (11, .rptr (deB.drop i)), (12, .int .u8 r), (13, .int .i64 r)], [], 0⟩) ?_ (by simp)
  rw [ev]
  have A := evReg_append Φ [{ dst := some 5, op := .mov (.t 0) }, { dst := some 6, op := .mov (.t 0) }, { dst := some 7, op := .un .neg (.t 6) }, { dst := some 8, op := .bin .and (.t 5) (.t 7) },
    { dst := some 9, op := .bin .mul (.t 8) (.c (.int .u64 285870213051353865)) }, { dst := some 10, op := .bin .shr (.t 9) (.c (.int .u64 58)) }]
    [{ dst := some 11, op := .iada 64 1 (.g 2) (.t 10) }, { dst := some 12, op := .load none (.t 11) }, { dst := some 13, op := .conv .i64 (.t 12) }, { dst := some 2, op := .mov (.t 13) }]
    ⟨[(0, .int .u64 x), (2, .int .i64 0), (3, .int .u64 x), (4, .bool false)], [], 0⟩
    ⟨[(0, .int .u64 x), (2, .int .i64 0), (3, .int .u64 x), (4, .bool false), (5, .int .u64 x), (6, .int .u64 x), (7, .int .u64 nx), (8, .int .u64 y), (9, .int .u64 z), (10, .int .u64 i)], [], 0⟩
    (by simp -implicitDefEqProofs [abin, aint, aun, p1', a1, p2, f1, -ashift])
  rw [List.cons_append, List.cons_append, List.cons_append, List.cons_append, List.cons_append, List.cons_append, List.nil_append] at A
  rw [A]
  simp -implicitDefEqProofs [b3, hg, hd, p3, look2]
theorem tz41 (n x : Nat) (hx : x ≤ 100001) (h0 : x ≠ 0) : E (n + 1) 41 [.int .u64 x] = some (.int .i64 (tz x), []) := by
  rw [← tzV_tz _ x (Nat.lt_succ_self x) hx h0, e41]
  have a1 := and64 x (18446744073709551616 - x) (by omega) (by omega)
  have b1 := @Nat.and_le_left x (18446744073709551616 - x)
  have p1' : IntKind.u64.wrap (-(x : Int)) = ((18446744073709551616 - x : Nat) : Int) := by rw [wrap_u64]; omega
  show _ = some (AV.int .i64 ((tzT.getD (tzI x) 99 : Nat) : Int), [])
  have p2 : IntKind.u64.wrap (((x &&& (18446744073709551616 - x) : Nat) : Int) * 285870213051353865) = (((x &&& (18446744073709551616 - x)) * 285870213051353865 % 18446744073709551616 : Nat) : Int) := by rw [wrap_u64]; omega
  have b2 : (x &&& (18446744073709551616 - x)) * 285870213051353865 % 18446744073709551616 < 18446744073709551616 := Nat.mod_lt _ (by omega)
  have f1 : ashift .shr .u64 (((x &&& (18446744073709551616 - x)) * 285870213051353865 % 18446744073709551616 : Nat) : Int) 58 = some (.int .u64 (tzI x : Int)) := by
    generalize hz : (x &&& (18446744073709551616 - x)) * 285870213051353865 % 18446744073709551616 = z at *
    have := fdp z 58
    unfold ashift
    rw [if_neg (by decide)]
    show some (AV.int .u64 ((z : Int).fdiv (2 ^ 58))) = _
    rw [this]; unfold tzI; rw [hz]
  have b3 : tzI x < 64 := by unfold tzI; omega
  have b4 := tzT_le (tzI x)
  refine tz41_of _ _ x _ _ _ (tzI x) _ (by simp [h0]) h0 p1' a1 p2 f1 b3 ?_ (deB_get _ b3) (wrap_i64 _ (by omega) (by omega))
  rw [List.head?_drop]; exact deB_get _ b3
theorem tz31 (n x : Nat) (hx : x ≤ 100001) (h0 : x ≠ 0) : E (n + 2) 31 [.int .u64 x] = some (.int .i64 (tz x), []) := by
  rw [e31]
  simp -implicitDefEqProofs [a31, c31, q41, tz41 n x hx h0]
/-- how many bits are set, as the document counts them -/
theorem loop24 (Φ : Nat → Option FnF) (K c : Nat) : ∀ (k x s : Nat), x < 2 ^ k → x ≤ 200000 → s + pop x ≤ 1000 → ∀ d, ∃ E', iter (ev Φ K b24_0) [0, 3] [] (k + 1 + d) ⟨[(0, .int .i64 x), (3, .int .i64 s)], [], c⟩ = some (.exit 0, ⟨E', [], c⟩) ∧ envGet E' 3 = some (.int .i64 ((s + pop x : Nat) : Int)) ∧ envOnly [3] E' = [(3, .int .i64 ((s + pop x : Nat) : Int))]
  | k, 0, s, hx, hb, hs, d => by
    rw [show k + 1 + d = (k + d) + 1 by omega, iter_succ, pop_zero, Nat.add_zero]
    simp -implicitDefEqProofs [b24_0, abin, aint]
  | 0, x + 1, s, hx, hb, hs, d => by omega
  | k + 1, x + 1, s, hx, hb, hs, d => by
    have hp := pop_pos (n := x + 1) (by omega)
    obtain ⟨E', h1, h2⟩ := loop24 Φ K c k ((x + 1) / 2) (s + (x + 1) % 2) (by rw [Nat.pow_succ] at hx; omega) (by omega) (by omega) d
    refine ⟨E', ?_, by rw [show s + pop (x + 1) = s + (x + 1) % 2 + pop ((x + 1) / 2) by omega]; exact h2⟩
    rw [show k + 1 + 1 + d = (k + 1 + d) + 1 by omega, ← h1]
    apply iter_norm
    have hy : 0 < x + 1 := Nat.succ_pos x
    generalize x + 1 = y at *
    have g1 : (0 : Int) < y := by omega
    have g1' : 0 < y := by omega
    have m1 : ((y : Int)).tmod 2 = ((y % 2 : Nat) : Int) := by rw [Int.tmod_eq_emod_of_nonneg (by omega)]; omega
    have d1 : ((y : Int)).tdiv 2 = ((y / 2 : Nat) : Int) := by rw [Int.tdiv_eq_ediv_of_nonneg (by omega)]; omega
    have w1 : IntKind.i64.wrap ((s : Int) + ((y % 2 : Nat) : Int)) = ((s + y % 2 : Nat) : Int) := by rw [wrap_i64 _ (by omega) (by omega)]; omega
    have w2 : IntKind.i64.wrap ((y / 2 : Nat) : Int) = ((y / 2 : Nat) : Int) := wrap_i64 _ (by omega) (by omega)
    generalize ((y % 2 : Nat) : Int) = r at *
    generalize ((y / 2 : Nat) : Int) = q at *
    generalize ((s + y % 2 : Nat) : Int) = t at *
    simp -implicitDefEqProofs [b24_0, St.keep, abin, aint, g1, g1', m1, d1, w1, w2]
theorem many24 (n x : Nat) (hx : x ≤ 200000) : E (n + 1) 24 [.int .i64 x] = some (.int .i64 (pop x), []) := by
  rw [e24]
  have hp : pop x ≤ 900 := by
    have : ∀ (k y : Nat), y < 2 ^ k → pop y ≤ k := by
      intro k
      induction k with
      | zero => intro y hy; obtain rfl : y = 0 := by omega
                rw [pop_zero]; omega
      | succ k ih => intro y hy
                     by_cases h : y = 0
                     · subst h; rw [pop_zero]; omega
                     · rw [pop_pos h]; have := ih (y / 2) (by rw [Nat.pow_succ] at hy; omega); omega
    have := this 18 x (by omega)
    omega
  obtain ⟨E', h1, h2, h3⟩ := loop24 (Q n) 3000 0 18 x 0 (by omega) hx (by omega) 2981
  rw [Nat.zero_add] at h2 h3
  have h0 : ((0 : Nat) : Int) = 0 := rfl
  rw [h0] at h1
  simp -implicitDefEqProofs [a24, c24]
  simp only [Nat.reduceAdd] at h1
  rw [iter_keep]
  simp
  rw [h1]
  simp [h3]
end Go.Abs.Tryd

namespace Go.Abs.Tryd
open Go Go.Abs Go.Abs.Sha
set_option maxHeartbeats 16000000
set_option maxRecDepth 100000
set_option linter.unusedSimpArgs false
set_option linter.unusedVariables false
abbrev Dg := List UInt8
def All32 (D : List Dg) : Prop := ∀ d ∈ D, d.length = 32
def dr (D : List Dg) : List (List AV) := D.map u8s
theorem dr_len (D : List Dg) : (dr D).length = D.length := by simp [dr]
theorem aeq_bytes : ∀ a b : List UInt8, a.length = b.length → aeqCells (List.replicate a.length 0) (u8s a) (u8s b) = some (decide (a = b))
  | [], [], _ => rfl
  | x :: a, y :: b, h => by
    have e1 : u8s (x :: a) = .int .u8 x.toNat :: u8s a := rfl
    have e2 : u8s (y :: b) = .int .u8 y.toNat :: u8s b := rfl
    rw [List.length_cons, List.replicate_succ, e1, e2, aeqCells, aeq1]
    by_cases hxy : x = y
    · subst hxy
      simp [aeq_bytes a b (by simpa using h)]
    · have hn : ¬ (x.toNat = y.toNat) := fun hh => hxy (UInt8.toNat.inj hh)
      have hn' : ((x.toNat : Int) == (y.toNat : Int)) = false := by rw [beq_eq_false_iff_ne]; omega
      simp [hxy, hn, hn']
theorem aeq32 (a b : Dg) (ha : a.length = 32) (hb : b.length = 32) : aeqCells k32 (u8s a) (u8s b) = some (decide (a = b)) := by
  have := aeq_bytes a b (by omega)
  rw [ha] at this
  exact this
/-- a row of digests that lies still -/
def LD (D : List Dg) (v : AV) : Prop := (v = .nilS ∧ D = []) ∨ (v = .emp ∧ D = []) ∨ ∃ t, v = .ro t 32 (dr D)
theorem LD.len {D v} (h : LD D v) : alen v = some D.length := by
  rcases h with ⟨rfl, rfl⟩ | ⟨rfl, rfl⟩ | ⟨t, rfl⟩
  · rfl
  · rfl
  · simp [alen, dr_len]
theorem LD.val {D v} (h : LD D v) (H : AH) (c nm) : inVal H c nm v = some (v, H, c) := by rcases h with ⟨rfl, rfl⟩ | ⟨rfl, rfl⟩ | ⟨t, rfl⟩ <;> rfl
theorem LD.cell {D v} (h : LD D v) (H : AH) (c nm) : inCell H c nm v = some (v, H, c) := by rcases h with ⟨rfl, rfl⟩ | ⟨rfl, rfl⟩ | ⟨t, rfl⟩ <;> rfl
theorem LD.cb {D v} (h : LD D v) : v.cellb = true := by rcases h with ⟨rfl, rfl⟩ | ⟨rfl, rfl⟩ | ⟨t, rfl⟩ <;> rfl
theorem LD.low1 {D v} (h : LD D v) (ns al) : v.low1 ns al = true := by rcases h with ⟨rfl, rfl⟩ | ⟨rfl, rfl⟩ | ⟨t, rfl⟩ <;> rfl
theorem LD.low {D v} (h : LD D v) (ns al) : v.low ns al = true := by rcases h with ⟨rfl, rfl⟩ | ⟨rfl, rfl⟩ | ⟨t, rfl⟩ <;> rfl
theorem LD.ld {D v} (h : LD D v) (H : AH) : lendArg H v = some v := by rcases h with ⟨rfl, rfl⟩ | ⟨rfl, rfl⟩ | ⟨t, rfl⟩ <;> rfl
theorem LD.ldc {D v} (h : LD D v) (H : AH) : lendCell H v = some v := by rcases h with ⟨rfl, rfl⟩ | ⟨rfl, rfl⟩ | ⟨t, rfl⟩ <;> rfl
theorem LD.mv {D v} (h : LD D v) (H : AH) (r m) : mvArgs H (v :: r) m = (mvArgs H r m.tail).map fun q => (v :: q.1, q.2.1, q.2.2) := by rcases h with ⟨rfl, rfl⟩ | ⟨rfl, rfl⟩ | ⟨t, rfl⟩ <;> rfl
theorem LD.rows {D v} (h : LD D v) (H : AH) : rowsOf H 32 v = some (dr D) := by
  rcases h with ⟨rfl, rfl⟩ | ⟨rfl, rfl⟩ | ⟨t, rfl⟩
  · rfl
  · rfl
  · simp [rowsOf]
theorem loop14 (Φ : Nat → Option FnF) (K c : Nat) (ta tb : Bool) (A B : List Dg) (hA : All32 A) (hB : All32 B) (hl : A.length = B.length) (hn : A.length ≤ 1000000) : ∀ (d i k : Nat), i + d = A.length → d < k →
    ∃ s', iter (ev Φ K b14_0) [0, 1, 5] [100000, 100200] k ⟨[(0, .ro ta 32 (dr A)), (1, .ro tb 32 (dr B)), (5, .int .i64 i)], [], c⟩ = some (if A.drop i = B.drop i then .exit 0 else .ret, s') ∧ s'.h = [] ∧ (¬ A.drop i = B.drop i → envGet s'.env 4 = some (.bool false))
  | d, i, 0, hi, hk => by omega
  | 0, i, k + 1, hi, hk => by
    obtain rfl : i = A.length := by omega
    have e1 : A.drop A.length = B.drop A.length := by rw [List.drop_length, hl, List.drop_length]
    rw [if_pos e1, iter_succ]
    have la := dr_len A
    generalize dr A = RA at *
    generalize dr B = RB at *
    simp -implicitDefEqProofs [b14_0, la, e1]
  | d + 1, i, k + 1, hi, hk => by
    have ia : i < A.length := by omega
    have ib : i < B.length := by omega
    have ha := hA A[i] (List.getElem_mem _)
    have hb := hB B[i] (List.getElem_mem _)
    have la := dr_len A
    have lb := dr_len B
    have ga : (dr A)[i]? = some (u8s A[i]) := by simp [dr, ia]
    have gb : (dr B)[i]? = some (u8s B[i]) := by simp [dr, ib]
    have da : A.drop i = A[i] :: A.drop (i + 1) := List.drop_eq_getElem_cons ia
    have db : B.drop i = B[i] :: B.drop (i + 1) := List.drop_eq_getElem_cons ib
    have hq := aeq32 A[i] B[i] ha hb
    have i1 : (i : Int) < A.length := by omega
    have w1 : IntKind.i64.wrap ((i : Int) + 1) = ((i + 1 : Nat) : Int) := by rw [wrap_i64 _ (by omega) (by omega)]; omega
    have l1 := u8s_len A[i]
    have l2 := u8s_len B[i]
    rw [ha] at l1
    rw [hb] at l2
    have p1 := plains_low (u8s_plain A[i])
    have p2 := plains_low (u8s_plain B[i])
    have t1 : (u8s A[i]).take 32 = u8s A[i] := List.take_of_length_le (by omega)
    have t2 : (u8s B[i]).take 32 = u8s B[i] := List.take_of_length_le (by omega)
    by_cases he : A[i] = B[i]
    · obtain ⟨s', e, e1, e2⟩ := loop14 Φ K c ta tb A B hA hB hl hn d (i + 1) k (by omega) (by omega)
      have hcond : (A.drop i = B.drop i) = (A.drop (i + 1) = B.drop (i + 1)) := by rw [da, db, he, List.cons.injEq]; exact propext ⟨fun h => h.2, fun h => ⟨rfl, h⟩⟩
      refine ⟨s', ?_, e1, ?_⟩
      · simp only [hcond]
        rw [← e]
        simp only [he, decide_true] at hq
        rw [he] at ga t1 l1 p1
        generalize u8s B[i] = x at *
        generalize dr A = RA at *
        generalize dr B = RB at *
        have ga' := (List.getElem?_eq_some_iff.1 ga).2
        have gb' := (List.getElem?_eq_some_iff.1 gb).2
        generalize ((i + 1 : Nat) : Int) = j at *
        apply iter_norm
        simp -implicitDefEqProofs [b14_0, St.keep, la, lb, ia, ib, i1, w1, ga, gb, ga', gb', l1, l2, t1, t2, hq, p1, p2]
      · simp only [hcond]; exact e2
    · have hne : ¬ A.drop i = B.drop i := by rw [da, db, List.cons.injEq]; exact fun h => he h.1
      rw [iter_succ]
      simp only [he, decide_false] at hq
      generalize u8s A[i] = x at *
      generalize u8s B[i] = y at *
      generalize dr A = RA at *
      generalize dr B = RB at *
      have ga' := (List.getElem?_eq_some_iff.1 ga).2
      have gb' := (List.getElem?_eq_some_iff.1 gb).2
      simp -implicitDefEqProofs [b14_0, la, lb, ia, ib, i1, ga, gb, ga', gb', l1, l2, t1, t2, hq, hne, p1, p2]
theorem digests14 (n : Nat) (a b : AV) (A B : List Dg) (hA : All32 A) (hB : All32 B) (ha : LD A a) (hb : LD B b) (hn : A.length ≤ 2900) : E (n + 1) 14 [a, b] = some (.bool (decide (A = B)), []) := by
  rw [e14]
  have la := ha.len
  have lb := hb.len
  by_cases hl : A.length = B.length
  · by_cases h0 : A = []
    · subst h0
      have h1 : B = [] := by cases B with | nil => rfl | cons x r => simp at hl
      subst h1
      rcases ha with ⟨rfl, _⟩ | ⟨rfl, _⟩ | ⟨ta, rfl⟩ <;> rcases hb with ⟨rfl, _⟩ | ⟨rfl, _⟩ | ⟨tb, rfl⟩ <;> simp -implicitDefEqProofs [a14, c14, dr] <;> rw [iter_keep] <;> simp <;> rw [iter_succ] <;> simp -implicitDefEqProofs [b14_0]
    · have h1 : B ≠ [] := by rintro rfl; cases A with | nil => exact h0 rfl | cons x r => simp at hl
      obtain ⟨ta, rfl⟩ : ∃ t, a = .ro t 32 (dr A) := by rcases ha with ⟨_, h⟩ | ⟨_, h⟩ | h; exact absurd h h0; exact absurd h h0; exact h
      obtain ⟨tb, rfl⟩ : ∃ t, b = .ro t 32 (dr B) := by rcases hb with ⟨_, h⟩ | ⟨_, h⟩ | h; exact absurd h h1; exact absurd h h1; exact h
      obtain ⟨⟨E', H', c'⟩, e, e1, e2⟩ := loop14 (Q n) 3000 0 ta tb A B hA hB hl (by omega) A.length 0 3000 (by omega) (by omega)
      simp only [List.drop_zero] at e e1 e2
      rw [show ((0 : Nat) : Int) = 0 from rfl] at e
      subst e1
      have lra := dr_len A
      have lrb := dr_len B
      generalize dr A = RA at *
      generalize dr B = RB at *
      by_cases he : A = B
      · rw [if_pos he] at e
        simp -implicitDefEqProofs [a14, c14, lra, lrb, hl, he]
        rw [iter_keep]; simp
        rw [he, hl] at *
        rw [e]; simp
      · rw [if_neg he] at e
        have e3 := e2 he
        simp -implicitDefEqProofs [a14, c14, lra, lrb, hl, he]
        rw [iter_keep]; simp
        rw [e]; simp [e3]
  · have h1 : ¬ ((A.length : Int) = B.length) := by omega
    have h2 : ((A.length : Int) == B.length) = false := by rw [beq_eq_false_iff_ne]; exact h1
    have h3 : ((A.length : Int) != B.length) = true := by simp only [bne, h2, Bool.not_false]
    have h4 : ¬ A = B := by rintro rfl; exact hl rfl
    simp -implicitDefEqProofs [a14, c14, la, lb, h1, h2, h3, h4, ha.val, ha.cell, hb.val, hb.cell]
/-- a new row of digests -/
def frD (D : List Dg) : AV := if D = [] then .nilS else .fr 32 (dr D)
theorem own8 (n : Nat) (v : AV) (D : List Dg) (h : LD D v) (hn : D.length ≤ 100000) : E (n + 1) 8 [v] = some (frD D, []) := by
  rw [e8]
  unfold frD
  rcases h with ⟨rfl, rfl⟩ | ⟨rfl, rfl⟩ | ⟨t, rfl⟩
  · simp -implicitDefEqProofs [a8, c8, aappend]
  · simp -implicitDefEqProofs [a8, c8, aappend]
  · cases D with
    | nil => simp -implicitDefEqProofs [a8, c8, aappend, dr]
    | cons x r =>
      have e : dr (x :: r) = u8s x :: dr r := rfl
      have l := dr_len r
      have l1 : (r.length + 1) * 32 ≤ maxBytes := by simp only [maxBytes]; simp at hn; omega
      have tk : (dr r).take r.length = dr r := List.take_of_length_le (by omega)
      rw [e, if_neg (by simp)]
      generalize u8s x = y at *
      generalize dr r = R at *
      simp -implicitDefEqProofs [a8, c8, aappend, l, l1, tk]
def clD (v : AV) (D : List Dg) : AV := match v with | .nilS => .nilS | _ => if D = [] then .emp else .fr 32 (dr D)
theorem clone29 (n : Nat) (v : AV) (D : List Dg) (h : LD D v) (hn : D.length ≤ 100000) : E (n + 1) 29 [v] = some (clD v D, []) := by
  rw [e29]
  unfold clD
  rcases h with ⟨rfl, rfl⟩ | ⟨rfl, rfl⟩ | ⟨t, rfl⟩
  · simp -implicitDefEqProofs [a29, c29, aappend]
  · simp -implicitDefEqProofs [a29, c29, aappend]
  · cases D with
    | nil => simp -implicitDefEqProofs [a29, c29, aappend, dr]
    | cons x r =>
      have e : dr (x :: r) = u8s x :: dr r := rfl
      have l := dr_len r
      have l1 : (r.length + 1) * 32 ≤ maxBytes := by simp only [maxBytes]; simp at hn; omega
      have tk : (dr r).take r.length = dr r := List.take_of_length_le (by omega)
      simp only
      rw [e, if_neg (by simp)]
      generalize u8s x = y at *
      generalize dr r = R at *
      simp -implicitDefEqProofs [a29, c29, aappend, l, l1, tk]
/-- is a front right? -/
def okF (s : Int) (k : Nat) : Bool := decide (0 ≤ s) && (decide (s ≤ 100000) && decide (k = pop s.toNat))
theorem check9 (n : Nat) (s : Int) (v : AV) (D : List Dg) (h : LD D v) (hn : D.length ≤ 1000000) : E (n + 3) 9 [.agg [.int .i64 s, v]] = some (.int .i64 (if okF s D.length then 0 else 30), []) := by
  rw [e9]
  unfold okF
  have hl := h.len
  have hc : ∀ (H : AH) c nm, inCell H c nm v = some (v, H, c) := by rcases h with ⟨rfl, rfl⟩ | ⟨rfl, rfl⟩ | ⟨t, rfl⟩ <;> intros <;> rfl
  have hcb : v.cellb = true := by rcases h with ⟨rfl, rfl⟩ | ⟨rfl, rfl⟩ | ⟨t, rfl⟩ <;> rfl
  have hlow : ∀ ns al, v.low1 ns al = true := by rcases h with ⟨rfl, rfl⟩ | ⟨rfl, rfl⟩ | ⟨t, rfl⟩ <;> intros <;> rfl
  have hlow2 : ∀ ns al, v.low ns al = true := by rcases h with ⟨rfl, rfl⟩ | ⟨rfl, rfl⟩ | ⟨t, rfl⟩ <;> intros <;> rfl
  by_cases h1 : s < 0
  · simp -implicitDefEqProofs [a9, c9, hc, hcb, hlow, hlow2, h1, show ¬ 0 ≤ s by omega]
  by_cases h2 : 100000 < s
  · simp -implicitDefEqProofs [a9, c9, hc, hcb, hlow, hlow2, h1, h2, show ¬ s ≤ 100000 by omega]
  obtain ⟨k, rfl⟩ : ∃ k : Nat, s = k := ⟨s.toNat, by omega⟩
  have w1 : IntKind.u64.wrap (k : Int) = k := by rw [wrap_u64]; omega
  have o := ones20 n k (by omega)
  rw [Int.toNat_natCast]
  have g1 : (0 : Int) ≤ k := by omega
  have g2 : (k : Int) ≤ 100000 := by omega
  by_cases h3 : D.length = pop k
  · have h3' : ((D.length : Int) != (pop k : Int)) = false := by simp [h3]
    simp -implicitDefEqProofs [a9, c9, q20, o, hl, hc, hcb, hlow, hlow2, h1, h2, w1, h3, h3', g1, g2]
  · have h3' : ((D.length : Int) != (pop k : Int)) = true := by simp only [bne_iff_ne, ne_eq]; omega
    simp -implicitDefEqProofs [a9, c9, q20, o, hl, hc, hcb, hlow, hlow2, h1, h2, w1, h3, h3', g1, g2]
theorem right11 (n : Nat) (s : Int) (v : AV) (D : List Dg) (h : LD D v) (hn : D.length ≤ 1000000) : E (n + 2) 11 [.int .i64 s, v] = some (.bool (okF s D.length), []) := by
  rw [e11]
  unfold okF
  have hl := h.len
  have hc : ∀ (H : AH) c nm, inCell H c nm v = some (v, H, c) := by rcases h with ⟨rfl, rfl⟩ | ⟨rfl, rfl⟩ | ⟨t, rfl⟩ <;> intros <;> rfl
  have hc2 : ∀ (H : AH) c nm, inVal H c nm v = some (v, H, c) := by rcases h with ⟨rfl, rfl⟩ | ⟨rfl, rfl⟩ | ⟨t, rfl⟩ <;> intros <;> rfl
  by_cases h1 : s < 0
  · simp -implicitDefEqProofs [a11, c11, hc, hc2, show ¬ 0 ≤ s by omega]
  by_cases h2 : 100000 < s
  · simp -implicitDefEqProofs [a11, c11, hc, hc2, show 0 ≤ s by omega, show ¬ s ≤ 100000 by omega]
  obtain ⟨k, rfl⟩ : ∃ k : Nat, s = k := ⟨s.toNat, by omega⟩
  have o := many24 n k (by omega)
  rw [Int.toNat_natCast]
  have g1 : (0 : Int) ≤ k := by omega
  have g2 : (k : Int) ≤ 100000 := by omega
  by_cases h3 : D.length = pop k
  · simp -implicitDefEqProofs [a11, c11, q24, o, hl, hc, hc2, h3, g1, g2]
  · have h3' : ((D.length : Int) == (pop k : Int)) = false := by simp only [beq_eq_false_iff_ne, ne_eq]; omega
    simp -implicitDefEqProofs [a11, c11, q24, o, hl, hc, hc2, h3, h3', g1, g2]
end Go.Abs.Tryd

namespace Go.Abs.Tryd
open Go Go.Abs Go.Abs.Sha
set_option maxHeartbeats 16000000
set_option maxRecDepth 100000
set_option linter.unusedSimpArgs false
set_option linter.unusedVariables false
/-- the knot of two digests -/
def Kn (a b : Dg) : Dg := sha (1 :: (a ++ b))
theorem Kn_len (a b : Dg) : (Kn a b).length = 32 := sha_len _
/-- the last two become one -/
def mrg (P : List Dg) : List Dg := P.take (P.length - 2) ++ [Kn (P.getD (P.length - 2) []) (P.getD (P.length - 1) [])]
def mrgN : Nat → List Dg → List Dg
  | 0, P => P
  | m + 1, P => mrgN m (mrg P)
theorem mrg_len {P : List Dg} (h : 2 ≤ P.length) : (mrg P).length = P.length - 1 := by
  simp only [mrg, List.length_append, List.length_take, List.length_cons, List.length_nil]; omega
theorem mrg_32 {P : List Dg} (h : All32 P) : All32 (mrg P) := by
  intro d hd
  rcases List.mem_append.1 hd with hd | hd
  · exact h d (List.mem_of_mem_take hd)
  · rw [List.mem_singleton.1 hd]; exact Kn_len _ _
theorem mrgN_len : ∀ (m : Nat) {P : List Dg}, m + 1 ≤ P.length → (mrgN m P).length = P.length - m
  | 0, P, h => rfl
  | m + 1, P, h => by
    rw [mrgN, mrgN_len m (by rw [mrg_len (by omega)]; omega), mrg_len (by omega)]; omega
theorem mrgN_32 : ∀ (m : Nat) {P : List Dg}, All32 P → All32 (mrgN m P)
  | 0, P, h => h
  | m + 1, P, h => mrgN_32 m (mrg_32 h)
/-- a leaf comes to the peaks of a list of s -/
def addL (s : Nat) (leaf : Dg) (P : List Dg) : List Dg := mrgN (tz (s + 1)) (P ++ [leaf])
theorem tz_pop : ∀ (n s : Nat), s < n → tz (s + 1) ≤ pop s ∧ pop (s + 1) + tz (s + 1) = pop s + 1
  | 0, s, h => by omega
  | n + 1, s, h => by
    by_cases e : s % 2 = 0
    · rw [tz_odd (by omega), pop_pos (n := s + 1) (by omega)]
      by_cases h0 : s = 0
      · subst h0; rw [pop_zero]; simp [pop_zero]
      · rw [pop_pos h0, show (s + 1) / 2 = s / 2 by omega]; omega
    · obtain ⟨h1, h2⟩ := tz_pop n (s / 2) (by omega)
      rw [tz_even (by omega) (by omega), pop_pos (n := s + 1) (by omega), pop_pos (n := s) (by omega), show (s + 1) / 2 = s / 2 + 1 by omega]
      omega
theorem addL_len {s : Nat} {leaf : Dg} {P : List Dg} (h : P.length = pop s) : (addL s leaf P).length = pop (s + 1) := by
  obtain ⟨h1, h2⟩ := tz_pop (s + 1) s (by omega)
  unfold addL
  rw [mrgN_len _ (by rw [List.length_append, List.length_singleton]; omega), List.length_append, List.length_singleton]; omega
theorem addL_32 {s : Nat} {leaf : Dg} {P : List Dg} (h : All32 P) (hl : leaf.length = 32) : All32 (addL s leaf P) := by
  refine mrgN_32 _ (fun d hd => ?_)
  rcases List.mem_append.1 hd with hd | hd
  · exact h d hd
  · rw [List.mem_singleton.1 hd]; exact hl
theorem knot23 (n : Nat) (a b : Dg) (ha : a.length = 32) (hb : b.length = 32) : E (n + 6) 23 [.agg (u8s a), .agg (u8s b)] = some (.agg (u8s (Kn a b)), []) := knot15 n a b ha hb

theorem plain_fz {v : AV} (hp : v.plain = true) (h : AH) : freeze1 h v = some (v, h) := by
  cases v <;> first | (simp [freeze1, hp]; done) | (simp [AV.plain] at hp; done) | skip
theorem plains_fz : ∀ {l : List AV}, l.all AV.plain = true → ∀ h, freezeL h l = some (l, h)
  | [], _, h => rfl
  | v :: r, hp, h => by
    rw [List.all_cons, Bool.and_eq_true] at hp
    simp [freezeL, plain_fz hp.1, plains_fz hp.2]
/-- the memory of a front at work -/
def HW (b : Bool) (g gb : Nat) (s : Int) (len : Nat) (R : List (List AV)) : AH :=
  if b then [⟨13, gb, .arr 32 R false⟩, ⟨100000, g, .var [.int .i64 s, .own 13 gb 0 len]⟩]
  else [⟨100000, g, .var [.int .i64 s, .own 100002 gb 0 len]⟩, ⟨100002, gb, .arr 32 R false⟩]
theorem rows_mrg {P : List Dg} {R : List (List AV)} (h : R.take P.length = dr P) (h2 : 2 ≤ P.length) (hR : P.length ≤ R.length) :
    R[P.length - 2]? = some (u8s (P.getD (P.length - 2) [])) ∧ R[P.length - 1]? = some (u8s (P.getD (P.length - 1) [])) ∧
    (R.take (P.length - 2) ++ ([u8s (Kn (P.getD (P.length - 2) []) (P.getD (P.length - 1) []))] ++ R.drop (P.length - 2 + 1))).take (P.length - 1) = dr (mrg P) := by
  have get : ∀ i, i < P.length → R[i]? = some (u8s (P.getD i [])) := by
    intro i hi
    have : (R.take P.length)[i]? = (dr P)[i]? := by rw [h]
    rw [List.getElem?_take_of_lt hi] at this
    rw [this, dr, List.getElem?_map, List.getD_eq_getElem?_getD, List.getElem?_eq_getElem hi]; rfl
  refine ⟨get _ (by omega), get _ (by omega), ?_⟩
  have hl : (R.take (P.length - 2)).length = P.length - 2 := by rw [List.length_take]; omega
  rw [← List.append_assoc, List.take_append_of_le_length (by rw [List.length_append, hl, List.length_singleton]; omega), List.take_of_length_le (by rw [List.length_append, hl, List.length_singleton]; omega)]
  have e : R.take (P.length - 2) = dr (P.take (P.length - 2)) := by
    have : (R.take P.length).take (P.length - 2) = (dr P).take (P.length - 2) := by rw [h]
    rw [List.take_take, Nat.min_eq_left (by omega)] at this
    rw [this]; simp [dr]
  rw [e]; simp [dr, mrg]
theorem step27 (n : Nat) (b : Bool) (g gb c k m j : Nat) (s : Int) (P : List Dg) (R : List (List AV)) (hP : All32 P) (h2 : 2 ≤ P.length) (hR : P.length ≤ R.length) (hL : R.length ≤ 1000000) (hT : R.take P.length = dr P) (hj : j < m) (hm : m ≤ 100000) (hg : g < c) (hgb : gb < c) :
    ∃ R', mrg P = mrg P ∧ (mrg P).length ≤ R'.length ∧ R'.length ≤ 1000000 ∧ R'.take (mrg P).length = dr (mrg P) ∧
    iter (ev (Q (n + 6)) 3000 b27_0) [0, 32, 33] [13, 69, 100000, 100002] (k + 1) ⟨[(0, .ptr 100000 g 0), (32, .int .i64 m), (33, .int .i64 j)], HW b g gb s P.length R, c⟩ =
    iter (ev (Q (n + 6)) 3000 b27_0) [0, 32, 33] [13, 69, 100000, 100002] k ⟨[(0, .ptr 100000 g 0), (32, .int .i64 m), (33, .int .i64 (j + 1 : Nat))], HW b g (c + 1) s (mrg P).length R', c + 2⟩ := by
  obtain ⟨r1, r2, r3⟩ := rows_mrg hT h2 hR
  have hml := mrg_len h2
  have ha : (P.getD (P.length - 2) []).length = 32 := by
    rw [List.getD_eq_getElem?_getD, List.getElem?_eq_getElem (by omega)]; exact hP _ (List.getElem_mem _)
  have hb : (P.getD (P.length - 1) []).length = 32 := by
    rw [List.getD_eq_getElem?_getD, List.getElem?_eq_getElem (by omega)]; exact hP _ (List.getElem_mem _)
  have kn := knot23 n _ _ ha hb
  obtain ⟨q, hq⟩ : ∃ q, P.length = q + 2 := ⟨P.length - 2, by omega⟩
  refine ⟨R.take (P.length - 2) ++ ([u8s (Kn (P.getD (P.length - 2) []) (P.getD (P.length - 1) []))] ++ R.drop (P.length - 2 + 1)), rfl, ?_, ?_, ?_, iter_norm ?_⟩
  · rw [hml]; simp; omega
  · simp; omega
  · rw [hml]; exact r3
  have l1 := u8s_len (P.getD (P.length - 2) [])
  have l2 := u8s_len (P.getD (P.length - 1) [])
  have l3 := u8s_len (Kn (P.getD (P.length - 2) []) (P.getD (P.length - 1) []))
  rw [ha] at l1
  rw [hb] at l2
  rw [Kn_len] at l3
  have p1 := u8s_plain (P.getD (P.length - 2) [])
  have p2 := u8s_plain (P.getD (P.length - 1) [])
  have p3 := u8s_plain (Kn (P.getD (P.length - 2) []) (P.getD (P.length - 1) []))
  rw [hml]
  clear hT r3 hml ha hb
  have s1 : q + 2 - 2 = q := by omega
  have s2 : q + 2 - 1 = q + 1 := by omega
  rw [hq] at r1 r2 kn l1 l2 l3 p1 p2 p3 hR h2
  rw [hq]
  rw [s1] at r1 kn l1 l3 p1 p3
  rw [s2] at r2 kn l2 l3 p2 p3
  rw [s1, s2]
  have c1 : (q : Int) ≤ 1000000 := by omega
  have w1' : IntKind.i64.wrap (q : Int) = q := wrap_i64 _ (by omega) (by omega)
  generalize u8s (Kn (P.getD q []) (P.getD (q + 1) [])) = y3 at *
  generalize u8s (P.getD q []) = y1 at *
  generalize u8s (P.getD (q + 1) []) = y2 at *
  have t1 : y1.take 32 = y1 := List.take_of_length_le (by omega)
  have t2 : y2.take 32 = y2 := List.take_of_length_le (by omega)
  have t3 : y3.take 32 = y3 := List.take_of_length_le (by omega)
  have w1 : IntKind.i64.wrap ((q : Int) + 2 - 2) = q := by rw [wrap_i64 _ (by omega) (by omega)]; omega
  have w2 : IntKind.i64.wrap ((q : Int) + 1) = (q + 1 : Nat) := by rw [wrap_i64 _ (by omega) (by omega)]; omega
  have w3 : IntKind.i64.wrap ((j : Int) + 1) = (j + 1 : Nat) := by rw [wrap_i64 _ (by omega) (by omega)]; omega
  have e0 : ((q + 2 : Nat) : Int) = (q : Int) + 2 := by omega
  have j1 : (j : Int) < m := by omega
  have b1 : (q : Int) ≤ R.length := by omega
  have b2 : q ≤ R.length := by omega
  have b3 : q + 1 ≤ R.length := by omega
  have b4 : q + 1 < R.length := by omega
  have b5 : q < R.length := by omega
  have b6 : ((q + 1 : Nat) : Int).toNat = q + 1 := Int.toNat_natCast _
  have b7 : (0 : Int) ≤ ((q + 1 : Nat) : Int) := by omega
  have m1 : (q + 1) * 32 ≤ maxBytes := by simp only [maxBytes]; omega
  have r1' := (List.getElem?_eq_some_iff.1 r1).2
  have r2' := (List.getElem?_eq_some_iff.1 r2).2
  generalize ((q + 1 : Nat) : Int) = q1 at *
  generalize ((j + 1 : Nat) : Int) = j' at *
  have z1 : z29.length = 32 := rfl
  unfold HW
  cases b <;> simp -implicitDefEqProofs [b27_0, St.keep, q23, kn, e0, w1, w1', w2, w3, j1, b1, b2, b3, b4, b5, b6, b7, m1, r1, r2, r1', r2', l1, l2, l3, t1, t2, t3, hg, hgb, aappend, z1, plains_fz p3,
    plains_cells p1, plains_cells p2, plains_cells p3, plains_in p3, plains_lend p1, plains_lend p2, plains_low p1, plains_low p2, plains_low p3, plains_mv p3]
end Go.Abs.Tryd

namespace Go.Abs.Tryd
open Go Go.Abs Go.Abs.Sha
set_option maxHeartbeats 16000000
set_option maxRecDepth 100000
set_option linter.unusedSimpArgs false
set_option linter.unusedVariables false
theorem ev_seqK {Φ : Nat → Option FnF} {k : Nat} {a b : AC} {kt kh : List Nat} {s s1 : St} {r : Option (Ex × St)} (h : (ev Φ k a s).map (fun q => (q.1, q.2.keep kt kh)) = some (.normal, s1)) (h2 : ev Φ k b s1 = r) : ev Φ k (.seq a (.keep kt kh b)) s = r := by
  rw [Option.map_eq_some_iff] at h
  obtain ⟨⟨e, q⟩, h3, h4⟩ := h
  simp only [Prod.mk.injEq] at h4
  obtain ⟨rfl, rfl⟩ := h4
  exact ev_seqN h3 h2
theorem ev_blockX {Φ : Nat → Option FnF} {k id : Nat} {b : AC} {s s1 : St} (h : ev Φ k b s = some (.exit id, s1)) : ev Φ k (.block id b) s = some (.normal, s1) := by
  rw [ev, h]; simp
theorem loop27 (n : Nat) (b : Bool) (g m : Nat) (s : Int) (hm : m ≤ 100000) : ∀ (d j k c gb : Nat) (P : List Dg) (R : List (List AV)), j + d = m → d < k → All32 P → d + 1 ≤ P.length → P.length ≤ R.length → R.length ≤ 1000000 → R.take P.length = dr P → g < c → gb < c →
    ∃ E' R' gb' c', iter (ev (Q (n + 6)) 3000 b27_0) [0, 32, 33] [13, 69, 100000, 100002] k ⟨[(0, .ptr 100000 g 0), (32, .int .i64 m), (33, .int .i64 j)], HW b g gb s P.length R, c⟩ =
      some (.exit 0, ⟨E', HW b g gb' s (mrgN d P).length R', c'⟩) ∧ R'.take (mrgN d P).length = dr (mrgN d P) ∧ (mrgN d P).length ≤ R'.length ∧ R'.length ≤ 1000000
  | d, j, 0, c, gb, P, R, hi, hk, hP, h2, hR, hL, hT, hg, hgb => by omega
  | 0, j, k + 1, c, gb, P, R, hi, hk, hP, h2, hR, hL, hT, hg, hgb => by
    obtain rfl : j = m := by omega
    refine ⟨[(0, .ptr 100000 g 0), (32, .int .i64 j), (33, .int .i64 j), (34, .bool false)], R, gb, c, ?_, hT, hR, hL⟩
    rw [iter_succ]
    show _ = some (Ex.exit 0, (⟨_, HW b g gb s P.length R, c⟩ : St))
    unfold HW
    cases b <;> simp -implicitDefEqProofs [b27_0]
  | d + 1, j, k + 1, c, gb, P, R, hi, hk, hP, h2, hR, hL, hT, hg, hgb => by
    obtain ⟨R1, _, q1, q2, q3, e⟩ := step27 n b g gb c k m j s P R hP (by omega) hR hL hT (by omega) hm hg hgb
    rw [e]
    have hl := mrg_len (P := P) (by omega)
    exact loop27 n b g m s hm d (j + 1) k (c + 2) (c + 1) (mrg P) R1 (by omega) (by omega) (mrg_32 hP) (by omega) q1 q2 q3 (by omega) (by omega)
/-- peaks of a front at work, as they come over a call's border -/
def FV (P : List Dg) (v : AV) : Prop := (v = .nilS ∧ P = []) ∨ (v = .emp ∧ P = []) ∨ v = .fr 32 (dr P)
theorem add27_of (n : Nat) (s s1 tt : Int) (v : AV) (P : List Dg) (hv : FV P v) (leaf : List AV) (W : List (List AV)) (wl : Nat) (t31 : E (n + 6) 31 [.int .u64 s1] = some (.int .i64 tt, []))
    (w1 : IntKind.i64.wrap (s + 1) = s1) (w2 : IntKind.u64.wrap s1 = s1) (ll : leaf.length = 32) (lt : leaf.take 32 = leaf) (lp : leaf.all AV.plain = true) (m1 : (P.length + 1) * 32 ≤ maxBytes)
    (lb : ∀ (b : Bool) (g c gb : Nat), g < c → gb < c → ∃ E' R' gb' c', iter (ev (Q (n + 6)) 3000 b27_0) [0, 32, 33] [13, 69, 100000, 100002] 3000 ⟨[(0, .ptr 100000 g 0), (32, .int .i64 tt), (33, .int .i64 0)], HW b g gb s1 (P.length + 1) (dr P ++ [leaf]), c⟩ =
      some (.exit 0, ⟨E', HW b g gb' s1 wl R', c'⟩) ∧ R'.take wl = W ∧ wl ≤ R'.length ∧ R'.length ≤ 1000000) :
    evFun (Q (n + 6)) 3000 a27 [.pv [.int .i64 s, v], .agg leaf] = some (.tup [], [[.int .i64 s1, .fr 32 W]]) := by
  have z1 : z29.length = 32 := rfl
  have rl := dr_len P
  have m0 : 32 ≤ maxBytes := by simp only [maxBytes]; omega
  have l9 : ¬ P.length + 1 ≤ P.length := by omega
  have tk : (dr P).take P.length = dr P := List.take_of_length_le (by omega)
  rcases hv with ⟨rfl, rfl⟩ | ⟨rfl, rfl⟩ | rfl
  ·
    obtain ⟨E', R', gb', c', e, q1, q2, q3⟩ := lb true 0 4 3 (by omega) (by omega)
    refine fun_of (q := ([.ptr 100000 0 0, .agg (leaf)], [⟨100000, 0, .var [.int .i64 s, .nilS]⟩], 1)) (by simp [a27]) (by simp -implicitDefEqProofs [plains_in lp]) (e := .normal) (s' := ⟨E', HW true 0 gb' s1 wl R', c'⟩) ?_ (.inl rfl) ?_
    · show ev (Q (n + 6)) 3000 c27 ⟨[(0, .ptr 100000 0 0), (1, .agg (leaf))], _, _⟩ = _
      unfold c27
      refine ev_seqN (s1 := ⟨[(0, .ptr 100000 0 0), (1, .agg (leaf)), (3, .ptr 3 1 0)], ⟨3, 1, .var (leaf)⟩ :: [⟨100000, 0, .var [.int .i64 s, .nilS]⟩], 1 + 1⟩) (by simp -implicitDefEqProofs [q31, t31, w1, w2, ll, lt, z1, m1, m0, l9, rl, tk, aappend, plains_cells lp, plains_in lp, plains_low lp, plains_mv lp, plains_fz lp, plains_lend lp, St.keep]) ?_
      refine ev_seqK (s1 := ⟨[(0, .ptr 100000 0 0)], HW true 0 3 s 1 ([leaf]), 4⟩) (by unfold HW; simp -implicitDefEqProofs [q31, t31, w1, w2, ll, lt, z1, m1, m0, l9, rl, tk, aappend, plains_cells lp, plains_in lp, plains_low lp, plains_mv lp, plains_fz lp, plains_lend lp, St.keep]) ?_
      refine ev_seqK (s1 := ⟨[(0, .ptr 100000 0 0)], HW true 0 3 s1 1 ([leaf]), 4⟩) (by unfold HW; simp -implicitDefEqProofs [q31, t31, w1, w2, ll, lt, z1, m1, m0, l9, rl, tk, aappend, plains_cells lp, plains_in lp, plains_low lp, plains_mv lp, plains_fz lp, plains_lend lp, St.keep]) ?_
      refine ev_seqK (s1 := ⟨[(0, .ptr 100000 0 0), (32, .int .i64 tt), (33, .int .i64 0)], HW true 0 3 s1 1 ([leaf]), 4⟩) (by unfold HW; simp -implicitDefEqProofs [q31, t31, w1, w2, ll, lt, z1, m1, m0, l9, rl, tk, aappend, plains_cells lp, plains_in lp, plains_low lp, plains_mv lp, plains_fz lp, plains_lend lp, St.keep]) ?_
      exact ev_blockX e
    · unfold HW
      simp -implicitDefEqProofs [a27, q1, q2]
  ·
    obtain ⟨E', R', gb', c', e, q1, q2, q3⟩ := lb true 0 4 3 (by omega) (by omega)
    refine fun_of (q := ([.ptr 100000 0 0, .agg (leaf)], [⟨100000, 0, .var [.int .i64 s, .emp]⟩], 1)) (by simp [a27]) (by simp -implicitDefEqProofs [plains_in lp]) (e := .normal) (s' := ⟨E', HW true 0 gb' s1 wl R', c'⟩) ?_ (.inl rfl) ?_
    · show ev (Q (n + 6)) 3000 c27 ⟨[(0, .ptr 100000 0 0), (1, .agg (leaf))], _, _⟩ = _
      unfold c27
      refine ev_seqN (s1 := ⟨[(0, .ptr 100000 0 0), (1, .agg (leaf)), (3, .ptr 3 1 0)], ⟨3, 1, .var (leaf)⟩ :: [⟨100000, 0, .var [.int .i64 s, .emp]⟩], 1 + 1⟩) (by simp -implicitDefEqProofs [q31, t31, w1, w2, ll, lt, z1, m1, m0, l9, rl, tk, aappend, plains_cells lp, plains_in lp, plains_low lp, plains_mv lp, plains_fz lp, plains_lend lp, St.keep]) ?_
      refine ev_seqK (s1 := ⟨[(0, .ptr 100000 0 0)], HW true 0 3 s 1 ([leaf]), 4⟩) (by unfold HW; simp -implicitDefEqProofs [q31, t31, w1, w2, ll, lt, z1, m1, m0, l9, rl, tk, aappend, plains_cells lp, plains_in lp, plains_low lp, plains_mv lp, plains_fz lp, plains_lend lp, St.keep]) ?_
      refine ev_seqK (s1 := ⟨[(0, .ptr 100000 0 0)], HW true 0 3 s1 1 ([leaf]), 4⟩) (by unfold HW; simp -implicitDefEqProofs [q31, t31, w1, w2, ll, lt, z1, m1, m0, l9, rl, tk, aappend, plains_cells lp, plains_in lp, plains_low lp, plains_mv lp, plains_fz lp, plains_lend lp, St.keep]) ?_
      refine ev_seqK (s1 := ⟨[(0, .ptr 100000 0 0), (32, .int .i64 tt), (33, .int .i64 0)], HW true 0 3 s1 1 ([leaf]), 4⟩) (by unfold HW; simp -implicitDefEqProofs [q31, t31, w1, w2, ll, lt, z1, m1, m0, l9, rl, tk, aappend, plains_cells lp, plains_in lp, plains_low lp, plains_mv lp, plains_fz lp, plains_lend lp, St.keep]) ?_
      exact ev_blockX e
    · unfold HW
      simp -implicitDefEqProofs [a27, q1, q2]
  ·
    obtain ⟨E', R', gb', c', e, q1, q2, q3⟩ := lb false 1 5 4 (by omega) (by omega)
    refine fun_of (q := ([.ptr 100000 1 0, .agg (leaf)], [⟨100000, 1, .var [.int .i64 s, .own 100002 0 0 P.length]⟩, ⟨100002, 0, .arr 32 (dr P) false⟩], 2)) (by simp [a27]) (by simp -implicitDefEqProofs [plains_in lp, rl]) (e := .normal) (s' := ⟨E', HW false 1 gb' s1 wl R', c'⟩) ?_ (.inl rfl) ?_
    · show ev (Q (n + 6)) 3000 c27 ⟨[(0, .ptr 100000 1 0), (1, .agg (leaf))], _, _⟩ = _
      unfold c27
      refine ev_seqN (s1 := ⟨[(0, .ptr 100000 1 0), (1, .agg (leaf)), (3, .ptr 3 2 0)], ⟨3, 2, .var (leaf)⟩ :: [⟨100000, 1, .var [.int .i64 s, .own 100002 0 0 P.length]⟩, ⟨100002, 0, .arr 32 (dr P) false⟩], 2 + 1⟩) (by simp -implicitDefEqProofs [q31, t31, w1, w2, ll, lt, z1, m1, m0, l9, rl, tk, aappend, plains_cells lp, plains_in lp, plains_low lp, plains_mv lp, plains_fz lp, plains_lend lp, St.keep]) ?_
      refine ev_seqK (s1 := ⟨[(0, .ptr 100000 1 0)], HW false 1 4 s (P.length + 1) (dr P ++ [leaf]), 5⟩) (by unfold HW; simp -implicitDefEqProofs [q31, t31, w1, w2, ll, lt, z1, m1, m0, l9, rl, tk, aappend, plains_cells lp, plains_in lp, plains_low lp, plains_mv lp, plains_fz lp, plains_lend lp, St.keep]) ?_
      refine ev_seqK (s1 := ⟨[(0, .ptr 100000 1 0)], HW false 1 4 s1 (P.length + 1) (dr P ++ [leaf]), 5⟩) (by unfold HW; simp -implicitDefEqProofs [q31, t31, w1, w2, ll, lt, z1, m1, m0, l9, rl, tk, aappend, plains_cells lp, plains_in lp, plains_low lp, plains_mv lp, plains_fz lp, plains_lend lp, St.keep]) ?_
      refine ev_seqK (s1 := ⟨[(0, .ptr 100000 1 0), (32, .int .i64 tt), (33, .int .i64 0)], HW false 1 4 s1 (P.length + 1) (dr P ++ [leaf]), 5⟩) (by unfold HW; simp -implicitDefEqProofs [q31, t31, w1, w2, ll, lt, z1, m1, m0, l9, rl, tk, aappend, plains_cells lp, plains_in lp, plains_low lp, plains_mv lp, plains_fz lp, plains_lend lp, St.keep]) ?_
      exact ev_blockX e
    · unfold HW
      simp -implicitDefEqProofs [a27, q1, q2]
theorem add27 (n s : Nat) (hs : s ≤ 100000) (v : AV) (P : List Dg) (hP : All32 P) (hv : FV P v) (hl : P.length = pop s) (leaf : Dg) (h32 : leaf.length = 32) (hb : P.length ≤ 1000) :
    E (n + 7) 27 [.pv [.int .i64 s, v], .agg (u8s leaf)] = some (.tup [], [[.int .i64 ((s + 1 : Nat) : Int), .fr 32 (dr (addL s leaf P))]]) := by
  rw [e27]
  obtain ⟨tp, _⟩ := tz_pop (s + 1) s (by omega)
  have ll := u8s_len leaf
  rw [h32] at ll
  have hlt : dr (P ++ [leaf]) = dr P ++ [u8s leaf] := by simp [dr]
  have hln : (P ++ [leaf]).length = P.length + 1 := by simp
  have hA : All32 (P ++ [leaf]) := fun d hd => by
    rcases List.mem_append.1 hd with hd | hd
    · exact hP d hd
    · rw [List.mem_singleton.1 hd]; exact h32
  refine add27_of n s _ (tz (s + 1) : Nat) v P hv (u8s leaf) (dr (addL s leaf P)) (addL s leaf P).length (tz31 (n + 4) (s + 1) (by omega) (by omega)) (by rw [wrap_i64 _ (by omega) (by omega)]; omega) (by rw [wrap_u64]; omega) ll (List.take_of_length_le (by omega)) (u8s_plain leaf) (by simp only [maxBytes]; omega) ?_
  intro b g c gb hg hgb
  have := loop27 n b g (tz (s + 1)) ((s + 1 : Nat) : Int) (by omega) (tz (s + 1)) 0 3000 c gb (P ++ [leaf]) (dr (P ++ [leaf])) (by omega) (by omega) hA (by omega) (by rw [dr_len]; omega) (by rw [dr_len]; omega) (by rw [List.take_of_length_le (by rw [dr_len]; omega)]) hg hgb
  rw [hlt, hln] at this
  exact this
end Go.Abs.Tryd

namespace Go.Abs.Tryd
open Go Go.Abs Go.Abs.Sha
set_option maxHeartbeats 16000000
set_option maxRecDepth 100000
set_option linter.unusedSimpArgs false
set_option linter.unusedVariables false
theorem add17_no (n : Nat) (s : Int) (v : AV) (P : List Dg) (hv : LD P v) (leaf : List AV) (c9 : E (n + 7) 9 [.agg [.int .i64 s, v]] = some (.int .i64 30, [])) (ll : leaf.length = 32) (lp : leaf.all AV.plain = true) :
    evFun (Q (n + 7)) 3000 a17 [.agg [.int .i64 s, v], .agg leaf] = some (.tup [.agg [.int .i64 0, .nilS], .int .i64 30], []) := by
  simp -implicitDefEqProofs [a17, c17, q9, c9, hv.cell, hv.cb, hv.ldc, ll, plains_cells lp, plains_in lp, z25]
theorem add17_full (n : Nat) (v : AV) (P : List Dg) (hv : LD P v) (leaf : List AV) (c9 : E (n + 7) 9 [.agg [.int .i64 100000, v]] = some (.int .i64 0, [])) (ll : leaf.length = 32) (lp : leaf.all AV.plain = true) :
    evFun (Q (n + 7)) 3000 a17 [.agg [.int .i64 100000, v], .agg leaf] = some (.tup [.agg [.int .i64 0, .nilS], .int .i64 2], []) := by
  simp -implicitDefEqProofs [a17, c17, q9, c9, hv.cell, hv.cb, hv.ldc, ll, plains_cells lp, plains_in lp, z25]
theorem add17_of (n : Nat) (s s1 : Int) (v u : AV) (P : List Dg) (hv : LD P v) (hu : u = .nilS ∨ u = .emp ∨ u = .fr 32 (dr P)) (leaf : List AV) (W : List (List AV)) (hW : W.take W.length = W) (c9 : E (n + 7) 9 [.agg [.int .i64 s, v]] = some (.int .i64 0, []))
    (c29 : E (n + 7) 29 [v] = some (u, [])) (c27 : E (n + 7) 27 [.pv [.int .i64 s, u], .agg leaf] = some (.tup [], [[.int .i64 s1, .fr 32 W]])) (ns : (s == 100000) = false) (ll : leaf.length = 32) (lp : leaf.all AV.plain = true) :
    evFun (Q (n + 7)) 3000 a17 [.agg [.int .i64 s, v], .agg leaf] = some (.tup [.agg [.int .i64 s1, .fr 32 W], .int .i64 0], []) := by
  have lt : leaf.take 32 = leaf := List.take_of_length_le (by omega)
  have rl := dr_len P
  have tk : (dr P).take P.length = dr P := List.take_of_length_le (by omega)
  have n1 : ¬ s = 100000 := by simpa using ns
  rcases hu with rfl | rfl | rfl <;>
  simp -implicitDefEqProofs [a17, Tryd.c17, q9, q27, q29, c9, c29, c27, ns, n1, hv.cell, hv.cb, hv.ldc, hv.ld, hv.mv, hv.low1, hv.low, ll, lt, rl, tk, hW, plains_cells lp, plains_in lp, plains_lend lp, plains_mv lp, z25, z54]
end Go.Abs.Tryd

namespace Go.Abs.Tryd
open Go Go.Abs Go.Proofs Go.Abs.Sha
set_option maxHeartbeats 64000000
set_option maxRecDepth 100000
set_option linter.unusedSimpArgs false
set_option linter.unusedVariables false
theorem text22 (n : Nat) (a : List UInt8) (ha : a.length = 32) : E (n + 1) 38 [.agg (u8s a)] = some (.str ⟨a.toArray⟩, []) := by
  rw [e38]
  have pa := u8s_plain a
  have la : (u8s a).length = 32 := by rw [u8s_len, ha]
  have ta : (u8s a).take 32 = u8s a := List.take_of_length_le (by omega)
  have ma := u8s_map a
  have ra := toBytes_rows a
  simp -implicitDefEqProofs [a38, Tryd.c38, plains_cells pa, plains_in pa, la, ta, ma, ra, pa]
theorem knot16_of {J : Nat → InlF → InlF} {Y : InlF} {J22 : Nat → InlF → InlF} {Y22 : InlF} (Φ : Nat → Option FnF) (K : Nat) (F F22 : CallF) (G G22 : InlF) (D : List AV) (a b : List UInt8) (ha : a.length = 32) (hb : b.length = 32) (hF : Φ 25 = some ⟨F, G, J, Y⟩) (hF22 : Φ 38 = some ⟨F22, G22, J22, Y22⟩) (h : F [.str ⟨(1 :: (a ++ b)).toArray⟩] = some (.agg D, []))
    (ta' : F22 [.agg (u8s a)] = some (.str ⟨a.toArray⟩, [])) (tb' : F22 [.agg (u8s b)] = some (.str ⟨b.toArray⟩, [])) (hp : D.all AV.plain = true) (hl : D.length = 32) : evFun Φ K a26 [.agg (u8s a), .agg (u8s b)] = some (.agg D, []) := by
  have ht : D.take 32 = D := List.take_of_length_le (by omega)
  have pa := u8s_plain a
  have pb := u8s_plain b
  have la : (u8s a).length = 32 := by rw [u8s_len, ha]
  have lb : (u8s b).length = 32 := by rw [u8s_len, hb]
  have ta : (u8s a).take 32 = u8s a := List.take_of_length_le (by omega)
  have tb : (u8s b).take 32 = u8s b := List.take_of_length_le (by omega)
  have s1 := astr_add_bytes [1] a (by simp; omega)
  have s2 := astr_add_bytes (1 :: a) b (by simp; omega)
  change astr .add ⟨#[1]⟩ _ = some (.str ⟨(1 :: a).toArray⟩) at s1
  rw [List.cons_append] at s2
  generalize (1 :: (a ++ b)).toArray = A at *
  generalize (1 :: a).toArray = A1 at *
  simp -implicitDefEqProofs [a26, Tryd.c26, hF, hF22, h, ta', tb', s1, s2, abin, plains_cells hp, plains_mv hp, plains_in hp, plains_low hp, plains_cells pa, plains_in pa, plains_low pa, plains_lend pa, plains_cells pb, plains_in pb, plains_low pb, plains_lend pb, hl, ht, z27_len, z27_drop, la, lb, ta, tb]
theorem knot16 (n : Nat) (a b : List UInt8) (ha : a.length = 32) (hb : b.length = 32) : E (n + 5) 26 [.agg (u8s a), .agg (u8s b)] = some (.agg (u8s (sha (1 :: (a ++ b)))), []) := by
  rw [e26]
  exact knot16_of _ _ _ _ _ _ _ a b ha hb (q25 (n + 3)) (q38 (n + 3)) (sum11 n (1 :: (a ++ b)) (by simp; omega)) (text22 (n + 3) a ha) (text22 (n + 3) b hb) (u8s_plain _) (cells32 _)
end Go.Abs.Tryd

namespace Go.Abs.Tryd
open Go Go.Abs Go.Abs.Sha
set_option maxHeartbeats 16000000
set_option maxRecDepth 100000
set_option linter.unusedSimpArgs false
set_option linter.unusedVariables false
/-- what front.Add answers -/
def addF (s : Int) (P : List Dg) (leaf : Dg) : AV :=
  if okF s P.length then (if s = 100000 then .tup [.agg [.int .i64 0, .nilS], .int .i64 2] else .tup [.agg [.int .i64 ((s.toNat + 1 : Nat) : Int), .fr 32 (dr (addL s.toNat leaf P))], .int .i64 0])
  else .tup [.agg [.int .i64 0, .nilS], .int .i64 30]
theorem okF_spec {s : Int} {k : Nat} (h : okF s k = true) : ∃ t : Nat, s = t ∧ t ≤ 100000 ∧ k = pop t := by
  simp only [okF, Bool.and_eq_true, decide_eq_true_eq] at h
  exact ⟨s.toNat, by omega, by omega, h.2.2⟩
theorem clD_fv {v P} (h : LD P v) : FV P (clD v P) := by
  rcases h with ⟨rfl, rfl⟩ | ⟨rfl, rfl⟩ | ⟨t, rfl⟩
  · exact .inl ⟨rfl, rfl⟩
  · exact .inr (.inl ⟨rfl, rfl⟩)
  · by_cases h : P = []
    · subst h; exact .inr (.inl ⟨rfl, rfl⟩)
    · refine .inr (.inr ?_); simp [clD, h]
theorem front17 (n : Nat) (s : Int) (v : AV) (P : List Dg) (hv : LD P v) (hP : All32 P) (hb : P.length ≤ 1000) (leaf : Dg) (h32 : leaf.length = 32) : E (n + 8) 17 [.agg [.int .i64 s, v], .agg (u8s leaf)] = some (addF s P leaf, []) := by
  have c9 := check9 (n + 4) s v P hv (by omega)
  have ll := u8s_len leaf
  rw [h32] at ll
  rw [e17]
  unfold addF
  cases hok : okF s P.length
  · rw [hok] at c9
    exact add17_no n s v P hv _ c9 ll (u8s_plain _)
  · rw [hok] at c9
    by_cases h1 : s = 100000
    · subst h1
      exact add17_full n v P hv _ c9 ll (u8s_plain _)
    · obtain ⟨t, rfl, ht, hpop⟩ := okF_spec hok
      rw [if_neg h1]
      have hf := clD_fv hv
      have a := add27 n t ht (clD v P) P hP hf hpop leaf h32 hb
      have hu : clD v P = .nilS ∨ clD v P = .emp ∨ clD v P = .fr 32 (dr P) := by
        rcases hf with ⟨h, _⟩ | ⟨h, _⟩ | h
        · exact .inl h
        · exact .inr (.inl h)
        · exact .inr (.inr h)
      exact add17_of n t _ v (clD v P) P hv hu _ _ (by rw [List.take_length]) c9 (clone29 (n + 6) v P hv (by omega)) a (by simpa using h1) ll (u8s_plain _)
theorem step18_of (Φ : Nat → Option FnF) (K : Nat) (F : CallF) (G J Y) (h26 : Φ 26 = some ⟨F, G, J, Y⟩) (nm : Bool) (gb c k q : Nat) (y y2 q1 : Int) (R : List (List AV)) (y1 y2' y3 : List AV) (kn : F [.agg y1, .agg y2'] = some (.agg y3, []))
    (r1 : R[q]? = some y1) (r2 : R[q + 1]? = some y2') (l1 : y1.length = 32) (l2 : y2'.length = 32) (l3 : y3.length = 32) (p1 : y1.all AV.plain = true) (p2 : y2'.all AV.plain = true) (p3 : y3.all AV.plain = true)
    (w1 : IntKind.i64.wrap ((q : Int) + 2 - 2) = q) (w1' : IntKind.i64.wrap (q : Int) = q) (w2 : IntKind.i64.wrap ((q : Int) + 2 - 1) = q1) (w2' : IntKind.i64.wrap ((q : Int) + 1) = q1) (b6 : q1.toNat = q + 1) (b7 : 0 ≤ q1) (hR : q + 2 ≤ R.length) (m1 : (q + 1) * 32 ≤ maxBytes)
    (hy : y.tmod 2 = 0) (hd : IntKind.i64.wrap (y.tdiv 2) = y2) (hgb : gb < c) :
    iter (ev Φ K b18_0) [7, 8] [13, 17, 43] (k + 1) ⟨[(7, .own (if nm then 13 else 17) gb 0 (q + 2)), (8, .int .i64 y)], [⟨if nm then 13 else 17, gb, .arr 32 R false⟩], c⟩ =
    iter (ev Φ K b18_0) [7, 8] [13, 17, 43] k ⟨[(7, .own (if nm then 13 else 17) (c + 2) 0 (q + 1)), (8, .int .i64 y2)], [⟨if nm then 13 else 17, c + 2, .arr 32 (R.take q ++ ([y3] ++ R.drop (q + 1))) false⟩], c + 3⟩ := by
  have t1 : y1.take 32 = y1 := List.take_of_length_le (by omega)
  have t2 : y2'.take 32 = y2' := List.take_of_length_le (by omega)
  have t3 : y3.take 32 = y3 := List.take_of_length_le (by omega)
  have e0 : ((q + 2 : Nat) : Int) = (q : Int) + 2 := by omega
  have b1 : (q : Int) ≤ R.length := by omega
  have b2 : q ≤ R.length := by omega
  have b3 : q + 1 ≤ R.length := by omega
  have b4 : q + 1 < R.length := by omega
  have b5 : q < R.length := by omega
  have r1' := (List.getElem?_eq_some_iff.1 r1).2
  have r2' := (List.getElem?_eq_some_iff.1 r2).2
  have z1 : z29.length = 32 := rfl
  have z2 : z29.drop 32 = [] := rfl
  have pz : z29.all AV.plain = true := rfl
  apply iter_norm
  cases nm <;> simp -implicitDefEqProofs [b18_0, St.keep, h26, kn, e0, w1, w1', w2, w2', b1, b2, b3, b4, b5, b6, b7, m1, r1, r2, r1', r2', l1, l2, l3, t1, t2, t3, hgb, aappend, z1, z2, hy, hd, plains_low pz, plains_cells pz,
    plains_cells p1, plains_cells p2, plains_cells p3, plains_in p3, plains_lend p1, plains_lend p2, plains_low p1, plains_low p2, plains_low p3, plains_mv p3, plains_fz p3]
theorem knot26 (n : Nat) (a b : Dg) (ha : a.length = 32) (hb : b.length = 32) : E (n + 5) 26 [.agg (u8s a), .agg (u8s b)] = some (.agg (u8s (Kn a b)), []) := knot16 n a b ha hb
theorem step18 (n : Nat) (nm : Bool) (gb c k y : Nat) (P : List Dg) (R : List (List AV)) (hP : All32 P) (h2 : 2 ≤ P.length) (hR : P.length ≤ R.length) (hL : R.length ≤ 1000000) (hT : R.take P.length = dr P) (hy : y % 2 = 0) (hyb : y ≤ 200000) (hgb : gb < c) :
    ∃ R', (mrg P).length ≤ R'.length ∧ R'.length ≤ 1000000 ∧ R'.take (mrg P).length = dr (mrg P) ∧
    iter (ev (Q (n + 5)) 3000 b18_0) [7, 8] [13, 17, 43] (k + 1) ⟨[(7, .own (if nm then 13 else 17) gb 0 P.length), (8, .int .i64 y)], [⟨if nm then 13 else 17, gb, .arr 32 R false⟩], c⟩ =
    iter (ev (Q (n + 5)) 3000 b18_0) [7, 8] [13, 17, 43] k ⟨[(7, .own (if nm then 13 else 17) (c + 2) 0 (mrg P).length), (8, .int .i64 (y / 2 : Nat))], [⟨if nm then 13 else 17, c + 2, .arr 32 R' false⟩], c + 3⟩ := by
  obtain ⟨r1, r2, r3⟩ := rows_mrg hT h2 hR
  have hml := mrg_len h2
  have ha : (P.getD (P.length - 2) []).length = 32 := by
    rw [List.getD_eq_getElem?_getD, List.getElem?_eq_getElem (by omega)]; exact hP _ (List.getElem_mem _)
  have hb : (P.getD (P.length - 1) []).length = 32 := by
    rw [List.getD_eq_getElem?_getD, List.getElem?_eq_getElem (by omega)]; exact hP _ (List.getElem_mem _)
  have kn := knot26 n _ _ ha hb
  obtain ⟨q, hq⟩ : ∃ q, P.length = q + 2 := ⟨P.length - 2, by omega⟩
  have s1 : P.length - 2 = q := by omega
  have s2 : P.length - 1 = q + 1 := by omega
  rw [s1] at r1 r3 kn ha
  rw [s2] at r2 r3 kn hb hml
  refine ⟨R.take q ++ ([u8s (Kn (P.getD q []) (P.getD (q + 1) []))] ++ R.drop (q + 1)), ?_, ?_, ?_, ?_⟩
  · rw [hml]; simp; omega
  · simp; omega
  · rw [hml]; exact r3
  · rw [hml, hq]
    have ty : (y : Int).tmod 2 = 0 := by rw [Int.tmod_eq_emod_of_nonneg (by omega)]; omega
    have td : IntKind.i64.wrap ((y : Int).tdiv 2) = ((y / 2 : Nat) : Int) := by rw [Int.tdiv_eq_ediv_of_nonneg (by omega), wrap_i64 _ (by omega) (by omega)]; omega
    exact step18_of (Q (n + 5)) 3000 _ _ _ _ (q26 (n + 4)) nm gb c k q y _ ((q + 1 : Nat) : Int) R _ _ _ kn r1 r2 (by rw [u8s_len, ha]) (by rw [u8s_len, hb]) (by rw [u8s_len, Kn_len]) (u8s_plain _) (u8s_plain _) (u8s_plain _)
      (by rw [wrap_i64 _ (by omega) (by omega)]; omega) (wrap_i64 _ (by omega) (by omega)) (by rw [wrap_i64 _ (by omega) (by omega)]; omega) (by rw [wrap_i64 _ (by omega) (by omega)]; omega) (Int.toNat_natCast _) (by omega) (by omega) (by simp only [maxBytes]; omega) ty td hgb
theorem loop18 (n : Nat) (nm : Bool) : ∀ (d k y gb c : Nat) (P : List Dg) (R : List (List AV)), d = tz y → y ≠ 0 → d < k → All32 P → d + 1 ≤ P.length → P.length ≤ R.length → R.length ≤ 1000000 → R.take P.length = dr P → y ≤ 200000 → gb < c →
    ∃ E' R' gb' c', iter (ev (Q (n + 5)) 3000 b18_0) [7, 8] [13, 17, 43] k ⟨[(7, .own (if nm then 13 else 17) gb 0 P.length), (8, .int .i64 y)], [⟨if nm then 13 else 17, gb, .arr 32 R false⟩], c⟩ =
      some (.exit 0, ⟨E', [⟨if nm then 13 else 17, gb', .arr 32 R' false⟩], c'⟩) ∧ envOnly [7] E' = [(7, .own (if nm then 13 else 17) gb' 0 (mrgN d P).length)] ∧ R'.take (mrgN d P).length = dr (mrgN d P) ∧ (mrgN d P).length ≤ R'.length
  | d, 0, y, gb, c, P, R, hd, h0, hk, hP, h2, hR, hL, hT, hy, hg => by omega
  | 0, k + 1, y, gb, c, P, R, hd, h0, hk, hP, h2, hR, hL, hT, hy, hg => by
    have ho : y % 2 = 1 := by
      by_cases h : y % 2 = 0
      · rw [tz_even h h0] at hd; omega
      · omega
    have ty : (y : Int).tmod 2 = 1 := by rw [Int.tmod_eq_emod_of_nonneg (by omega)]; omega
    refine ⟨[(7, .own (if nm then 13 else 17) gb 0 P.length), (8, .int .i64 y), (20, .int .i64 y), (21, .int .i64 1), (22, .bool false)], R, gb, c, ?_, by cases nm <;> simp [mrgN], hT, hR⟩
    rw [iter_succ]
    cases nm <;> simp -implicitDefEqProofs [b18_0, ty]
  | d + 1, k + 1, y, gb, c, P, R, hd, h0, hk, hP, h2, hR, hL, hT, hy, hg => by
    have ho : y % 2 = 0 := by
      by_cases h : y % 2 = 0
      · exact h
      · rw [tz_odd (by omega)] at hd; omega
    rw [tz_even ho h0] at hd
    obtain ⟨R1, q1, q2, q3, e⟩ := step18 n nm gb c k y P R hP (by omega) hR hL hT ho hy hg
    rw [e]
    have hl := mrg_len (P := P) (by omega)
    exact loop18 n nm d k (y / 2) (c + 2) (c + 3) (mrg P) R1 (by omega) (by omega) (by omega) (mrg_32 hP) (by omega) q1 q2 q3 (by omega) (by omega)
end Go.Abs.Tryd

namespace Go.Abs.Tryd
open Go Go.Abs Go.Abs.Sha
set_option maxHeartbeats 16000000
set_option maxRecDepth 100000
set_option linter.unusedSimpArgs false
set_option linter.unusedVariables false
theorem ev_blockL {Φ : Nat → Option FnF} {k id : Nat} {kt kh : List Nat} {b : AC} {s s0 s1 : St} (h0 : s.keep kt kh = s0) (h1 : iter (ev Φ k b) kt kh k s0 = some (.exit id, s1)) : ev Φ k (.block id (.loop kt kh b)) s = some (.normal, s1) := by
  apply ev_blockX
  rw [ev, ← h1, ← h0]
  exact iter_keep _ _ _ _ _
theorem bytes_le (k : Nat) (h : k + 1 ≤ 100000) : (k + 1) * 32 ≤ maxBytes ∧ (k + 1 + 1) * 32 ≤ maxBytes := by
  simp only [maxBytes]; omega
theorem dr_cons {P : List Dg} (h : ¬ P = []) : ∃ r R0, dr P = r :: R0 ∧ R0.length + 1 = P.length := by
  cases P with
  | nil => exact absurd rfl h
  | cons x r => exact ⟨u8s x, dr r, rfl, by simp [dr_len]⟩
theorem add18_of (n : Nat) (s s1 : Int) (v : AV) (P : List Dg) (hv : LD P v) (leaf : List AV) (W : List (List AV)) (wl : Nat) (hb : P.length ≤ 100000)
    (w1 : IntKind.i64.wrap (s + 1) = s1) (ll : leaf.length = 32) (lt : leaf.take 32 = leaf) (lp : leaf.all AV.plain = true)
    (lb : ∀ (nm : Bool) (gb c : Nat), gb < c → ∃ E' R' gb' c', iter (ev (Q (n + 5)) 3000 b18_0) [7, 8] [13, 17, 43] 3000 ⟨[(7, .own (if nm then 13 else 17) gb 0 (P.length + 1)), (8, .int .i64 s1)], [⟨if nm then 13 else 17, gb, .arr 32 (dr P ++ [leaf]) false⟩], c⟩ =
      some (.exit 0, ⟨E', [⟨if nm then 13 else 17, gb', .arr 32 R' false⟩], c'⟩) ∧ envOnly [7] E' = [(7, .own (if nm then 13 else 17) gb' 0 wl)] ∧ R'.take wl = W ∧ wl ≤ R'.length) :
    evFun (Q (n + 5)) 3000 a18 [.int .i64 s, v, .agg leaf] = some (.fr 32 W, []) := by
  have z1 : z29.length = 32 := rfl
  have rl := dr_len P
  have m0 : 32 ≤ maxBytes := by simp only [maxBytes]; omega
  have l9 : ¬ P.length + 1 ≤ P.length := by omega
  have tk : (dr P).take P.length = dr P := List.take_of_length_le (by omega)
  have rw0 := hv.rows
  have sr : ∀ H, srcRows H 32 v = some (dr P) := by
    intro H; rcases hv with ⟨rfl, rfl⟩ | ⟨rfl, rfl⟩ | ⟨t, rfl⟩ <;> simp [srcRows, rowsOf, dr]
  have hvl := hv.val
  have hvc := hv.cell
  by_cases h0 : P = []
  · subst h0
    have sr' : ∀ H, srcRows H 32 v = some [] := sr
    obtain ⟨E', R', gb', c', e, q0, q1, q2⟩ := lb false 2 3 (by omega)
    simp only [Bool.false_eq_true, if_false, List.length_nil, Nat.zero_add, dr, List.map_nil, List.nil_append] at e q0
    refine fun_of (q := ([.int .i64 s, v, .agg leaf], [], 0)) (by simp [a18]) (by simp -implicitDefEqProofs [plains_in lp, hvl, hvc]) (e := .ret) (s' := ⟨[(6, .own 17 gb' 0 wl), (7, .own 17 gb' 0 wl), (46, .own 17 gb' 0 wl)], [⟨17, gb', .arr 32 R' false⟩], c'⟩) ?_ (.inr rfl) ?_
    · show ev (Q (n + 5)) 3000 c18 ⟨[(0, .int .i64 s), (1, v), (2, .agg leaf)], [], 0⟩ = _
      unfold c18
      refine ev_seqN (s1 := ⟨[(0, .int .i64 s), (1, v), (2, .agg leaf), (5, .ptr 5 0 0), (6, .nilS)], [⟨5, 0, .var leaf⟩], 1⟩) (by simp -implicitDefEqProofs [plains_cells lp]) ?_
      refine ev_seqN (s1 := ⟨[(0, .int .i64 s), (1, v), (2, .agg leaf), (5, .ptr 5 0 0), (6, .nilS), (7, .nilS)], [⟨5, 0, .var leaf⟩], 1⟩) (by simp) ?_
      refine ev_seqK (s1 := ⟨[(0, .int .i64 s), (5, .ptr 5 0 0), (7, .nilS)], [⟨5, 0, .var leaf⟩], 1⟩) (by simp -implicitDefEqProofs [sr', aappend, St.keep]) ?_
      refine ev_seqK (s1 := ⟨[(0, .int .i64 s), (7, .own 17 2 0 1)], [⟨17, 2, .arr 32 [leaf] false⟩], 3⟩) (by simp -implicitDefEqProofs [aappend, St.keep, lt, ll, z1, m0, plains_fz lp]) ?_
      refine ev_seqN (s1 := ⟨[(0, .int .i64 s), (7, .own 17 2 0 1), (8, .int .i64 s1), (18, .int .i64 s), (19, .int .i64 s1)], [⟨17, 2, .arr 32 [leaf] false⟩], 3⟩) (by simp -implicitDefEqProofs [w1]) ?_
      refine ev_seqN (ev_blockL (by simp [St.keep]) e) ?_
      refine ev_keepN ?_
      rw [q0]
      simp
    · simp -implicitDefEqProofs [a18, q1, q2]
  · obtain ⟨r, R0, hr, hr2⟩ := dr_cons h0
    obtain ⟨m1, m2⟩ := bytes_le R0.length (by rw [hr2]; exact hb)
    have l8 : ¬ R0.length + 1 + 1 ≤ R0.length + 1 := Nat.not_succ_le_self _
    have tk0 : R0.take R0.length = R0 := List.take_length
    rw [hr] at sr
    rw [hr, ← hr2] at lb
    obtain ⟨E', R', gb', c', e, q0, q1, q2⟩ := lb true 3 4 (by omega)
    simp only [↓reduceIte] at e q0
    refine fun_of (q := ([.int .i64 s, v, .agg leaf], [], 0)) (by simp [a18]) (by simp -implicitDefEqProofs [plains_in lp, hvl, hvc]) (e := .ret) (s' := ⟨[(6, .own 13 gb' 0 wl), (7, .own 13 gb' 0 wl), (46, .own 13 gb' 0 wl)], [⟨13, gb', .arr 32 R' false⟩], c'⟩) ?_ (.inr rfl) ?_
    · show ev (Q (n + 5)) 3000 c18 ⟨[(0, .int .i64 s), (1, v), (2, .agg leaf)], [], 0⟩ = _
      unfold c18
      refine ev_seqN (s1 := ⟨[(0, .int .i64 s), (1, v), (2, .agg leaf), (5, .ptr 5 0 0), (6, .nilS)], [⟨5, 0, .var leaf⟩], 1⟩) (by simp -implicitDefEqProofs [plains_cells lp]) ?_
      refine ev_seqN (s1 := ⟨[(0, .int .i64 s), (1, v), (2, .agg leaf), (5, .ptr 5 0 0), (6, .nilS), (7, .nilS)], [⟨5, 0, .var leaf⟩], 1⟩) (by simp) ?_
      refine ev_seqK (s1 := ⟨[(0, .int .i64 s), (5, .ptr 5 0 0), (7, .own 13 1 0 (R0.length + 1))], [⟨5, 0, .var leaf⟩, ⟨13, 1, .arr 32 (r :: R0) false⟩], 2⟩) (by simp -implicitDefEqProofs [sr, aappend, St.keep, m1]) ?_
      refine ev_seqK (s1 := ⟨[(0, .int .i64 s), (7, .own 13 3 0 (R0.length + 1 + 1))], [⟨13, 3, .arr 32 (r :: R0 ++ [leaf]) false⟩], 4⟩) (by simp -implicitDefEqProofs [aappend, St.keep, lt, ll, z1, m2, l8, tk0, plains_fz lp]) ?_
      refine ev_seqN (s1 := ⟨[(0, .int .i64 s), (7, .own 13 3 0 (R0.length + 1 + 1)), (8, .int .i64 s1), (18, .int .i64 s), (19, .int .i64 s1)], [⟨13, 3, .arr 32 (r :: R0 ++ [leaf]) false⟩], 4⟩) (by simp -implicitDefEqProofs [w1]) ?_
      refine ev_seqN (ev_blockL (by simp [St.keep]) e) ?_
      refine ev_keepN ?_
      rw [q0]
      simp
    · simp -implicitDefEqProofs [a18, q1, q2]
theorem add18 (n s : Nat) (hs : s ≤ 100000) (v : AV) (P : List Dg) (hP : All32 P) (hv : LD P v) (hl : P.length = pop s) (leaf : Dg) (h32 : leaf.length = 32) (hb : P.length ≤ 1000) :
    E (n + 6) 18 [.int .i64 s, v, .agg (u8s leaf)] = some (.fr 32 (dr (addL s leaf P)), []) := by
  rw [e18]
  obtain ⟨tp, _⟩ := tz_pop (s + 1) s (by omega)
  have ll := u8s_len leaf
  rw [h32] at ll
  have hlt : dr (P ++ [leaf]) = dr P ++ [u8s leaf] := by simp [dr]
  have hln : (P ++ [leaf]).length = P.length + 1 := by simp
  have hA : All32 (P ++ [leaf]) := fun d hd => by
    rcases List.mem_append.1 hd with hd | hd
    · exact hP d hd
    · rw [List.mem_singleton.1 hd]; exact h32
  refine add18_of n s ((s + 1 : Nat) : Int) v P hv (u8s leaf) (dr (addL s leaf P)) (addL s leaf P).length (by omega) (by rw [wrap_i64 _ (by omega) (by omega)]; omega) ll (List.take_of_length_le (by omega)) (u8s_plain leaf) ?_
  intro nm gb c hgb
  have := loop18 n nm (tz (s + 1)) 3000 (s + 1) gb c (P ++ [leaf]) (dr (P ++ [leaf])) rfl (by omega) (by omega) hA (by omega) (by rw [dr_len]; omega) (by rw [dr_len]; omega) (by rw [List.take_of_length_le (by rw [dr_len]; omega)]) (by omega) hgb
  rw [hlt, hln] at this
  exact this
end Go.Abs.Tryd

namespace Go.Abs.Tryd
open Go Go.Abs Go.Abs.Sha
set_option maxHeartbeats 16000000
set_option maxRecDepth 100000
set_option linter.unusedSimpArgs false
set_option linter.unusedVariables false
/-- the root of peaks -/
def rootR : List Dg → Dg
  | [] => sha []
  | [d] => d
  | a :: b :: r => Kn a (rootR (b :: r))
theorem rootR_len : ∀ {P : List Dg}, All32 P → (rootR P).length = 32
  | [], _ => sha_len _
  | [d], h => h d List.mem_cons_self
  | a :: b :: r, _ => Kn_len _ _
theorem rootR_drop {P : List Dg} {j : Nat} (h : j + 1 < P.length) : rootR (P.drop j) = Kn (P.getD j []) (rootR (P.drop (j + 1))) := by
  rw [List.drop_eq_getElem_cons (show j < P.length by omega), List.getD_eq_getElem?_getD, List.getElem?_eq_getElem (show j < P.length by omega)]
  rw [List.drop_eq_getElem_cons h]
  rfl
theorem all_drop {P : List Dg} (h : All32 P) (j : Nat) : All32 (P.drop j) := fun d hd => h d (List.mem_of_mem_drop hd)
theorem step12_of (Φ : Nat → Option FnF) (K : Nat) (F : CallF) (G J Y) (h26 : Φ 26 = some ⟨F, G, J, Y⟩) (t : Bool) (R : List (List AV)) (g2 g3 c k j : Nat) (i : Int) (Z y d e : List AV) (kn : F [.agg y, .agg d] = some (.agg e, [])) (r1 : R[j]? = some y)
    (l1 : y.length = 32) (l2 : d.length = 32) (l3 : e.length = 32) (p1 : y.all AV.plain = true) (p2 : d.all AV.plain = true) (p3 : e.all AV.plain = true) (w : IntKind.i64.wrap ((j : Int) - 1) = i) (hg2 : g2 < c) (hg3 : g3 < c) :
    iter (ev Φ K b12_0) [0, 2, 3, 4] [2, 3, 100000] (k + 1) ⟨[(0, .ro t 32 R), (2, .ptr 2 g2 0), (3, .ptr 3 g3 0), (4, .int .i64 j)], [⟨2, g2, .var Z⟩, ⟨3, g3, .var d⟩], c⟩ =
    iter (ev Φ K b12_0) [0, 2, 3, 4] [2, 3, 100000] k ⟨[(0, .ro t 32 R), (2, .ptr 2 g2 0), (3, .ptr 3 g3 0), (4, .int .i64 i)], [⟨2, g2, .var Z⟩, ⟨3, g3, .var e⟩], c⟩ := by
  have t1 : y.take 32 = y := List.take_of_length_le (by omega)
  have t2 : d.take 32 = d := List.take_of_length_le (by omega)
  have r1' := (List.getElem?_eq_some_iff.1 r1).2
  have r2 : j < R.length := (List.getElem?_eq_some_iff.1 r1).1
  have dd : d.drop 32 = [] := List.drop_of_length_le (by omega)
  apply iter_norm
  simp -implicitDefEqProofs [b12_0, St.keep, h26, kn, r1, r1', r2, l1, l2, l3, t1, t2, dd, w, hg2, hg3, plains_cells p1, plains_cells p2, plains_cells p3, plains_in p3, plains_lend p1, plains_lend p2, plains_low p1, plains_low p2, plains_low p3]
theorem loop12 (n : Nat) (t : Bool) (P : List Dg) (hP : All32 P) (g2 g3 c : Nat) (Z : List AV) (hg2 : g2 < c) (hg3 : g3 < c) (hb : P.length ≤ 100000) : ∀ (j k : Nat), j < P.length → j < k →
    ∃ E', iter (ev (Q (n + 5)) 3000 b12_0) [0, 2, 3, 4] [2, 3, 100000] k ⟨[(0, .ro t 32 (dr P)), (2, .ptr 2 g2 0), (3, .ptr 3 g3 0), (4, .int .i64 ((j : Int) - 1))], [⟨2, g2, .var Z⟩, ⟨3, g3, .var (u8s (rootR (P.drop j)))⟩], c⟩ =
      some (.exit 0, ⟨E', [⟨2, g2, .var Z⟩, ⟨3, g3, .var (u8s (rootR P))⟩], c⟩) ∧ envOnly [2, 3] E' = [(2, .ptr 2 g2 0), (3, .ptr 3 g3 0)]
  | j, 0, hj, hk => by omega
  | 0, k + 1, hj, hk => by
    rw [List.drop_zero]
    generalize u8s (rootR P) = d
    generalize dr P = R
    refine ⟨[(0, .ro t 32 R), (2, .ptr 2 g2 0), (3, .ptr 3 g3 0), (4, .int .i64 (-1)), (18, .int .i64 (-1)), (19, .bool false)], ?_, by simp⟩
    rw [iter_succ]
    simp -implicitDefEqProofs [b12_0]
  | j + 1, k + 1, hj, hk => by
    obtain ⟨E', e, e2⟩ := loop12 n t P hP g2 g3 c Z hg2 hg3 hb j k (by omega) (by omega)
    refine ⟨E', ?_, e2⟩
    rw [← e, rootR_drop hj]
    have hy : (P.getD j []).length = 32 := by
      rw [List.getD_eq_getElem?_getD, List.getElem?_eq_getElem (show j < P.length by omega)]; exact hP _ (List.getElem_mem _)
    have hd := rootR_len (all_drop hP (j + 1))
    have gy : (dr P)[j]? = some (u8s (P.getD j [])) := by
      rw [dr, List.getElem?_map, List.getD_eq_getElem?_getD, List.getElem?_eq_getElem (show j < P.length by omega)]; rfl
    have kn := knot26 n _ _ hy hd
    have ej : ((j + 1 : Nat) : Int) - 1 = (j : Int) := by omega
    rw [ej]
    exact step12_of (Q (n + 5)) 3000 _ _ _ _ (q26 (n + 4)) t (dr P) g2 g3 c k j _ Z _ _ _ kn gy (by rw [u8s_len, hy]) (by rw [u8s_len, hd]) (by rw [u8s_len, Kn_len]) (u8s_plain _) (u8s_plain _) (u8s_plain _) (wrap_i64 _ (by omega) (by omega)) hg2 hg3
theorem root12_of (n : Nat) (t : Bool) (R : List (List AV)) (len : Nat) (hl : R.length = len + 1) (hb : len ≤ 100000) (l r : List AV) (g1 : R[len]? = some l) (ll : l.length = 32) (pl : l.all AV.plain = true) (lr : r.length = 32) (pr : r.all AV.plain = true)
    (lb : ∀ (Z : List AV), ∃ E', iter (ev (Q (n + 5)) 3000 b12_0) [0, 2, 3, 4] [2, 3, 100000] 3000 ⟨[(0, .ro t 32 R), (2, .ptr 2 0 0), (3, .ptr 3 1 0), (4, .int .i64 ((len : Int) - 1))], [⟨2, 0, .var Z⟩, ⟨3, 1, .var l⟩], 2⟩ =
      some (.exit 0, ⟨E', [⟨2, 0, .var Z⟩, ⟨3, 1, .var r⟩], 2⟩) ∧ envOnly [2, 3] E' = [(2, .ptr 2 0 0), (3, .ptr 3 1 0)]) : evFun (Q (n + 5)) 3000 a12 [.ro t 32 R] = some (.agg r, []) := by
  obtain ⟨E', e, e2⟩ := lb z29
  have z1 : z29.length = 32 := rfl
  have tl : l.take 32 = l := List.take_of_length_le (by omega)
  have tr : r.take 32 = r := List.take_of_length_le (by omega)
  have zd : z29.drop 32 = [] := rfl
  have i1 : ¬ ((len : Int) + 1 = 0) := by omega
  have i2 : (((len : Int) + 1) == 0) = false := by rw [beq_eq_false_iff_ne]; exact i1
  have w1 : IntKind.i64.wrap ((len : Int) + 1 - 1) = len := by rw [wrap_i64 _ (by omega) (by omega)]; omega
  have w1' : IntKind.i64.wrap (len : Int) = len := wrap_i64 _ (by omega) (by omega)
  have w2 : IntKind.i64.wrap ((len : Int) + 1 - 2) = (len : Int) - 1 := by rw [wrap_i64 _ (by omega) (by omega)]; omega
  have r1 : len < R.length := by omega
  have g1' := (List.getElem?_eq_some_iff.1 g1).2
  refine fun_of (q := ([.ro t 32 R], [], 0)) (by simp [a12]) (by simp) (e := .ret) (s' := ⟨[(2, .ptr 2 0 0), (3, .ptr 3 1 0), (28, .agg r)], [⟨2, 0, .var r⟩, ⟨3, 1, .var r⟩], 2⟩) ?_ (.inr rfl) (by simp -implicitDefEqProofs [a12, lr, tr, plains_cells pr, plains_mv pr])
  show ev (Q (n + 5)) 3000 c12 ⟨[(0, .ro t 32 R)], [], 0⟩ = _
  unfold c12
  refine ev_seqN (s1 := ⟨[(0, .ro t 32 R), (2, .ptr 2 0 0)], [⟨2, 0, .var z29⟩], 1⟩) (by simp) ?_
  refine ev_seqK (s1 := ⟨[(0, .ro t 32 R), (2, .ptr 2 0 0)], [⟨2, 0, .var z29⟩], 1⟩) (by simp -implicitDefEqProofs [hl, i1, i2, St.keep]) ?_
  refine ev_seqK (s1 := ⟨[(0, .ro t 32 R), (2, .ptr 2 0 0), (3, .ptr 3 1 0)], [⟨2, 0, .var z29⟩, ⟨3, 1, .var l⟩], 2⟩) (by simp -implicitDefEqProofs [hl, w1, w1', g1, g1', r1, ll, tl, z1, zd, plains_cells pl, St.keep]) ?_
  refine ev_seqN (ev_seqK (s1 := ⟨[(0, .ro t 32 R), (2, .ptr 2 0 0), (3, .ptr 3 1 0), (4, .int .i64 ((len : Int) - 1))], [⟨2, 0, .var z29⟩, ⟨3, 1, .var l⟩], 2⟩) (by simp -implicitDefEqProofs [hl, w2, St.keep]) (ev_blockX (by rw [ev]; exact e))) ?_
  refine ev_keepN ?_
  rw [e2]
  simp -implicitDefEqProofs [lr, tr, z1, zd, plains_cells pr]
theorem root12_nil (Φ : Nat → Option FnF) (K : Nat) (F : CallF) (G J Y) (h25 : Φ 25 = some ⟨F, G, J, Y⟩) (v : AV) (hvl : ∀ (H : AH) (c nm : Nat), inVal H c nm v = some (v, H, c)) (hvc : ∀ (H : AH) (c nm : Nat), inCell H c nm v = some (v, H, c)) (hl : alen v = some 0)
    (r : List AV) (s : F [.str ⟨#[]⟩] = some (.agg r, [])) (ls : r.length = 32) (ps : r.all AV.plain = true) : evFun Φ K a12 [v] = some (.agg r, []) := by
  have tr : r.take 32 = r := List.take_of_length_le (by omega)
  have z1 : z29.length = 32 := rfl
  have zd : z29.drop 32 = [] := rfl
  simp -implicitDefEqProofs [a12, c12, h25, s, hvl, hvc, hl, ls, tr, z1, zd, plains_cells ps, plains_in ps, plains_mv ps]
theorem root12 (n : Nat) (v : AV) (P : List Dg) (hv : LD P v) (hP : All32 P) (hb : P.length ≤ 2900) : E (n + 6) 12 [v] = some (.agg (u8s (rootR P)), []) := by
  rw [e12]
  by_cases h0 : P = []
  · subst h0
    exact root12_nil _ _ _ _ _ _ (q25 (n + 4)) v hv.val hv.cell hv.len _ (sum11 (n + 1) [] (by simp)) (by rw [u8s_len]; exact sha_len []) (u8s_plain _)
  · obtain ⟨t, rfl⟩ : ∃ t, v = .ro t 32 (dr P) := by rcases hv with ⟨_, h⟩ | ⟨_, h⟩ | h; exact absurd h h0; exact absurd h h0; exact h
    obtain ⟨len, hlen⟩ : ∃ len, P.length = len + 1 := ⟨P.length - 1, by have := List.length_pos_iff.2 h0; omega⟩
    have hd : P.drop len = [P.getD len []] := by
      rw [List.drop_eq_getElem_cons (show len < P.length by omega), List.drop_of_length_le (by omega), List.getD_eq_getElem?_getD, List.getElem?_eq_getElem (show len < P.length by omega)]; rfl
    have hy : (P.getD len []).length = 32 := by
      rw [List.getD_eq_getElem?_getD, List.getElem?_eq_getElem (show len < P.length by omega)]; exact hP _ (List.getElem_mem _)
    have gy : (dr P)[len]? = some (u8s (P.getD len [])) := by
      rw [dr, List.getElem?_map, List.getD_eq_getElem?_getD, List.getElem?_eq_getElem (show len < P.length by omega)]; rfl
    refine root12_of n t (dr P) len (by rw [dr_len]; exact hlen) (by omega) _ _ gy (by rw [u8s_len, hy]) (u8s_plain _) (by rw [u8s_len, rootR_len hP]) (u8s_plain _) ?_
    intro Z
    have := loop12 n t P hP 0 1 2 Z (by omega) (by omega) (by omega) len 3000 (by omega) (by omega)
    rw [hd] at this
    exact this
end Go.Abs.Tryd

namespace Go.Abs.Tryd
open Go Go.Abs Go.Abs.Sha
set_option maxHeartbeats 16000000
set_option maxRecDepth 100000
set_option linter.unusedSimpArgs false
set_option linter.unusedVariables false
abbrev V10 : Env := [(1, .ptr 1 0 0), (2, .ptr 2 1 0), (5, .ptr 5 2 0), (17, .fn 35 [.ptr 3220001 3 0])]
abbrev Y10 (Φ : Nat → Option FnF) : InlF := around (ev Φ 3000 b10_1) (ev Φ 3000 b10_0) V10 2900000 4 [18, 19]
theorem k35 : 1 ∈ kh35i_0 ∧ 2 ∈ kh35i_0 ∧ 5 ∈ kh35i_0 ∧ 7 ∈ kh35i_0 ∧ 2900000 ∈ kh35i_0 ∧ 3220001 ∈ kh35i_0 := by decide +kernel
def H10 (X : AH) (s : Int) (v : AV) (Z d : List AV) : AH := [⟨1, 0, .var [.int .i64 s, v]⟩, ⟨2, 1, .var Z⟩, ⟨5, 2, .var d⟩] ++ X ++ [⟨2900000, 4, .lp .ready⟩, ⟨3220001, 3, .var [v]⟩]
def Jx (X : AH) : Prop := X = [] ∨ ∃ g r, X = [⟨7, g, .var r⟩]
theorem step35 (Φ Φ' : Nat → Option FnF) (F : CallF) (G J Y) (h23 : Φ 23 = some ⟨F, G, J, Y⟩) (X : AH) (hX : Jx X) (s : Int) (t : Bool) (R : List (List AV)) (Z y d e : List AV) (len j c k : Nat) (hR : R.length = len + 1) (hb : len ≤ 100000) (r1 : R[j]? = some y)
    (hl : y.length = 32) (l2 : d.length = 32) (l3 : e.length = 32) (p1 : y.all AV.plain = true) (p2 : d.all AV.plain = true) (p3 : e.all AV.plain = true) (hc : 4 < c)
    (hcase : (j = len ∧ e = y) ∨ (j < len ∧ F [.agg y, .agg d] = some (.agg e, []))) :
    ∃ X', Jx X' ∧ iter (ev (withY Φ' 2900000 (Y10 Φ)) 3000 b35i_0) [0, 1, 3] kh35i_0 (k + 1) ⟨[(0, .yld 2900000 4), (1, .ptr 3220001 3 0), (3, .int .i64 (j : Nat))], H10 X s (.ro t 32 R) Z d, c⟩ =
      iter (ev (withY Φ' 2900000 (Y10 Φ)) 3000 b35i_0) [0, 1, 3] kh35i_0 k ⟨[(0, .yld 2900000 4), (1, .ptr 3220001 3 0), (3, .int .i64 ((j : Int) - 1))], H10 X' s (.ro t 32 R) Z e, c + 1⟩ := by
  obtain ⟨a1, a2, a3, a4, a5, a6⟩ := k35
  have t1 : y.take 32 = y := List.take_of_length_le (by omega)
  have t2 : d.take 32 = d := List.take_of_length_le (by omega)
  have td : d.drop 32 = [] := List.drop_of_length_le (by omega)
  have r1' := (List.getElem?_eq_some_iff.1 r1).2
  have r2 : j < R.length := (List.getElem?_eq_some_iff.1 r1).1
  have w1 : IntKind.i64.wrap ((j : Int) - 1) = (j : Int) - 1 := wrap_i64 _ (by omega) (by omega)
  have w2 : IntKind.i64.wrap ((len : Int) + 1 - 1) = len := by rw [wrap_i64 _ (by omega) (by omega)]; omega
  have w3 : IntKind.i64.wrap (len : Int) = len := wrap_i64 _ (by omega) (by omega)
  have z1 : z29.length = 32 := rfl
  have zd : z29.drop 32 = [] := rfl
  have d0 : 0 < c := by omega
  have d1 : 1 < c := by omega
  have d2 : 2 < c := by omega
  have d3 : 3 < c := by omega
  refine ⟨[⟨7, c, .var y⟩], .inr ⟨_, _, rfl⟩, iter_norm ?_⟩
  unfold H10
  rcases hcase with ⟨h1, rfl⟩ | ⟨h1, kn⟩
  · subst h1
    rcases hX with rfl | ⟨g, r, rfl⟩ <;>
    simp -implicitDefEqProofs [b35i_0, b10_0, b10_1, St.keep, a1, a2, a3, a4, a5, a6, V10, Y10, withY, ykey, FnF.yield, around, envPar, roundEnd, r1, r1', r2, hR, hl, l2, t1, t2, td, w1, w2, w3, z1, zd, d0, d1, d2, d3, plains_cells p1]
  · have n1 : ¬ ((j : Int) = len) := by omega
    have n2 : ((j : Int) == (len : Int)) = false := by rw [beq_eq_false_iff_ne]; exact n1
    have n3 : ¬ j = len := by omega
    rcases hX with rfl | ⟨g, r, rfl⟩ <;>
    simp -implicitDefEqProofs [b35i_0, b10_0, b10_1, St.keep, a1, a2, a3, a4, a5, a6, V10, Y10, withY, ykey, FnF.yield, around, envPar, roundEnd, r1, r1', r2, hR, hl, l2, l3, t1, t2, td, w1, w2, w3, z1, zd, d0, d1, d2, d3, n1, n2, n3, h23, kn, plains_cells p1, plains_cells p2, plains_cells p3, plains_in p3, plains_lend p1, plains_lend p2]
theorem end35 (Φ Φ' : Nat → Option FnF) (X : AH) (hX : Jx X) (s : Int) (v : AV) (Z d : List AV) (c k : Nat) :
    ∃ E', iter (ev (withY Φ' 2900000 (Y10 Φ)) 3000 b35i_0) [0, 1, 3] kh35i_0 (k + 1) ⟨[(0, .yld 2900000 4), (1, .ptr 3220001 3 0), (3, .int .i64 (-1))], H10 X s v Z d, c⟩ = some (.exit 0, ⟨E', H10 X s v Z d, c⟩) := by
  obtain ⟨a1, a2, a3, a4, a5, a6⟩ := k35
  refine ⟨[(0, .yld 2900000 4), (1, .ptr 3220001 3 0), (3, .int .i64 (-1)), (7, .int .i64 (-1)), (8, .bool false)], ?_⟩
  rw [iter_succ]
  unfold H10
  rcases hX with rfl | ⟨g, r, rfl⟩ <;> simp -implicitDefEqProofs [b35i_0, a1, a2, a3, a4, a5, a6]
theorem loop35 (m : Nat) (Φ' : Nat → Option FnF) (s : Int) (t : Bool) (P : List Dg) (hP : All32 P) (hb : P.length ≤ 100000) (h0 : P ≠ []) (Z : List AV) : ∀ (n k c : Nat) (X : AH) (d : Dg), Jx X → n ≤ P.length → n < k → d.length = 32 → (n < P.length → d = rootR (P.drop n)) → 4 < c →
    ∃ E' X' c', Jx X' ∧ iter (ev (withY Φ' 2900000 (Y10 (Q (m + 7)))) 3000 b35i_0) [0, 1, 3] kh35i_0 k ⟨[(0, .yld 2900000 4), (1, .ptr 3220001 3 0), (3, .int .i64 ((n : Int) - 1))], H10 X s (.ro t 32 (dr P)) Z (u8s d), c⟩ =
      some (.exit 0, ⟨E', H10 X' s (.ro t 32 (dr P)) Z (u8s (rootR P)), c'⟩)
  | n, 0, c, X, d, hX, hn, hk, hd, he, hc => by omega
  | 0, k + 1, c, X, d, hX, hn, hk, hd, he, hc => by
    have h1 : 0 < P.length := List.length_pos_iff.2 h0
    obtain rfl := he h1
    obtain ⟨E', e⟩ := end35 (Q (m + 7)) Φ' X hX s (.ro t 32 (dr P)) Z (u8s (rootR (P.drop 0))) c k
    rw [List.drop_zero] at e ⊢
    exact ⟨E', X, c, hX, e⟩
  | n + 1, k + 1, c, X, d, hX, hn, hk, hd, he, hc => by
    have hy : (P.getD n []).length = 32 := by
      rw [List.getD_eq_getElem?_getD, List.getElem?_eq_getElem (show n < P.length by omega)]; exact hP _ (List.getElem_mem _)
    have gy : (dr P)[n]? = some (u8s (P.getD n [])) := by
      rw [dr, List.getElem?_map, List.getD_eq_getElem?_getD, List.getElem?_eq_getElem (show n < P.length by omega)]; rfl
    have hr := rootR_len (all_drop hP n)
    have hcase : (n = P.length - 1 ∧ u8s (rootR (P.drop n)) = u8s (P.getD n [])) ∨ (n < P.length - 1 ∧ E (m + 7) 23 [.agg (u8s (P.getD n [])), .agg (u8s d)] = some (.agg (u8s (rootR (P.drop n))), [])) := by
      by_cases hlast : n = P.length - 1
      · left
        refine ⟨hlast, ?_⟩
        rw [List.drop_eq_getElem_cons (show n < P.length by omega), List.drop_of_length_le (by omega), List.getD_eq_getElem?_getD, List.getElem?_eq_getElem (show n < P.length by omega)]; rfl
      · right
        refine ⟨by omega, ?_⟩
        rw [rootR_drop (show n + 1 < P.length by omega), ← he (by omega)]
        exact knot23 (m + 1) _ _ hy hd
    obtain ⟨X1, hX1, e1⟩ := step35 (Q (m + 7)) Φ' _ _ _ _ (q23 (m + 6)) X hX s t (dr P) Z _ (u8s d) (u8s (rootR (P.drop n))) (P.length - 1) n c k (by rw [dr_len]; omega) (by omega) gy (by rw [u8s_len, hy]) (by rw [u8s_len, hd]) (by rw [u8s_len, hr]) (u8s_plain _) (u8s_plain _) (u8s_plain _) hc hcase
    obtain ⟨E', X', c', q1, q2⟩ := loop35 m Φ' s t P hP hb h0 Z n k (c + 1) X1 (rootR (P.drop n)) hX1 (by omega) (by omega) hr (fun _ => rfl) (by omega)
    refine ⟨E', X', c', q1, ?_⟩
    rw [show ((n + 1 : Nat) : Int) - 1 = (n : Int) by omega, e1]
    exact q2
theorem LD.cells1 {D v} (h : LD D v) : v.cells = [v] := by rcases h with ⟨rfl, rfl⟩ | ⟨rfl, rfl⟩ | ⟨t, rfl⟩ <;> rfl
theorem root10_no (Φ : Nat → Option FnF) (F : CallF) (G J Y) (h9 : Φ 9 = some ⟨F, G, J, Y⟩) (s : Int) (v : AV) (P : List Dg) (hv : LD P v) (c9 : F [.agg [.int .i64 s, v]] = some (.int .i64 30, [])) :
    evFun Φ 3000 a10 [.agg [.int .i64 s, v]] = some (.tup [.agg z29, .int .i64 30], []) := by
  have z1 : z29.length = 32 := rfl
  have zd : z29.drop 32 = [] := rfl
  have zt : z29.take 32 = z29 := rfl
  have pz : z29.all AV.plain = true := rfl
  refine fun_of (q := ([.agg [.int .i64 s, v]], [], 0)) (by simp [a10]) (by simp -implicitDefEqProofs [hv.cell]) (e := .ret) (s' := ⟨[(0, .agg [.int .i64 s, v]), (1, .ptr 1 0 0), (2, .ptr 2 1 0), (3, .int .i64 30), (4, .int .i64 30), (8, .agg [.int .i64 s, v]), (9, .int .i64 30), (10, .int .i64 30), (11, .bool true), (12, .agg z29), (13, .int .i64 30)], [⟨1, 0, .var [.int .i64 s, v]⟩, ⟨2, 1, .var z29⟩], 2⟩) ?_ (.inr rfl) (by simp -implicitDefEqProofs [a10, z1, zt, plains_cells pz, plains_mv pz])
  show ev Φ 3000 c10 ⟨[(0, .agg [.int .i64 s, v])], [], 0⟩ = _
  unfold c10
  refine ev_seqN (s1 := ⟨[(0, .agg [.int .i64 s, v]), (1, .ptr 1 0 0), (2, .ptr 2 1 0), (3, .int .i64 0)], [⟨1, 0, .var [.int .i64 s, v]⟩, ⟨2, 1, .var z29⟩], 2⟩) (by simp -implicitDefEqProofs [hv.cb]) ?_
  refine ev_seqR (by simp) ?_
  refine ev_seqN (s1 := ⟨[(0, .agg [.int .i64 s, v]), (1, .ptr 1 0 0), (2, .ptr 2 1 0), (3, .int .i64 0), (4, .int .i64 30), (8, .agg [.int .i64 s, v]), (9, .int .i64 30)], [⟨1, 0, .var [.int .i64 s, v]⟩, ⟨2, 1, .var z29⟩], 2⟩) (by simp -implicitDefEqProofs [h9, c9, hv.ldc]) ?_
  simp -implicitDefEqProofs [z1, zd, plains_cells pz]
theorem itr35 (Φ' : Nat → Option FnF) (Y : InlF) (s : Int) (v : AV) (Z e0 D : List AV) (len : Int) (X' : AH) (E' : Env) (c' : Nat) (hl : (alen v).map (fun n : Nat => (n : Int)) = some len) (w1 : IntKind.i64.wrap (len - 1) = len - 1)
    (e : iter (ev (withY Φ' 2900000 Y) 3000 b35i_0) [0, 1, 3] kh35i_0 3000 ⟨[(0, .yld 2900000 4), (1, .ptr 3220001 3 0), (3, .int .i64 (len - 1))], H10 [] s v Z e0, 5⟩ = some (.exit 0, ⟨E', H10 X' s v Z D, c'⟩)) :
    evItr Φ' 3000 a35i 2900000 Y (H10 [] s v Z e0) 5 [.yld 2900000 4, .ptr 3220001 3 0] = some (.tup [], H10 X' s v Z D, c') := by
  obtain ⟨a1, a2, a3, a4, a5, a6⟩ := k35
  obtain ⟨m, hm, rfl⟩ := Option.map_eq_some_iff.1 hl
  have hc : ev (withY Φ' 2900000 Y) 3000 c35i ⟨[(0, .yld 2900000 4), (1, .ptr 3220001 3 0)], H10 [] s v Z e0, 5⟩ = some (.normal, ⟨E', H10 X' s v Z D, c'⟩) := by
    unfold c35i
    exact ev_seqK (s1 := ⟨[(0, .yld 2900000 4), (1, .ptr 3220001 3 0), (3, .int .i64 ((m : Int) - 1))], H10 [] s v Z e0, 5⟩) (by unfold H10; simp -implicitDefEqProofs [hm, w1, St.keep, a1, a2, a3, a4, a5, a6]) (ev_blockX (by rw [ev]; exact e))
  unfold evItr evInl evBody
  rw [if_neg (by simp [a35i])]
  show (match ev (withY Φ' 2900000 Y) 3000 c35i ⟨[(0, .yld 2900000 4), (1, .ptr 3220001 3 0)], H10 [] s v Z e0, 5⟩ with | some (.normal, s') => some s' | some (.ret, s') => some s' | _ => none).bind _ = _
  rw [hc]
  rfl
theorem ev_blockN {Φ : Nat → Option FnF} {k id : Nat} {b : AC} {s s1 : St} (h : ev Φ k b s = some (.normal, s1)) : ev Φ k (.block id b) s = some (.normal, s1) := by
  rw [ev, h]
end Go.Abs.Tryd

namespace Go.Abs.Tryd
open Go Go.Abs Go.Abs.Sha
set_option maxHeartbeats 16000000
set_option maxRecDepth 100000
set_option linter.unusedSimpArgs false
set_option linter.unusedVariables false
theorem p21 (Φ : Nat → Option FnF) (F : CallF) (G J Y) (h21 : Φ 21 = some ⟨F, G, J, Y⟩) (s : Int) (v : AV) (e0 : List AV) (c21 : F [] = some (.agg e0, [])) (p0 : e0.all AV.plain = true) (l0 : e0.length = 32) :
    ev Φ 3000 (.reg false [{ dst := some 14, op := .call 15000 21 [] }, { dst := some 5, op := .alloc 5 z29 }, { dst := none, op := .store 32 (.t 5) (.t 14) }]) ⟨[(1, .ptr 1 0 0), (2, .ptr 2 1 0)], [⟨1, 0, .var [.int .i64 s, v]⟩, ⟨2, 1, .var z29⟩], 2⟩ =
      some (.normal, ⟨[(1, .ptr 1 0 0), (2, .ptr 2 1 0), (5, .ptr 5 2 0), (14, .agg e0)], [⟨1, 0, .var [.int .i64 s, v]⟩, ⟨2, 1, .var z29⟩, ⟨5, 2, .var e0⟩], 3⟩) := by
  have z1 : z29.length = 32 := rfl
  have zd : z29.drop 32 = [] := rfl
  simp -implicitDefEqProofs [h21, c21, z1, zd, l0, plains_cells p0, plains_in p0]
theorem root10_of (n : Nat) (s : Int) (v : AV) (P : List Dg) (hv : LD P v) (c9 : E (n + 7) 9 [.agg [.int .i64 s, v]] = some (.int .i64 0, [])) (e0 D : List AV) (c21 : E (n + 7) 21 [] = some (.agg e0, [])) (p0 : e0.all AV.plain = true) (l0 : e0.length = 32) (pD : D.all AV.plain = true) (lD : D.length = 32)
    (hb : P.length ≤ 100000)
    (lb : ∃ E' X' c', Jx X' ∧ iter (ev (withY (Q (n + 6)) 2900000 (Y10 (Q (n + 7)))) 3000 b35i_0) [0, 1, 3] kh35i_0 3000 ⟨[(0, .yld 2900000 4), (1, .ptr 3220001 3 0), (3, .int .i64 ((P.length : Int) - 1))], H10 [] s v z29 e0, 5⟩ = some (.exit 0, ⟨E', H10 X' s v z29 D, c'⟩)) :
    evFun (Q (n + 7)) 3000 a10 [.agg [.int .i64 s, v]] = some (.tup [.agg D, .int .i64 0], []) := by
  obtain ⟨E', X', c', hX, e⟩ := lb
  obtain ⟨a1, a2, a3, a4, a5, a6⟩ := k35
  have z1 : z29.length = 32 := rfl
  have zd : z29.drop 32 = [] := rfl
  have pz : z29.all AV.plain = true := rfl
  have t0 : e0.take 32 = e0 := List.take_of_length_le (by omega)
  have tD : D.take 32 = D := List.take_of_length_le (by omega)
  have dD : D.drop 32 = [] := List.drop_of_length_le (by omega)
  have hl := hv.len
  have it := itr35 (Q (n + 6)) (Y10 (Q (n + 7))) s v z29 e0 D P.length X' E' c' (by rw [hl]; rfl) (wrap_i64 _ (by omega) (by omega)) e
  refine fun_of (q := ([.agg [.int .i64 s, v]], [], 0)) (by simp [a10]) (by simp -implicitDefEqProofs [hv.cell]) (e := .ret) (s' := ⟨[(2, .ptr 2 1 0), (3, .int .i64 0), (5, .ptr 5 2 0), (30, .agg D)], [⟨2, 1, .var D⟩, ⟨5, 2, .var D⟩], c'⟩) ?_ (.inr rfl) (by simp -implicitDefEqProofs [a10, lD, tD, plains_cells pD, plains_mv pD])
  show ev (Q (n + 7)) 3000 c10 ⟨[(0, .agg [.int .i64 s, v])], [], 0⟩ = _
  unfold c10
  refine ev_seqN (s1 := ⟨[(0, .agg [.int .i64 s, v]), (1, .ptr 1 0 0), (2, .ptr 2 1 0), (3, .int .i64 0)], [⟨1, 0, .var [.int .i64 s, v]⟩, ⟨2, 1, .var z29⟩], 2⟩) (by simp -implicitDefEqProofs [hv.cb]) ?_
  refine ev_seqK (s1 := ⟨[(1, .ptr 1 0 0), (2, .ptr 2 1 0)], [⟨1, 0, .var [.int .i64 s, v]⟩, ⟨2, 1, .var z29⟩], 2⟩) (by
    rw [ev_seqN (s1 := ⟨[(0, .agg [.int .i64 s, v]), (1, .ptr 1 0 0), (2, .ptr 2 1 0), (3, .int .i64 0), (4, .int .i64 0), (8, .agg [.int .i64 s, v]), (9, .int .i64 0)], [⟨1, 0, .var [.int .i64 s, v]⟩, ⟨2, 1, .var z29⟩], 2⟩) (by simp -implicitDefEqProofs [q9, c9, hv.ldc]) rfl]
    simp -implicitDefEqProofs [St.keep]) ?_
  refine ev_seqN (s1 := ⟨[(1, .ptr 1 0 0), (2, .ptr 2 1 0), (5, .ptr 5 2 0), (14, .agg e0)], [⟨1, 0, .var [.int .i64 s, v]⟩, ⟨2, 1, .var z29⟩, ⟨5, 2, .var e0⟩], 3⟩) (p21 (Q (n + 7)) _ _ _ _ (q21 (n + 6)) s v e0 c21 p0 l0) ?_
  refine ev_seqK (s1 := ⟨[(2, .ptr 2 1 0), (5, .ptr 5 2 0)], [⟨2, 1, .var z29⟩, ⟨5, 2, .var D⟩], c'⟩) ?_ ?_
  · rw [ev_seqN (s1 := ⟨[(1, .ptr 1 0 0), (2, .ptr 2 1 0), (5, .ptr 5 2 0), (14, .agg e0), (15, .ptr 1 0 1), (16, v), (17, .fn 35 [.ptr 3220001 3 0])], [⟨1, 0, .var [.int .i64 s, v]⟩, ⟨2, 1, .var z29⟩, ⟨5, 2, .var e0⟩, ⟨3220001, 3, .var [v]⟩], 4⟩) (by simp -implicitDefEqProofs [q22, i22, a22i, c22i, evInl, hv.cells1, hv.cb]) (ev_blockN (s1 := ⟨[(1, .ptr 1 0 0), (2, .ptr 2 1 0), (5, .ptr 5 2 0), (14, .agg e0), (15, .ptr 1 0 1), (16, v), (17, .fn 35 [.ptr 3220001 3 0])], (H10 X' s v z29 D).del 2900000, c'⟩) ?_)]
    · rcases hX with rfl | ⟨g, r, rfl⟩ <;> simp -implicitDefEqProofs [St.keep, H10]
    · have hq : Q (n + 7) 35 = some ⟨E (n + 7) 35, I (n + 7) 35, evItr (Q (n + 6)) 3000 a35i, InlF.none⟩ := rfl
      rw [ev]
      show ((Q (n + 7) 35).bind fun F => (F.itr 2900000 (Y10 (Q (n + 7))) (H10 [] s v z29 e0) 5 [.yld 2900000 4, .ptr 3220001 3 0]).bind (rangeEnd 2900000 4 [(1, .ptr 1 0 0), (2, .ptr 2 1 0), (5, .ptr 5 2 0), (14, .agg e0), (15, .ptr 1 0 1), (16, v), (17, .fn 35 [.ptr 3220001 3 0])])) = _
      rw [hq]
      show ((evItr (Q (n + 6)) 3000 a35i 2900000 (Y10 (Q (n + 7))) (H10 [] s v z29 e0) 5 [.yld 2900000 4, .ptr 3220001 3 0]).bind (rangeEnd 2900000 4 [(1, .ptr 1 0 0), (2, .ptr 2 1 0), (5, .ptr 5 2 0), (14, .agg e0), (15, .ptr 1 0 1), (16, v), (17, .fn 35 [.ptr 3220001 3 0])])) = _
      rw [it]
      rcases hX with rfl | ⟨g, r, rfl⟩ <;> simp -implicitDefEqProofs [rangeEnd, H10]
  simp -implicitDefEqProofs [z1, zd, lD, tD, dD, plains_cells pD]
/-- what front.Root answers -/
def rootF (s : Int) (P : List Dg) : AV := if okF s P.length then .tup [.agg (u8s (rootR P)), .int .i64 0] else .tup [.agg z29, .int .i64 30]
theorem root10 (n : Nat) (s : Int) (v : AV) (P : List Dg) (hv : LD P v) (hP : All32 P) (hb : P.length ≤ 2900) : E (n + 8) 10 [.agg [.int .i64 s, v]] = some (rootF s P, []) := by
  have c9 := check9 (n + 4) s v P hv (by omega)
  rw [e10]
  unfold rootF
  cases hok : okF s P.length
  · rw [hok] at c9
    exact root10_no _ _ _ _ _ (q9 (n + 6)) s v P hv c9
  · rw [hok] at c9
    refine root10_of n s v P hv c9 (u8s (sha [])) (u8s (rootR P)) (empty12 (n + 1)) (u8s_plain _) (by rw [u8s_len]; exact sha_len []) (u8s_plain _) (by rw [u8s_len, rootR_len hP]) (by omega) ?_
    by_cases h0 : P = []
    · subst h0
      obtain ⟨E', e⟩ := end35 (Q (n + 7)) (Q (n + 6)) [] (.inl rfl) s v z29 (u8s (sha [])) 5 2999
      exact ⟨E', [], 5, .inl rfl, e⟩
    · obtain ⟨t, rfl⟩ : ∃ t, v = .ro t 32 (dr P) := by rcases hv with ⟨_, h⟩ | ⟨_, h⟩ | h; exact absurd h h0; exact absurd h h0; exact h
      obtain ⟨E', X', c', h1, h2⟩ := loop35 n (Q (n + 6)) s t P hP (by omega) h0 z29 P.length 3000 5 [] (sha []) (.inl rfl) (Nat.le_refl _) (by omega) (sha_len []) (fun h => absurd h (Nat.lt_irrefl _)) (by omega)
      exact ⟨E', X', c', h1, h2⟩
end Go.Abs.Tryd

namespace Go.Abs.Tryd
open Go Go.Abs Go.Abs.Sha
set_option maxHeartbeats 16000000
set_option maxRecDepth 100000
set_option linter.unusedSimpArgs false
set_option linter.unusedVariables false
/-- the peaks of a list: leaves come one by one -/
def ofL : Nat → List Dg → List Dg → List Dg
  | _, P, [] => P
  | i, P, d :: r => ofL (i + 1) (addL i d P) r
/-- the memory of front.Of: no peak yet, or some -/
def HO (b : Bool) (gb : Nat) (i : Int) (R : List (List AV)) : AH :=
  if b then [⟨2, 0, .var z25⟩, ⟨12, 1, .var [.int .i64 i, .own 1012001 gb 0 R.length]⟩, ⟨1012001, gb, .arr 32 R false⟩] else [⟨2, 0, .var z25⟩, ⟨12, 1, .var [.int .i64 i, .nilS]⟩]
theorem step15 (Φ : Nat → Option FnF) (F : CallF) (G J Y) (h27 : Φ 27 = some ⟨F, G, J, Y⟩) (b : Bool) (gb c k i len : Nat) (s1 : Int) (t : Bool) (L : List (List AV)) (R W : List (List AV)) (y : List AV) (r1 : L[i]? = some y) (hl : L.length = len) (hi : i < len) (hlen : len ≤ 100000) (ly : y.length = 32) (py : y.all AV.plain = true)
    (f : F [.pv [.int .i64 i, if b then .fr 32 R else .nilS], .agg y] = some (.tup [], [[.int .i64 s1, .fr 32 W]])) (hc : 1 < c) (hs : s1 = (i + 1 : Nat)) :
    iter (ev Φ 3000 b15_0) [2, 4, 13, 14, 15] [2, 12, 100000, 1012001] (k + 1) ⟨[(2, .ptr 2 0 0), (4, .ptr 12 1 0), (13, .ro t 32 L), (14, .int .i64 len), (15, .int .i64 i)], HO b gb i R, c⟩ =
    iter (ev Φ 3000 b15_0) [2, 4, 13, 14, 15] [2, 12, 100000, 1012001] k ⟨[(2, .ptr 2 0 0), (4, .ptr 12 1 0), (13, .ro t 32 L), (14, .int .i64 len), (15, .int .i64 (i + 1 : Nat))], HO true (c + 1) (i + 1 : Nat) W, c + 2⟩ := by
  have ty : y.take 32 = y := List.take_of_length_le (by omega)
  have r1' := (List.getElem?_eq_some_iff.1 r1).2
  have r2 : i < L.length := by omega
  have z1 : z29.length = 32 := rfl
  have zd : z29.drop 32 = [] := rfl
  have i1 : (i : Int) < len := by omega
  have w1 : IntKind.i64.wrap ((i : Int) + 1) = s1 := by rw [hs, wrap_i64 _ (by omega) (by omega)]; omega
  have tk : R.take R.length = R := List.take_length
  rw [← hs]
  clear hs
  apply iter_norm
  unfold HO
  cases b
  · simp only [Bool.false_eq_true, if_false] at f
    simp -implicitDefEqProofs [b15_0, St.keep, h27, f, r1, r1', r2, ly, ty, z1, zd, i1, w1, z25, plains_cells py, plains_lend py]
  · simp only [↓reduceIte] at f
    simp -implicitDefEqProofs [b15_0, St.keep, h27, f, r1, r1', r2, ly, ty, z1, zd, i1, w1, tk, z25, plains_cells py, plains_lend py]
theorem ofL_32 : ∀ (L : List Dg) (i : Nat) {P : List Dg}, All32 P → All32 L → All32 (ofL i P L)
  | [], i, P, hP, hL => hP
  | d :: r, i, P, hP, hL => ofL_32 r (i + 1) (addL_32 hP (hL d List.mem_cons_self)) (fun x hx => hL x (List.mem_cons_of_mem _ hx))
theorem ofL_len : ∀ (L : List Dg) (i : Nat) {P : List Dg}, P.length = pop i → (ofL i P L).length = pop (i + L.length)
  | [], i, P, h => h
  | d :: r, i, P, h => by
    rw [ofL, ofL_len r (i + 1) (addL_len h), List.length_cons, show i + (r.length + 1) = i + 1 + r.length by omega]
theorem pop_le : ∀ (k y : Nat), y < 2 ^ k → pop y ≤ k
  | 0, y, h => by obtain rfl : y = 0 := by omega
                  rw [pop_zero]; omega
  | k + 1, y, h => by
    by_cases h0 : y = 0
    · subst h0; rw [pop_zero]; omega
    · rw [pop_pos h0]; have := pop_le k (y / 2) (by rw [Nat.pow_succ] at h; omega); omega
theorem loop15 (n : Nat) (t : Bool) (L : List Dg) (hL : All32 L) (hlen : L.length ≤ 2900) : ∀ (d i k c gb : Nat) (b : Bool) (P : List Dg), i + d = L.length → d < k → All32 P → P.length = pop i → 1 < c → (b = false → P = []) →
    ∃ E' b' gb' c', iter (ev (Q (n + 7)) 3000 b15_0) [2, 4, 13, 14, 15] [2, 12, 100000, 1012001] k ⟨[(2, .ptr 2 0 0), (4, .ptr 12 1 0), (13, .ro t 32 (dr L)), (14, .int .i64 L.length), (15, .int .i64 i)], HO b gb i (dr P), c⟩ =
      some (.exit 0, ⟨E', HO b' gb' L.length (dr (ofL i P (L.drop i))), c'⟩) ∧ envOnly [2, 4] E' = [(2, .ptr 2 0 0), (4, .ptr 12 1 0)] ∧ (b' = false → ofL i P (L.drop i) = [])
  | d, i, 0, c, gb, b, P, hi, hk, hP, hp, hc, hb => by omega
  | 0, i, k + 1, c, gb, b, P, hi, hk, hP, hp, hc, hb => by
    obtain rfl : i = L.length := by omega
    rw [List.drop_length]
    refine ⟨[(2, .ptr 2 0 0), (4, .ptr 12 1 0), (13, .ro t 32 (dr L)), (14, .int .i64 L.length), (15, .int .i64 L.length), (16, .bool false)], b, gb, c, ?_, by simp, hb⟩
    rw [iter_succ, ofL]
    unfold HO
    generalize dr L = R
    cases b <;> simp -implicitDefEqProofs [b15_0]
  | d + 1, i, k + 1, c, gb, b, P, hi, hk, hP, hp, hc, hb => by
    have hy := hL L[i] (List.getElem_mem _)
    have gy : (dr L)[i]? = some (u8s L[i]) := by rw [dr, List.getElem?_map, List.getElem?_eq_getElem (show i < L.length by omega)]; rfl
    have hpl : pop i ≤ 12 := pop_le 12 i (by omega)
    have f := add27 n i (by omega) (if b then .fr 32 (dr P) else .nilS) P hP (by cases b with | false => exact .inl ⟨rfl, hb rfl⟩ | true => exact .inr (.inr rfl)) hp L[i] hy (by omega)
    rw [step15 (Q (n + 7)) _ _ _ _ (q27 (n + 6)) b gb c k i L.length _ t (dr L) (dr P) (dr (addL i L[i] P)) (u8s L[i]) gy (dr_len L) (by omega) (by omega) (by rw [u8s_len, hy]) (u8s_plain _) f hc rfl]
    obtain ⟨E', b', gb', c', e1, e2, e3⟩ := loop15 n t L hL hlen d (i + 1) k (c + 2) (c + 1) true (addL i L[i] P) (by omega) (by omega) (addL_32 hP hy) (addL_len hp) (by omega) (fun h => by cases h)
    have hd : L.drop i = L[i] :: L.drop (i + 1) := List.drop_eq_getElem_cons (show i < L.length by omega)
    refine ⟨E', b', gb', c', ?_, e2, ?_⟩
    · rw [hd, ofL]; exact e1
    · rw [hd, ofL]; exact e3
end Go.Abs.Tryd

namespace Go.Abs.Tryd
open Go Go.Abs Go.Abs.Sha
set_option maxHeartbeats 16000000
set_option maxRecDepth 100000
set_option linter.unusedSimpArgs false
set_option linter.unusedVariables false
theorem of15_of (Φ : Nat → Option FnF) (v : AV) (L : List Dg) (hv : LD L v) (hb : L.length ≤ 2900) (b' : Bool) (gb' c' : Nat) (E' : Env) (R : List (List AV)) (lb : iter (ev Φ 3000 b15_0) [2, 4, 13, 14, 15] [2, 12, 100000, 1012001] 3000 ⟨[(2, .ptr 2 0 0), (4, .ptr 12 1 0), (13, v), (14, .int .i64 L.length), (15, .int .i64 0)], HO false 0 0 [], 2⟩ =
      some (.exit 0, ⟨E', HO b' gb' L.length R, c'⟩)) (e2 : envOnly [2, 4] E' = [(2, .ptr 2 0 0), (4, .ptr 12 1 0)]) : evFun Φ 3000 a15 [v] = some (.tup [.agg [.int .i64 L.length, if b' then .fr 32 R else .nilS], .int .i64 0], []) := by
  have hl := hv.len
  have n1 : ¬ (100000 : Int) < L.length := by omega
  have tk : R.take R.length = R := List.take_length
  refine fun_of (q := ([v], [], 0)) (by simp [a15]) (by simp -implicitDefEqProofs [hv.cell, hv.val]) (e := .ret)
    (s' := ⟨[(2, .ptr 2 0 0), (3, .int .i64 0), (4, .ptr 12 1 0), (23, .ptr 12 1 0), (24, .ptr 12 1 0), (25, .ptr 12 1 0), (26, .agg [.int .i64 L.length, if b' then .own 1012001 gb' 0 R.length else .nilS])], if b' then [⟨2, 0, .var [.int .i64 L.length, .own 1012001 gb' 0 R.length]⟩, ⟨12, 1, .var [.int .i64 L.length, .own 1012001 gb' 0 R.length]⟩, ⟨1012001, gb', .arr 32 R false⟩] else [⟨2, 0, .var [.int .i64 L.length, .nilS]⟩, ⟨12, 1, .var [.int .i64 L.length, .nilS]⟩], c'⟩) ?_ (.inr rfl) (by cases b' <;> simp -implicitDefEqProofs [a15, tk])
  show ev Φ 3000 c15 ⟨[(0, v)], [], 0⟩ = _
  unfold c15
  refine ev_seqN (s1 := ⟨[(0, v), (2, .ptr 2 0 0), (3, .int .i64 0)], [⟨2, 0, .var z25⟩], 1⟩) (by simp) ?_
  refine ev_seqK (s1 := ⟨[(0, v), (2, .ptr 2 0 0)], [⟨2, 0, .var z25⟩], 1⟩) (by simp -implicitDefEqProofs [hl, n1, St.keep]) ?_
  refine ev_seqN (s1 := ⟨[(0, v), (2, .ptr 2 0 0), (4, .ptr 12 1 0), (11, .agg z54), (12, .ptr 12 1 0)], [⟨2, 0, .var z25⟩, ⟨12, 1, .var z54⟩], 2⟩) (by simp [z54]) ?_
  refine ev_seqK (s1 := ⟨[(2, .ptr 2 0 0), (4, .ptr 12 1 0)], HO b' gb' L.length R, c'⟩) ?_ ?_
  · rw [ev_seqN (s1 := ⟨[(0, v), (2, .ptr 2 0 0), (4, .ptr 12 1 0), (11, .agg z54), (12, .ptr 12 1 0), (13, v), (14, .int .i64 L.length), (15, .int .i64 0)], [⟨2, 0, .var z25⟩, ⟨12, 1, .var z54⟩], 2⟩) (by simp -implicitDefEqProofs [hl]) (ev_blockL (by simp [St.keep, HO, z54]) lb)]
    show some (Ex.normal, (⟨envOnly [2, 4] E', _, c'⟩ : St)) = _
    rw [e2]
    unfold HO
    cases b' <;> simp
  · unfold HO
    cases b' <;> simp -implicitDefEqProofs [z25]
theorem of15 (n : Nat) (v : AV) (L : List Dg) (hv : LD L v) (hL : All32 L) (hb : L.length ≤ 2900) : E (n + 8) 15 [v] = some (.tup [.agg [.int .i64 L.length, frD (ofL 0 [] L)], .int .i64 0], []) := by
  rw [e15]
  by_cases h0 : L = []
  · subst h0
    have e : iter (ev (Q (n + 7)) 3000 b15_0) [2, 4, 13, 14, 15] [2, 12, 100000, 1012001] 3000 ⟨[(2, .ptr 2 0 0), (4, .ptr 12 1 0), (13, v), (14, .int .i64 0), (15, .int .i64 0)], HO false 0 0 [], 2⟩ = some (.exit 0, ⟨[(2, .ptr 2 0 0), (4, .ptr 12 1 0), (13, v), (14, .int .i64 0), (15, .int .i64 0), (16, .bool false)], HO false 0 0 [], 2⟩) := by
      rw [iter_succ]; unfold HO; simp -implicitDefEqProofs [b15_0]
    exact of15_of (Q (n + 7)) v [] hv hb false 0 2 _ [] e (by simp)
  · obtain ⟨t, rfl⟩ : ∃ t, v = .ro t 32 (dr L) := by rcases hv with ⟨_, h⟩ | ⟨_, h⟩ | h; exact absurd h h0; exact absurd h h0; exact h
    obtain ⟨E', b', gb', c', e1, e2, e3⟩ := loop15 n t L hL hb L.length 0 3000 2 0 false [] (by omega) (by omega) (fun d hd => by cases hd) (by rw [pop_zero]; rfl) (by omega) (fun _ => rfl)
    rw [List.drop_zero] at e1 e3
    have := of15_of (Q (n + 7)) (.ro t 32 (dr L)) L hv hb b' gb' c' E' (dr (ofL 0 [] L)) e1 e2
    rw [this]
    have hl := ofL_len L 0 (P := []) (by rw [pop_zero]; rfl)
    unfold frD
    cases b'
    · rw [e3 rfl]; rfl
    · have hne : ¬ ofL 0 [] L = [] := by
        intro h
        rw [h, Nat.zero_add] at hl
        have hp : ∀ (k y : Nat), y < 2 ^ k → y ≠ 0 → pop y ≠ 0 := by
          intro k
          induction k with
          | zero => intro y h1 h2; omega
          | succ k ih =>
            intro y h1 h2 h3
            rw [pop_pos h2] at h3
            rw [Nat.pow_succ] at h1
            by_cases h4 : y / 2 = 0
            · omega
            · exact ih (y / 2) (by omega) h4 (by omega)
        have h5 : L.length ≠ 0 := fun h6 => h0 (List.length_eq_zero_iff.1 h6)
        exact hp 12 L.length (by omega) h5 hl.symm
      rw [if_neg hne]; rfl
end Go.Abs.Tryd

namespace Go.Abs.Tryd
open Go Go.Abs Go.Abs.Sha
set_option maxHeartbeats 16000000
set_option maxRecDepth 100000
set_option linter.unusedSimpArgs false
set_option linter.unusedVariables false
theorem rows13_of (Φ : Nat → Option FnF) (F9 F10 F14 F15 F21 F23 : CallF) {G9 J9 Y9 G10 J10 Y10' G14 J14 Y14 G15 J15 Y15 G21 J21 Y21 G23 J23 Y23} (h9 : Φ 9 = some ⟨F9, G9, J9, Y9⟩) (h10 : Φ 10 = some ⟨F10, G10, J10, Y10'⟩) (h14 : Φ 14 = some ⟨F14, G14, J14, Y14⟩) (h15 : Φ 15 = some ⟨F15, G15, J15, Y15⟩) (h21 : Φ 21 = some ⟨F21, G21, J21, Y21⟩) (h23 : Φ 23 = some ⟨F23, G23, J23, Y23⟩)
    (A B C AB D E0 : List AV) (bA : AV.int .u8 1 :: z29.tail = A) (bB : AV.int .u8 2 :: z29.tail = B) (bC : AV.int .u8 3 :: z29.tail = C)
    (c15 : F15 [.ro true 32 [A, B, C]] = some (.tup [.agg [.int .i64 3, .fr 32 [AB, C]], .int .i64 0], [])) (c10 : F10 [.agg [.int .i64 3, .ro true 32 [AB, C]]] = some (.tup [.agg D, .int .i64 0], [])) (c10' : F10 [.agg [.int .i64 0, .nilS]] = some (.tup [.agg E0, .int .i64 0], []))
    (c23 : F23 [.agg A, .agg B] = some (.agg AB, [])) (c23' : F23 [.agg AB, .agg C] = some (.agg D, [])) (c14 : F14 [.ro true 32 [AB, C], .ro true 32 [AB, C]] = some (.bool true, [])) (c21 : F21 [] = some (.agg E0, []))
    (c9 : F9 [.agg [.int .i64 3, .ro true 32 [AB, C]]] = some (.int .i64 0, [])) (c9' : F9 [.agg [.int .i64 3, .ro true 32 [A]]] = some (.int .i64 30, [])) (k1 : aeqCells k32 D D = some true) (k2 : aeqCells k32 E0 E0 = some true)
    (pA : A.all AV.plain = true) (pB : B.all AV.plain = true) (pC : C.all AV.plain = true) (pAB : AB.all AV.plain = true) (pD : D.all AV.plain = true) (pE : E0.all AV.plain = true) (lA : A.length = 32) (lB : B.length = 32) (lC : C.length = 32) (lAB : AB.length = 32) (lD : D.length = 32) (lE : E0.length = 32) :
    evFun Φ 3000 a13 [] = some (.bool true, []) := by
  have tA : A.take 32 = A := List.take_of_length_le (by omega)
  have tB : B.take 32 = B := List.take_of_length_le (by omega)
  have tC : C.take 32 = C := List.take_of_length_le (by omega)
  have tD : D.take 32 = D := List.take_of_length_le (by omega)
  have tE : E0.take 32 = E0 := List.take_of_length_le (by omega)
  have z1 : z29.length = 32 := rfl
  have zd : z29.drop 32 = [] := rfl
  simp -implicitDefEqProofs [a13, c13, h9, h10, h14, h15, h21, h23, bA, bB, bC, c15, c10, c10', c23, c23', c14, c21, c9, c9', k1, k2, lA, lB, lC, lAB, lD, lE, tA, tB, tC, tD, tE, z1, zd, z25,
    plains_cells pA, plains_cells pB, plains_cells pC, plains_cells pAB, plains_cells pD, plains_cells pE, plains_in pAB, plains_in pD, plains_in pE, plains_fz pA, plains_fz pB, plains_fz pC, plains_fz pAB, plains_lend pA, plains_lend pB, plains_lend pAB, plains_lend pC,
    plains_low pA, plains_low pB, plains_low pC, plains_low pAB, plains_low pD, plains_low pE]
end Go.Abs.Tryd

namespace Go.Abs.Tryd
open Go Go.Abs Go.Abs.Sha
set_option maxHeartbeats 16000000
set_option maxRecDepth 100000
set_option linter.unusedSimpArgs false
set_option linter.unusedVariables false
def dg1 (x : UInt8) : Dg := x :: List.replicate 31 0
theorem dg1_len (x : UInt8) : (dg1 x).length = 32 := rfl
theorem tz1 : tz 1 = 0 := tz_odd rfl
theorem tz2 : tz 2 = 1 := by rw [tz_even rfl (by omega)]; show 1 + tz 1 = 1; rw [tz1]
theorem tz3 : tz 3 = 0 := tz_odd rfl
theorem pop3 : pop 3 = 2 := by
  rw [pop_pos (by omega)]; show 1 + pop 1 = 2
  rw [pop_pos (by omega)]; show 1 + (1 + pop 0) = 2
  rw [pop_zero]
theorem ofL3 (a b c : Dg) : ofL 0 [] [a, b, c] = [Kn a b, c] := by
  rw [ofL, ofL, ofL, ofL]
  unfold addL
  show mrgN (tz 3) (mrgN (tz 2) (mrgN (tz 1) ([] ++ [a]) ++ [b]) ++ [c]) = _
  rw [tz1, tz2, tz3]
  rfl
theorem okF3 : okF 3 2 = true := by
  unfold okF; rw [show (3 : Int).toNat = 3 from rfl, pop3]; rfl
theorem okF3n : okF 3 1 = false := by
  unfold okF; rw [show (3 : Int).toNat = 3 from rfl, pop3]; rfl
theorem okF0 : okF 0 0 = true := by
  unfold okF; rw [show (0 : Int).toNat = 0 from rfl, pop_zero]; rfl
theorem rows13 (n : Nat) : E (n + 9) 13 [] = some (.bool true, []) := by
  rw [e13]
  have hA := dg1_len 1
  have hB := dg1_len 2
  have hC := dg1_len 3
  have bA : AV.int .u8 1 :: z29.tail = u8s (dg1 1) := rfl
  have bB : AV.int .u8 2 :: z29.tail = u8s (dg1 2) := rfl
  have bC : AV.int .u8 3 :: z29.tail = u8s (dg1 3) := rfl
  have key : ∀ a b c : Dg, a.length = 32 → b.length = 32 → c.length = 32 → AV.int .u8 1 :: z29.tail = u8s a → AV.int .u8 2 :: z29.tail = u8s b → AV.int .u8 3 :: z29.tail = u8s c → evFun (Q (n + 8)) 3000 a13 [] = some (.bool true, []) := by
    intro a b c ha hb hc ba bb bc
    have hab := Kn_len a b
    have all3 : All32 [a, b, c] := fun d hd => by simp at hd; rcases hd with rfl | rfl | rfl <;> assumption
    have all2 : All32 [Kn a b, c] := fun d hd => by simp at hd; rcases hd with rfl | rfl <;> assumption
    have c15 := of15 n (.ro true 32 [u8s a, u8s b, u8s c]) [a, b, c] (.inr (.inr ⟨true, rfl⟩)) all3 (by simp)
    rw [ofL3] at c15
    have c10 := root10 n 3 (.ro true 32 [u8s (Kn a b), u8s c]) [Kn a b, c] (.inr (.inr ⟨true, rfl⟩)) all2 (by simp)
    have e10 : rootF 3 [Kn a b, c] = .tup [.agg (u8s (Kn (Kn a b) c)), .int .i64 0] := by
      unfold rootF; rw [show okF 3 [Kn a b, c].length = true from okF3]; rfl
    rw [e10] at c10
    have c10' := root10 n 0 .nilS [] (.inl ⟨rfl, rfl⟩) (fun d hd => by cases hd) (by simp)
    have e10' : rootF 0 [] = .tup [.agg (u8s (sha [])), .int .i64 0] := by
      unfold rootF; rw [show okF 0 ([] : List Dg).length = true from okF0]; rfl
    rw [e10'] at c10'
    have c14 := digests14 (n + 7) (.ro true 32 [u8s (Kn a b), u8s c]) (.ro true 32 [u8s (Kn a b), u8s c]) [Kn a b, c] [Kn a b, c] all2 all2 (.inr (.inr ⟨true, rfl⟩)) (.inr (.inr ⟨true, rfl⟩)) (by simp)
    rw [decide_eq_true rfl] at c14
    have c9 := check9 (n + 5) 3 (.ro true 32 [u8s (Kn a b), u8s c]) [Kn a b, c] (.inr (.inr ⟨true, rfl⟩)) (by simp)
    rw [show okF 3 [Kn a b, c].length = true from okF3] at c9
    have c9' := check9 (n + 5) 3 (.ro true 32 [u8s a]) [a] (.inr (.inr ⟨true, rfl⟩)) (by simp)
    rw [show okF 3 [a].length = false from okF3n] at c9'
    have k1 := self32 (Kn (Kn a b) c) (Kn_len _ _)
    exact rows13_of (Q (n + 8)) _ _ _ _ _ _ (q9 (n + 7)) (q10 (n + 7)) (q14 (n + 7)) (q15 (n + 7)) (q21 (n + 7)) (q23 (n + 7)) (u8s a) (u8s b) (u8s c) (u8s (Kn a b)) (u8s (Kn (Kn a b) c)) (u8s (sha [])) ba bb bc
      c15 c10 c10' (knot23 (n + 2) a b ha hb) (knot23 (n + 2) (Kn a b) c hab hc) c14 (empty12 (n + 2)) c9 c9' k1 (self32 (sha []) (sha_len [])) (u8s_plain _) (u8s_plain _) (u8s_plain _) (u8s_plain _) (u8s_plain _) (u8s_plain _)
      (by rw [u8s_len, ha]) (by rw [u8s_len, hb]) (by rw [u8s_len, hc]) (by rw [u8s_len, hab]) (by rw [u8s_len, Kn_len]) (by rw [u8s_len]; exact sha_len [])
  exact key _ _ _ hA hB hC bA bB bC
end Go.Abs.Tryd

namespace Go.Abs.Tryd
open Go Go.Abs Go.Abs.Sha
set_option maxHeartbeats 16000000
set_option maxRecDepth 100000
set_option linter.unusedSimpArgs false
set_option linter.unusedVariables false
theorem z29_u8s : z29 = u8s (List.replicate 32 0) := rfl
theorem law3_long (Φ : Nat → Option FnF) (s : Int) (v : AV) (P : List Dg) (hv : LD P v) (hn : 200 < P.length) : evFun Φ 3000 a3 [.int .i64 s, v] = some (.bool true, []) := by
  have hl := hv.len
  have n1 : (200 : Int) < P.length := by omega
  simp -implicitDefEqProofs [a3, c3, hl, n1, hn, hv.cell, hv.val]
theorem law3_of (Φ : Nat → Option FnF) (F8 F9 F10 F11 F12 F13 F14 : CallF) {G8 J8 Y8 G9 J9 Y9 G10 J10 Y10' G11 J11 Y11 G12 J12 Y12 G13 J13 Y13 G14 J14 Y14} (h8 : Φ 8 = some ⟨F8, G8, J8, Y8⟩) (h9 : Φ 9 = some ⟨F9, G9, J9, Y9⟩) (h10 : Φ 10 = some ⟨F10, G10, J10, Y10'⟩) (h11 : Φ 11 = some ⟨F11, G11, J11, Y11⟩) (h12 : Φ 12 = some ⟨F12, G12, J12, Y12⟩) (h13 : Φ 13 = some ⟨F13, G13, J13, Y13⟩) (h14 : Φ 14 = some ⟨F14, G14, J14, Y14⟩)
    (s : Int) (v own w : AV) (P : List Dg) (hv : LD P v) (hn : P.length ≤ 200) (R : List (List AV)) (how : (own = .nilS ∧ w = .nilS) ∨ (own = .fr 32 R ∧ w = .ro true 32 R)) (ok : Bool) (D : List AV) (lD : D.length = 32) (pD : D.all AV.plain = true)
    (c8 : F8 [v] = some (own, [])) (c9 : F9 [.agg [.int .i64 s, v]] = some (.int .i64 (if ok then 0 else 30), [])) (c10 : F10 [.agg [.int .i64 s, v]] = some (.tup [.agg (if ok then D else z29), .int .i64 (if ok then 0 else 30)], [])) (c11 : F11 [.int .i64 s, w] = some (.bool ok, []))
    (c12 : ok = true → F12 [w] = some (.agg D, [])) (c13 : F13 [] = some (.bool true, [])) (c14 : F14 [v, w] = some (.bool true, [])) (k1 : aeqCells k32 D D = some true) (k2 : aeqCells k32 z29 z29 = some true) :
    evFun Φ 3000 a3 [.int .i64 s, v] = some (.bool true, []) := by
  have hl := hv.len
  have n1 : ¬ (200 : Int) < P.length := by omega
  have tk : R.take R.length = R := List.take_length
  have tD : D.take 32 = D := List.take_of_length_le (by omega)
  have z1 : z29.length = 32 := rfl
  have zd : z29.drop 32 = [] := rfl
  have zt : z29.take 32 = z29 := rfl
  have pz : z29.all AV.plain = true := rfl
  rcases how with ⟨rfl, rfl⟩ | ⟨rfl, rfl⟩ <;> cases ok <;> (try have c12 := c12 rfl) <;> simp only [Bool.false_eq_true, if_false, ↓reduceIte] at c9 c10 <;>
  simp -implicitDefEqProofs [a3, c3, h8, h9, h10, h11, h12, h13, h14, c8, c9, c10, c11, c12, c13, c14, k1, k2, hl, n1, tk, tD, lD, z1, zd, zt, z25, hv.cell, hv.val, hv.cb, hv.cells1, hv.ld, hv.ldc, hv.mv, plains_cells pD, plains_in pD, plains_cells pz, plains_in pz]
theorem ok_dg {cs : List AV} (h : okRow (List.replicate 32 (.int .u8)) cs) : ∃ d : Dg, d.length = 32 ∧ cs = u8s d := ok_bytes 32 cs h
theorem ok_dgs : ∀ (rows : List (List AV)), (∀ r, r ∈ rows → okRow (List.replicate 32 (.int .u8)) r) → ∃ P : List Dg, All32 P ∧ rows = dr P
  | [], _ => ⟨[], (fun d hd => by cases hd), rfl⟩
  | r :: rs, h => by
    obtain ⟨d, hd, rfl⟩ := ok_dg (h r List.mem_cons_self)
    obtain ⟨P, hP, rfl⟩ := ok_dgs rs (fun x hx => h x (List.mem_cons_of_mem _ hx))
    refine ⟨d :: P, fun e he => ?_, rfl⟩
    rcases List.mem_cons.1 he with rfl | he
    · exact hd
    · exact hP e he
theorem ok_peaks {x : AV} (h : okRow [.sl (List.replicate 32 (.int .u8))] [x]) : ∃ P : List Dg, All32 P ∧ LD P x ∧ P.length ≤ maxLen := by
  obtain ⟨v, _, e, hv, _⟩ := h.sl
  obtain ⟨rfl, _⟩ : x = v ∧ _ := by simpa using e
  rcases hv with rfl | ⟨rows, rfl, hl, hr⟩
  · exact ⟨[], (fun d hd => by cases hd), .inl ⟨rfl, rfl⟩, Nat.zero_le _⟩
  · obtain ⟨P, hP, rfl⟩ := ok_dgs rows hr
    exact ⟨P, hP, .inr (.inr ⟨false, rfl⟩), by rwa [dr_len] at hl⟩
theorem frD_lent (P : List Dg) : ∃ w, LD P w ∧ ((frD P = .nilS ∧ w = .nilS) ∨ (frD P = .fr 32 (dr P) ∧ w = .ro true 32 (dr P))) := by
  unfold frD
  by_cases h : P = []
  · exact ⟨.nilS, .inl ⟨rfl, h⟩, .inl ⟨by rw [if_pos h], rfl⟩⟩
  · exact ⟨.ro true 32 (dr P), .inr (.inr ⟨true, rfl⟩), .inr ⟨by rw [if_neg h], rfl⟩⟩
theorem law3 (x0 x1 : AV) (o0 : okRow [.int .i64] [x0]) (o1 : okRow [.sl (List.replicate 32 (.int .u8))] [x1]) : E 10 3 [x0, x1] = some (.bool true, []) := by
  obtain ⟨s, _, e, _, _⟩ := o0.int
  obtain ⟨rfl, _⟩ : x0 = .int .i64 s ∧ _ := by simpa using e
  obtain ⟨P, hP, hv, _⟩ := ok_peaks o1
  rw [e3]
  by_cases hn : 200 < P.length
  · exact law3_long (Q 9) s x1 P hv hn
  · have hn' : P.length ≤ 200 := by omega
    obtain ⟨w, hw, how⟩ := frD_lent P
    have c14 := digests14 8 x1 w P P hP hP hv hw (by omega)
    rw [decide_eq_true rfl] at c14
    have c10 := root10 1 s x1 P hv hP (by omega)
    have e10 : rootF s P = .tup [.agg (if okF s P.length then u8s (rootR P) else z29), .int .i64 (if okF s P.length then 0 else 30)] := by
      unfold rootF; cases okF s P.length <;> rfl
    rw [e10] at c10
    exact law3_of (Q 9) _ _ _ _ _ _ _ (q8 8) (q9 8) (q10 8) (q11 8) (q12 8) (q13 8) (q14 8) s x1 (frD P) w P hv hn' (dr P) how (okF s P.length) (u8s (rootR P)) (by rw [u8s_len, rootR_len hP]) (u8s_plain _)
      (own8 8 x1 P hv (by omega)) (check9 6 s x1 P hv (by omega)) c10 (right11 7 s w P hw (by omega)) (fun _ => root12 3 w P hw hP (by omega)) (rows13 0) c14 (self32 _ (rootR_len hP)) (by rw [z29_u8s]; exact self32 _ rfl)
theorem ref3 : Refines Go.Proofs.Tryd.prog 3 (E 10 3) := ref 10 3 (q3 9)
end Go.Abs.Tryd
