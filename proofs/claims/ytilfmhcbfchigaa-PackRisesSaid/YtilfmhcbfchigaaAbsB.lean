/- Part 2 of Abs: what our evaluation of a function's code says, the machine's run does; no condition of its own. -/
import Derived.Test.YtilfmhcbfchigaaAbsA
import Derived.Orders
import Derived.LoopN
import Derived.IntWalk
import Derived.Below
set_option linter.unusedVariables false
set_option linter.unusedSimpArgs false
set_option linter.unusedSectionVars false
namespace Go.Abs
open Go

section
variable {w : World} {G : Gh} {c : Nat}

/-- what a step of giving out leaves -/
structure OutOK (G : Gh) (h h' : AH) (c : Nat) (w : World) (fp : List Nat) : Prop where
  sub : ∀ nm g b, h'.get nm g = some b → h.get nm g = some b
  fpo : ∀ x ∈ fp, owned G h x ∧ ¬ owned G h' x ∧ ¬ G.R true x
  nodup : fp.Nodup

theorem owned_sub {h h' : AH} (hs : ∀ nm g b, h'.get nm g = some b → h.get nm g = some b) {x} (hx : owned G h' x) : owned G h x := by
  obtain ⟨nm, g, ⟨b, y, n⟩, e⟩ := hx
  exact ⟨nm, g, ⟨b, hs _ _ _ y, n⟩, e⟩

theorem OutOK.refl {h : AH} : OutOK G h h c w [] := ⟨fun _ _ _ x => x, by simp, List.nodup_nil⟩
theorem OutOK.trans {h1 h2 h3 f1 f2} (A : OutOK G h1 h2 c w f1) (B : OutOK G h2 h3 c w f2) : OutOK G h1 h3 c w (f1 ++ f2) where
  sub := fun nm g b x => A.sub _ _ _ (B.sub _ _ _ x)
  fpo := fun x hx => by
    rcases List.mem_append.1 hx with y | y
    · exact ⟨(A.fpo x y).1, fun z => (A.fpo x y).2.1 (owned_sub B.sub z), (A.fpo x y).2.2⟩
    · exact ⟨owned_sub A.sub (B.fpo x y).1, (B.fpo x y).2⟩
  nodup := by
    rw [List.nodup_append]
    refine ⟨A.nodup, B.nodup, fun x hx y hy e => ?_⟩
    subst e
    exact (A.fpo x hx).2.1 (B.fpo x hy).1

theorem sub_del {h : AH} {nm : Nat} : ∀ n g b, (h.del nm).get n g = some b → h.get n g = some b := by
  intro n g b x
  rw [get_del] at x
  split at x
  · cases x
  · exact x

theorem out_del {h : AH} {nm g b} (W : WRel G h c w) (hb : h.get nm g = some b) (hbg : b ≠ .gone) (hR : ¬ G.R true (G.blk g)) : OutOK G h (h.del nm) c w [G.blk g] where
  sub := sub_del
  fpo := fun x hx => by
    simp only [List.mem_singleton] at hx
    subst hx
    refine ⟨⟨nm, g, ⟨b, hb, hbg⟩, rfl⟩, fun ⟨n2, g2, ⟨b2, y, yn⟩, e⟩ => ?_, hR⟩
    rw [get_del] at y
    split at y
    · cases y
    · next hn =>
      rcases W.apart n2 g2 nm g ⟨_, y, yn⟩ ⟨_, hb, hbg⟩ with ⟨e1, _⟩ | e1
      · exact hn e1
      · exact e1 e
  nodup := by simp

theorem mvCell_ok {h : AH} {v cv b h'} (R1 : Nat → Prop) (W : WRel G h c w) (R : VRel G h c w v cv) (he : mvCell h v = some (b, h')) :
    ∃ fp, FCell (Gh.only G.R0 R1) w b cv fp ∧ OutOK G h h' c w fp := by
  unfold mvCell at he
  split at he
  · next nm g off len =>
    split at he
    · next sz rows hb =>
      split at he
      · next hle =>
        simp only [Option.some.injEq, Prod.mk.injEq] at he
        obtain ⟨rfl, rfl⟩ := he
        cases R with
        | own _ _ _ _ ad cap hc hg hl =>
          obtain ⟨ha, hk, ht⟩ := hl ⟨_, hb⟩
          cases W.blk _ _ _ hb with
          | arr _ _ _ us elem lo hi hsz hb1 hf htot hln hz hin hR hp hcs =>
            subst hsz
            have hR' : ¬ G.R true (G.blk g) := by simpa using hR
            refine ⟨[G.blk g], ?_, out_del W hb (by simp) hR'⟩
            have hlen : ((rows.drop off).take len).length = len := by simp; omega
            have := FCell.fr (G := Gh.only G.R0 R1) (w := w) (G.sz g) ((rows.drop off).take len) (G.blk g) (G.base g + off * G.sz g) ad cap us elem lo hi hb1 hf hz (by rw [hlen]; exact hc) ha
              (by rw [htot]; rw [Nat.add_mul] at ht; omega) (fun row hrow => hp row (List.mem_of_mem_drop (List.mem_of_mem_take hrow))) (fun i j row v x1 x2 => by
                obtain ⟨hi', x1'⟩ := take_drop_get _ _ _ _ _ x1
                obtain ⟨v', y1, y2⟩ := hcs (off + i) j row v x1' x2
                have hpl : v.plain = true := by
                  have := (hp row (List.mem_of_getElem? x1')).2
                  rw [List.all_eq_true] at this
                  exact this v (List.mem_of_getElem? x2)
                refine ⟨v', ?_, ?_⟩
                · rw [← y1]; congr 1; rw [Nat.add_mul]; omega
                · refine VRel.ofPlain (G := G) ?_ y2 hpl
                  exact fun b hb => ⟨hb, rfl⟩)
            rw [hlen] at this
            exact this
      · cases he
    · cases he
  · split at he
    · next hp =>
      simp only [Option.some.injEq, Prod.mk.injEq] at he
      obtain ⟨rfl, rfl⟩ := he
      refine ⟨[], .bare _ _ (AV.bare_of_plain hp) ?_, .refl⟩
      refine VRel.ofPlain (G := G) ?_ R hp
      exact fun b hb => ⟨hb, rfl⟩
    · cases he

theorem mvCells_ok (R1 : Nat → Prop) : ∀ {h : AH} {vs cvs bs h'}, WRel G h c w → LRel G h c w vs cvs → mvCells h vs = some (bs, h') →
    ∃ fp, FCells (Gh.only G.R0 R1) w bs cvs fp ∧ OutOK G h h' c w fp
  | h, [], cvs, bs, h', W, L, he => by
    simp only [mvCells, Option.some.injEq, Prod.mk.injEq] at he
    obtain ⟨rfl, rfl⟩ := he
    rw [L.nil_inv]
    exact ⟨[], .nil, .refl⟩
  | h, v :: vs, cvs, bs, h', W, L, he => by
    simp only [mvCells, Option.bind_eq_some_iff, Option.map_eq_some_iff] at he
    obtain ⟨p, hp, q, hq, he⟩ := he
    simp only [Prod.mk.injEq] at he
    obtain ⟨rfl, rfl⟩ := he
    obtain ⟨u, us, rfl, R, L'⟩ := L.cons_inv
    obtain ⟨f1, F1, O1⟩ := mvCell_ok (b := p.1) (h' := p.2) R1 W R hp
    obtain ⟨f2, F2, O2⟩ := mvCells_ok R1 (bs := q.1) (h' := q.2) (W.fewer O1.sub) (L'.later (Later.fewer O1.sub)) hq
    exact ⟨_, .cons F1 F2, O1.trans O2⟩

theorem mvVar_ok (R1 : Nat → Prop) {h : AH} {nm g cells bs h'} (W : WRel G h c w) (hb : h.get nm g = some (.var cells)) (he : mvCells (h.del nm) cells = some (bs, h')) :
    ∃ fp, FVal (Gh.only G.R0 R1) w (.pv bs) (.pointer (some ⟨G.blk g, 0, none⟩)) fp ∧ OutOK G h h' c w fp := by
  cases W.blk _ _ _ hb with
  | var _ us elem lo hi hb1 hf htot hln hR hcb hcs =>
    have O1 := out_del W hb (by simp) hR
    obtain ⟨f2, F2, O2⟩ := mvCells_ok R1 (W.fewer O1.sub) (hcs.later (Later.fewer O1.sub)) he
    exact ⟨_, .pv (G.blk g) elem lo hi hb1 hf F2, O1.trans O2⟩

theorem outVal_ok (R1 : Nat → Prop) {h : AH} {v cv b h'} (W : WRel G h c w) (R : VRel G h c w v cv) (he : outVal h v = some (b, h')) :
    ∃ fp, FVal (Gh.only G.R0 R1) w b cv fp ∧ OutOK G h h' c w fp := by
  unfold outVal at he
  split at he
  · simp only [Option.map_eq_some_iff] at he
    obtain ⟨q, hq, he⟩ := he
    simp only [Prod.mk.injEq] at he
    obtain ⟨rfl, rfl⟩ := he
    obtain ⟨vs, rfl, L⟩ := R.agg_inv
    obtain ⟨fp, F, O⟩ := mvCells_ok R1 (bs := q.1) (h' := q.2) W L hq
    exact ⟨fp, .agg F, O⟩
  · next nm g off =>
    split at he
    · next cells hb =>
      split at he
      · next h0 =>
        subst h0
        simp only [Option.map_eq_some_iff] at he
        obtain ⟨q, hq, he⟩ := he
        simp only [Prod.mk.injEq] at he
        obtain ⟨rfl, rfl⟩ := he
        cases R with
        | ptr _ _ _ ad hg hl =>
          have := hl ⟨_, hb⟩
          subst this
          exact mvVar_ok R1 W hb hq
      · cases he
    · cases he
  · obtain ⟨fp, F, O⟩ := mvCell_ok R1 W R he
    exact ⟨fp, .cell F, O⟩

theorem outVals_ok (R1 : Nat → Prop) : ∀ {h : AH} {vs cvs bs h'}, WRel G h c w → LRel G h c w vs cvs → outVals h vs = some (bs, h') →
    ∃ fp, FVals (Gh.only G.R0 R1) w bs cvs fp ∧ OutOK G h h' c w fp
  | h, [], cvs, bs, h', W, L, he => by
    simp only [outVals, Option.some.injEq, Prod.mk.injEq] at he
    obtain ⟨rfl, rfl⟩ := he
    rw [L.nil_inv]
    exact ⟨[], .nil, .refl⟩
  | h, v :: vs, cvs, bs, h', W, L, he => by
    simp only [outVals, Option.bind_eq_some_iff, Option.map_eq_some_iff] at he
    obtain ⟨p, hp, q, hq, he⟩ := he
    simp only [Prod.mk.injEq] at he
    obtain ⟨rfl, rfl⟩ := he
    obtain ⟨u, us, rfl, R, L'⟩ := L.cons_inv
    obtain ⟨f1, F1, O1⟩ := outVal_ok R1 (b := p.1) (h' := p.2) W R hp
    obtain ⟨f2, F2, O2⟩ := outVals_ok R1 (bs := q.1) (h' := q.2) (W.fewer O1.sub) (L'.later (Later.fewer O1.sub)) hq
    exact ⟨_, .cons F1 F2, O1.trans O2⟩

theorem outRes_ok (R1 : Nat → Prop) {h : AH} {v cv b h'} (W : WRel G h c w) (R : VRel G h c w v cv) (he : outRes h v = some (b, h')) :
    ∃ fp, FRes (Gh.only G.R0 R1) w b cv fp ∧ OutOK G h h' c w fp := by
  unfold outRes at he
  split at he
  · simp only [Option.map_eq_some_iff] at he
    obtain ⟨q, hq, he⟩ := he
    simp only [Prod.mk.injEq] at he
    obtain ⟨rfl, rfl⟩ := he
    obtain ⟨vs, rfl, L⟩ := R.tup_inv
    obtain ⟨fp, F, O⟩ := outVals_ok R1 (bs := q.1) (h' := q.2) W L hq
    exact ⟨fp, .tup F, O⟩
  · obtain ⟨fp, F, O⟩ := outVal_ok R1 W R he
    exact ⟨fp, .val F, O⟩

/- ---------------------------------------------------------------- arguments -/
/-- arguments from which the variables have gone -/
inductive MArgs (G : Gh) (h : AH) (c : Nat) (w : World) (R1 : Nat → Prop) : List AV → List Value → List (Nat × Nat × Nat) → List Nat → Prop
  | nil : MArgs G h c w R1 [] [] [] []
  | val {v cv vs cvs ms fp} (hn : ∀ cs, v ≠ .pv cs) (hv : VRel G h c w v cv) (t : MArgs G h c w R1 vs cvs ms fp) : MArgs G h c w R1 (v :: vs) (cv :: cvs) ms fp
  | pv {cs vs cvs nm g f1 ms fp} (hf : FVal (Gh.only G.R0 R1) w (.pv cs) (.pointer (some ⟨G.blk g, 0, none⟩)) f1) (hl : live h nm g) (hg : g < c) (hn : G.ln g = cs.length ∧ G.tot g = cs.length) (t : MArgs G h c w R1 vs cvs ms fp) : MArgs G h c w R1 (.pv cs :: vs) (.pointer (some ⟨G.blk g, 0, none⟩) :: cvs) ((nm, g, cs.length) :: ms) (f1 ++ fp)

theorem mvCells_len : ∀ {h : AH} {vs bs h'}, mvCells h vs = some (bs, h') → bs.length = vs.length
  | h, [], bs, h', he => by
    simp only [mvCells, Option.some.injEq, Prod.mk.injEq] at he
    obtain ⟨rfl, rfl⟩ := he; rfl
  | h, v :: vs, bs, h', he => by
    simp only [mvCells, Option.bind_eq_some_iff, Option.map_eq_some_iff] at he
    obtain ⟨p, hp, q, hq, he⟩ := he
    simp only [Prod.mk.injEq] at he
    obtain ⟨rfl, rfl⟩ := he
    simp [mvCells_len (bs := q.1) (h' := q.2) hq]

/-- a variable's content goes to a callee -/
theorem put_gone {h : AH} {nm g cells} (W : WRel G h c w) (hb : h.get nm g = some (.var cells)) : WRel G (h.put nm g .gone) c w ∧ Later G G h (h.put nm g .gone) c c w w := by
  have L : Later G G h (h.put nm g .gone) c c w w := { (Stp.refl G h c w).toLater with
    lv := fun n2 g2 _ x => by
      rcases live_put.1 x with ⟨rfl, rfl⟩ | ⟨_, x⟩
      · exact ⟨_, hb⟩
      · exact x }
  refine ⟨W.put L (Nat.le_refl _) (fun nm2 g2 hn hl2 => ⟨rfl, fun e => absurd rfl e, id⟩) (W.gen _ _ _ hb) ?_ W.old, L⟩
  · cases W.blk _ _ _ hb with
    | var _ us elem lo hi hb1 hf htot hln hR hcb hcs => exact .gone (Array.getElem?_eq_some_iff.1 hb1).1

/-- what giving arguments out leaves: fewer, or gone -/
structure MvOK (G : Gh) (h h' : AH) (c : Nat) (w : World) (fp : List Nat) : Prop where
  later : Later G G h h' c c w w
  wrel : WRel G h' c w
  sub : ∀ nm g b, h'.get nm g = some b → b ≠ .gone → h.get nm g = some b
  fpo : ∀ x ∈ fp, owned G h x ∧ ¬ owned G h' x ∧ ¬ G.R true x
  nodup : fp.Nodup
theorem MvOK.subN {h h' fp} (A : MvOK G h h' c w fp) {x} (hx : owned G h' x) : owned G h x := by
  obtain ⟨nm, g, ⟨b, y, n⟩, e⟩ := hx
  exact ⟨nm, g, ⟨b, A.sub _ _ _ y n, n⟩, e⟩
theorem MvOK.trans {h1 h2 h3 f1 f2} (A : MvOK G h1 h2 c w f1) (B : MvOK G h2 h3 c w f2) : MvOK G h1 h3 c w (f1 ++ f2) where
  later := A.later.trans B.later
  wrel := B.wrel
  sub := fun nm g b x n => A.sub _ _ _ (B.sub _ _ _ x n) n
  fpo := fun x hx => by
    rcases List.mem_append.1 hx with y | y
    · exact ⟨(A.fpo x y).1, fun z => (A.fpo x y).2.1 (B.subN z), (A.fpo x y).2.2⟩
    · exact ⟨A.subN (B.fpo x y).1, (B.fpo x y).2⟩
  nodup := by
    rw [List.nodup_append]
    refine ⟨A.nodup, B.nodup, fun x hx y hy e => ?_⟩
    subst e
    exact (A.fpo x hx).2.1 (B.fpo x hy).1
theorem OutOK.mv {h h' fp} (W : WRel G h c w) (A : OutOK G h h' c w fp) : MvOK G h h' c w fp :=
  ⟨Later.fewer A.sub, W.fewer A.sub, fun nm g b x _ => A.sub _ _ _ x, A.fpo, A.nodup⟩
theorem MvOK.refl {h} (W : WRel G h c w) : MvOK G h h c w [] := OutOK.mv W .refl

theorem gone_ok {h : AH} {nm g cells} (W : WRel G h c w) (hb : h.get nm g = some (.var cells)) : MvOK G h (h.put nm g .gone) c w [G.blk g] := by
  obtain ⟨W', L⟩ := put_gone W hb
  refine ⟨L, W', fun n2 g2 b x n => ?_, fun x hx => ?_, by simp⟩
  · rw [get_put] at x
    split at x
    · split at x
      · obtain rfl := Option.some.inj x; exact absurd rfl n
      · cases x
    · exact x
  · simp only [List.mem_singleton] at hx
    subst hx
    refine ⟨⟨nm, g, ⟨_, hb, by simp⟩, rfl⟩, fun ⟨n2, g2, ⟨b2, y, nn⟩, e⟩ => ?_, ?_⟩
    · rw [get_put] at y
      split at y
      · split at y
        · obtain rfl := Option.some.inj y; exact nn rfl
        · cases y
      · next hn =>
        rcases W.apart n2 g2 nm g ⟨_, y, nn⟩ ⟨_, hb, by simp⟩ with ⟨e1, _⟩ | e1
        · exact hn e1
        · exact e1 e
    · cases W.blk _ _ _ hb with
      | var _ us elem lo hi hb1 hf htot hln hR hcb hcs => exact hR

theorem mvVarG_ok (R1 : Nat → Prop) {h : AH} {nm g cells bs h'} (W : WRel G h c w) (hb : h.get nm g = some (.var cells)) (he : mvCells (h.put nm g .gone) cells = some (bs, h')) :
    ∃ fp, FVal (Gh.only G.R0 R1) w (.pv bs) (.pointer (some ⟨G.blk g, 0, none⟩)) fp ∧ MvOK G h h' c w fp ∧ (G.ln g = cells.length ∧ G.tot g = cells.length) := by
  have M := gone_ok W hb
  cases W.blk _ _ _ hb with
  | var _ us elem lo hi hb1 hf htot hln hR hcb hcs =>
    obtain ⟨f2, F2, O2⟩ := mvCells_ok R1 M.wrel (hcs.later M.later) he
    exact ⟨_, .pv (G.blk g) elem lo hi hb1 hf F2, M.trans (O2.mv M.wrel), hln.symm, by rw [← htot]; exact hcs.1⟩

theorem mvArgs_ok (R1 : Nat → Prop) (h0 : AH) : ∀ {h : AH} {vs cvs vs1 h1 ms}, WRel G h c w → (∀ nm g b, h.get nm g = some b → b ≠ .gone → h0.get nm g = some b) → LRel G h0 c w vs cvs → mvArgs h vs = some (vs1, h1, ms) →
    ∃ fp, MArgs G h0 c w R1 vs1 cvs ms fp ∧ MvOK G h h1 c w fp
  | h, [], cvs, vs1, h1, ms, W, hs, L, he => by
    simp only [mvArgs, Option.some.injEq, Prod.mk.injEq] at he
    obtain ⟨rfl, rfl, rfl⟩ := he
    rw [L.nil_inv]
    exact ⟨[], .nil, .refl W⟩
  | h, v :: vs, cvs, vs1, h1, ms, W, hs, L, he => by
    obtain ⟨u, us, rfl, R, L'⟩ := L.cons_inv
    unfold mvArgs at he
    split at he
    · next e => cases e
    · next nm g off r e =>
      simp only [List.cons.injEq] at e
      obtain ⟨rfl, rfl⟩ := e
      split at he
      · next cells hb =>
        split at he
        · next h0' =>
          subst h0'
          simp only [Option.bind_eq_some_iff, Option.map_eq_some_iff] at he
          obtain ⟨p, hp, q, hq, he⟩ := he
          simp only [Prod.mk.injEq] at he
          obtain ⟨rfl, rfl, rfl⟩ := he
          obtain ⟨f1, F1, O1, hln⟩ := mvVarG_ok R1 (bs := p.1) (h' := p.2) W hb hp
          obtain ⟨f2, M2, O2⟩ := mvArgs_ok R1 h0 (vs1 := q.1) (h1 := q.2.1) (ms := q.2.2) O1.wrel (fun nm g b x n => hs _ _ _ (O1.sub _ _ _ x n) n) L' hq
          cases R with
          | ptr _ _ _ ad hg hl =>
            have := hl ⟨_, hs _ _ _ hb (by simp)⟩
            subst this
            have M := MArgs.pv F1 ⟨_, hs _ _ _ hb (by simp)⟩ hg (by rw [mvCells_len hp]; exact hln) M2
            rw [mvCells_len hp] at M
            exact ⟨_, M, O1.trans O2⟩
        · cases he
      · cases he
    · next v' r hn e =>
      simp only [List.cons.injEq] at e
      obtain ⟨rfl, rfl⟩ := e
      simp only [Option.map_eq_some_iff] at he
      obtain ⟨q, hq, he⟩ := he
      simp only [Prod.mk.injEq] at he
      obtain ⟨rfl, rfl, rfl⟩ := he
      obtain ⟨f2, M2, O2⟩ := mvArgs_ok R1 h0 (vs1 := q.1) (h1 := q.2.1) (ms := q.2.2) W hs L' hq
      exact ⟨_, .val (fun cs e => by subst e; cases R) R M2, O2⟩

/-- lent rows are not written as long as the call lasts -/
theorem lendCell_ok {h : AH} {v cv b} (W : WRel G h c w) (R : VRel G h c w v cv) (he : lendCell h v = some b) : FCell (Gh.only G.R0 fun x => G.R1 x ∨ owned G h x) w b cv [] := by
  have base : ∀ {v}, VRel G h c w v cv → v.bare = true → FCell (Gh.only G.R0 fun x => G.R1 x ∨ owned G h x) w v cv [] := by
    intro v R hb
    refine .bare _ _ hb ?_
    refine VRel.ofBare (G := G) ?_ ?_ R hb
    · exact fun b hb => ⟨hb, rfl⟩
    · exact fun b hb => ⟨.inl hb, rfl⟩
  unfold lendCell at he
  split at he
  · next nm g off len =>
    split at he
    · next sz rows fz hb =>
      split at he
      · next hle =>
        obtain rfl := Option.some.inj he
        have H := rowsOf_run (sz := sz) (rows := (rows.drop off).take len) W R (by simp [rowsOf, hb, hle])
        have hlen : ((rows.drop off).take len).length = len := by simp; omega
        cases R with
        | own _ _ _ _ ad cap hc hg hl =>
          obtain ⟨ha, hk, ht⟩ := hl ⟨_, hb⟩
          cases W.blk _ _ _ hb with
          | arr _ _ _ us elem lo hi hsz hb1 hf htot hln hz hin hR hp hcs =>
            subst hsz
            refine .bare _ _ rfl ?_
            have key : VRel (Gh.only G.R0 fun x => G.R1 x ∨ owned G h x) [] 0 w (.ro true (G.sz g) ((rows.drop off).take len)) (.slice (some ad) ((rows.drop off).take len).length cap) := by
              refine .ro true (G.sz g) _ ad cap (fun i j => (us[G.base g + ((off + i) * G.sz g + j)]?).getD undef) (by rw [hlen]; exact hc) (fun hne => ?_) H.hrow ?_ ?_
              · have hpos : 0 < len := by
                  rcases Nat.eq_zero_or_pos len with e | e
                  · subst e; simp at hne
                  · exact e
                rcases ha with ha | ha
                · omega
                · subst ha; exact ⟨.inr (.inr ⟨nm, g, ⟨_, hb, by simp⟩, rfl⟩), rfl, hz⟩
              · intro i j row v x1 x2
                obtain ⟨hi', x1'⟩ := take_drop_get _ _ _ _ _ x1
                obtain ⟨v', y1, y2⟩ := hcs (off + i) j row v x1' x2
                rcases ha with ha | ha
                · omega
                · subst ha
                  rw [cell?_blk (w := w) hb1]
                  have e : G.base g + off * G.sz g + (i * G.sz g + j) = G.base g + ((off + i) * G.sz g + j) := by rw [Nat.add_mul]; omega
                  show us[G.base g + off * G.sz g + (i * G.sz g + j)]? = _
                  rw [e, y1]; rfl
              · intro i j row v x1 x2
                obtain ⟨hi', x1'⟩ := take_drop_get _ _ _ _ _ x1
                obtain ⟨v', y1, y2⟩ := hcs (off + i) j row v x1' x2
                simp only [y1, Option.getD_some]
                have hpl : v.plain = true := by
                  have := (hp row (List.mem_of_getElem? x1')).2
                  rw [List.all_eq_true] at this
                  exact this v (List.mem_of_getElem? x2)
                refine VRel.ofPlain (G := G) ?_ y2 hpl
                exact fun b hb => ⟨hb, rfl⟩
            rw [hlen] at key
            exact key
      · cases he
    · cases he
  · next nm g off len =>
    split at he
    · next cells hb =>
      split at he
      · next hcond =>
        obtain ⟨hle, hpl⟩ := hcond
        obtain rfl := Option.some.inj he
        have H := rowsOf_run (sz := 1) (rows := ((cells.drop off).take len).map fun c => [c]) W R (by simp only [rowsOf, hb]; rw [if_pos ⟨trivial, hle, hpl⟩])
        have hlen : (((cells.drop off).take len).map fun c => [c]).length = len := by simp; omega
        have hget : ∀ (i j : Nat) row v, (((cells.drop off).take len).map fun c => [c])[i]? = some row → row[j]? = some v → i < len ∧ j = 0 ∧ cells[off + i]? = some v := by
          intro i j row v x1 x2
          rw [List.getElem?_map, Option.map_eq_some_iff] at x1
          obtain ⟨u, hu, rfl⟩ := x1
          obtain ⟨hi', hu'⟩ := take_drop_get _ _ _ _ _ hu
          cases j with
          | zero => simp at x2; subst x2; exact ⟨hi', rfl, hu'⟩
          | succ j => simp at x2
        cases R with
        | vsl _ _ _ _ ad cap hc hg hl =>
          obtain ⟨ha, hk⟩ := hl ⟨_, hb⟩
          cases W.blk _ _ _ hb with
          | var _ us elem lo hi hb1 hf htot hln hR hcb hcs =>
            refine .bare _ _ rfl ?_
            have key : VRel (Gh.only G.R0 fun x => G.R1 x ∨ owned G h x) [] 0 w (.ro true 1 (((cells.drop off).take len).map fun c => [c])) (.slice (some ad) (((cells.drop off).take len).map fun c => [c]).length cap) := by
              refine .ro true 1 _ ad cap (fun i j => (us[off + i]?).getD undef) (by rw [hlen]; exact hc) (fun hne => ?_) H.hrow ?_ ?_
              · have hpos : 0 < len := by
                  rcases Nat.eq_zero_or_pos len with e | e
                  · subst e; simp at hne
                  · exact e
                rcases ha with ha | ha
                · omega
                · subst ha; exact ⟨.inr (.inr ⟨nm, g, ⟨_, hb, by simp⟩, rfl⟩), rfl, by omega⟩
              · intro i j row v x1 x2
                obtain ⟨hi', rfl, hu⟩ := hget i j row v x1 x2
                obtain ⟨v', y1, y2⟩ := hcs.2 _ v hu
                rcases ha with ha | ha
                · omega
                · subst ha
                  rw [cell?_blk (w := w) hb1]
                  show us[off + (i * 1 + 0)]? = _
                  rw [show off + (i * 1 + 0) = off + i by omega, y1]; rfl
              · intro i j row v x1 x2
                obtain ⟨hi', rfl, hu⟩ := hget i j row v x1 x2
                obtain ⟨v', y1, y2⟩ := hcs.2 _ v hu
                simp only [y1, Option.getD_some]
                have hpl' : v.plain = true := by
                  have := (H.hrow row (List.mem_of_getElem? x1)).2
                  rw [List.all_eq_true] at this
                  exact this v (List.mem_of_getElem? x2)
                refine VRel.ofPlain (G := G) ?_ y2 hpl'
                exact fun b hb => ⟨hb, rfl⟩
            rw [hlen] at key
            exact key
      · cases he
    · cases he
  · split at he
    · next hb => obtain rfl := Option.some.inj he; exact base R hb
    · cases he

theorem lendCells_ok {h : AH} (W : WRel G h c w) : ∀ {vs cvs bs}, LRel G h c w vs cvs → lendCells h vs = some bs → FCells (Gh.only G.R0 fun x => G.R1 x ∨ owned G h x) w bs cvs []
  | [], cvs, bs, L, he => by
    simp only [lendCells, Option.some.injEq] at he
    subst he
    rw [L.nil_inv]; exact .nil
  | v :: vs, cvs, bs, L, he => by
    simp only [lendCells, Option.bind_eq_some_iff, Option.map_eq_some_iff] at he
    obtain ⟨p, hp, q, hq, rfl⟩ := he
    obtain ⟨u, us, rfl, R, L'⟩ := L.cons_inv
    exact .cons (fp := []) (fps := []) (lendCell_ok W R hp) (lendCells_ok W L' hq)

theorem lendArgs_ok {h h1 : AH} (W : WRel G h1 c w) (hs : Later G G h h1 c c w w) : ∀ {vs cvs ms fp bs}, MArgs G h c w (fun x => G.R1 x ∨ owned G h1 x) vs cvs ms fp → lendArgs h1 vs = some bs →
    FVals (Gh.only G.R0 fun x => G.R1 x ∨ owned G h1 x) w bs cvs fp
  | [], cvs, ms, fp, bs, M, he => by
    simp only [lendArgs, Option.some.injEq] at he
    subst he
    cases M; exact .nil
  | v :: vs, cvs, ms, fp, bs, M, he => by
    simp only [lendArgs, Option.bind_eq_some_iff, Option.map_eq_some_iff] at he
    obtain ⟨p, hp, q, hq, rfl⟩ := he
    cases M with
    | val hn hv t =>
      have hv1 := hv.later hs
      have ih := lendArgs_ok W hs t hq
      unfold lendArg at hp
      split at hp
      · simp only [Option.map_eq_some_iff] at hp
        obtain ⟨x, hx, rfl⟩ := hp
        obtain ⟨us, rfl, L⟩ := hv1.agg_inv
        exact .cons (fp := []) (.agg (lendCells_ok W L hx)) ih
      · exact absurd rfl (hn _)
      · exact .cons (fp := []) (.cell (lendCell_ok W hv1 hp)) ih
    | pv hf hl hg hn t =>
      have ih := lendArgs_ok W hs t hq
      simp only [lendArg, Option.some.injEq] at hp
      subst hp
      exact .cons hf ih
end
end Go.Abs

namespace Go.Abs
open Go

section
variable {P : Program} {Φ : Nat → Option CallF} {G : Gh} {h : AH} {c : Nat} {w : World}

theorem inPvs_ok {w' : World} {G0 : Gh} {h0 : AH} {c0 : Nat} {w0 : World} {Rx : Nat → Prop} : ∀ {vs1 cvs ms fp0 bs ps fpp G h c h2 c2}, MArgs G0 h0 c0 w0 Rx vs1 cvs ms fp0 → FPvs (Gh.only G.R0 fun _ => False) w' bs cvs ps fpp → (∀ (i : Nat) cs, vs1[i]? = some (.pv cs) → bs[i]? = some (.pv cs)) → vs1.length = bs.length → (∀ (i : Nat) cs, bs[i]? = some (.pv cs) → vs1[i]? = some (.pv cs)) →
    WRel G h c w' → (∀ g, g < c0 → G.blk g = G0.blk g ∧ G.ln g = G0.ln g ∧ G.tot g = G0.tot g) → c0 ≤ c → fpp.Nodup → (∀ b ∈ fpp, ¬ owned G h b ∧ ¬ G.R true b) → inPvs h c ms ps = some (h2, c2) →
    ∃ G', InOK G G' h h2 c c2 w' fpp ∧ (∀ g, g < c0 → G'.blk g = G0.blk g ∧ G'.ln g = G0.ln g ∧ G'.tot g = G0.tot g)
  | [], cvs, ms, fp0, bs, ps, fpp, G, h, c, h2, c2, M, F, hb, hlen, hb', W, hG, hc, hnd, hd, he => by
    cases M
    cases F
    simp only [inPvs, Option.some.injEq, Prod.mk.injEq] at he
    obtain ⟨rfl, rfl⟩ := he
    exact ⟨G, InOK.refl W, hG⟩
  | v :: vs1, cvs, ms, fp0, bs, ps, fpp, G, h, c, h2, c2, M, F, hb, hlen, hb', W, hG, hc, hnd, hd, he => by
    cases M with
    | val hn hv t =>
      cases F with
      | skip hv' F' =>
        exact inPvs_ok t F' (fun i cs x => hb (i + 1) cs (by simpa using x)) (by simpa using hlen) (fun i cs x => hb' (i + 1) cs (by simpa using x)) W hG hc hnd hd he
      | pv hl hF F' =>
        have := hb' 0 _ (by simp; rfl)
        simp at this
        exact absurd this (hn _)
    | @pv cs _ cvs' nm g f1 ms' fp' hf hl hg hn t =>
      cases F with
      | skip hv' F' =>
        have := hb 0 cs (by simp)
        simp at this
        exact absurd this (hv' _)
      | @pv cs2 _ _ _ cs' fp1 ps' fps hl' hF F' =>
        have e1 := hb' 0 cs2 (by simp)
        simp only [List.getElem?_cons_zero, Option.some.injEq, AV.pv.injEq] at e1
        subst e1
        simp only [inPvs] at he
        by_cases hlen' : cs'.length = cs.length
        · rw [if_pos hlen'] at he
          simp only [Option.bind_eq_some_iff] at he
          obtain ⟨p, hp, he⟩ := he
          rw [List.nodup_append] at hnd
          obtain ⟨n1, n2, n3⟩ := hnd
          cases hF with
          | cell h => cases h with | bare _ _ hb => simp [AV.bare] at hb
          | @pv _ us fp2 b elem lo hi hbk hfz F2 =>
            rw [List.nodup_cons] at n1
            have hdj : ∀ b ∈ fp2, ¬ owned G h b ∧ ¬ G.R true b := fun b hb => hd b (List.mem_append_left _ (List.mem_cons_of_mem _ hb))
            have F2' : FCells (Gh.only G.R0 G.R1) w' cs' us fp2 := F2.up
            obtain ⟨G1, I1, L1⟩ := inCells_ok (vs' := p.1) (h' := p.2.1) (c' := p.2.2) W F2' n1.2 hdj hp
            split at he
            · next hgone =>
              have hg1 : g < c := by omega
              obtain ⟨k1, k2, k3, k4, k5⟩ := I1.later.gh g hg1
              obtain ⟨q1, q2, q3⟩ := hG g hg
              have hb1 := hd (G0.blk g) (List.mem_append_left _ (by simp))
              have hblk : G1.blk g = G0.blk g := k1.trans q1
              have hul : us.length = cs'.length := F2.len
              obtain ⟨m1, m2⟩ := inCells_len (vs' := p.1) (h' := p.2.1) (c' := p.2.2) hp
              have hno : ¬ owned G1 p.2.1 (G1.blk g) := by
                intro x
                rw [hblk] at x
                rcases I1.own _ x with y | y
                · exact hb1.1 y
                · exact n1.1 y
              have L' : Later G1 G1 p.2.1 (p.2.1.put nm g (.var p.1)) p.2.2 p.2.2 w' w' :=
                { (Stp.refl G1 p.2.1 p.2.2 w').toLater with
                  lv := fun nm2 g2 _ x => by
                    rcases live_put.1 x with ⟨rfl, rfl⟩ | ⟨_, x⟩
                    · exact ⟨_, hgone⟩
                    · exact x }
              have hlt : g < p.2.2 := Nat.lt_of_lt_of_le hg1 I1.later.cc
              have W2 : WRel G1 (p.2.1.put nm g (.var p.1)) p.2.2 w' := by
                refine I1.wrel.put L' (Nat.le_refl _) (fun nm2 g2 hn2 hl2 => ⟨rfl, fun _ e => hno ⟨nm2, g2, hl2, e.symm⟩, id⟩) hlt ?_ I1.wrel.old
                refine .var p.1 us elem lo hi (by rw [hblk]; exact hbk) hfz ?_ ?_ ?_ m2 (L1.later L')
                · rw [k5, q3, hn.2, hul, hl']
                · rw [k4, q2, hn.1, m1, hl']
                · rw [hblk]; intro x; apply hb1.2; simpa [Gh.R, I1.r0, I1.r1] using x
              have I2 : InOK G G1 h (p.2.1.put nm g (.var p.1)) c p.2.2 w' (G0.blk g :: fp2) := by
                refine ⟨I1.later.trans L', W2, fun x hx => ?_, I1.r0, I1.r1⟩
                obtain ⟨n2, g2, hl2, e⟩ := hx
                rcases liveN_put hl2 with ⟨rfl, rfl⟩ | ⟨_, hl2⟩
                · right; rw [← e, hblk]; simp
                · exact (I1.own x ⟨n2, g2, hl2, e⟩).imp id (fun z => List.mem_cons_of_mem _ z)
              have hd3 : ∀ b ∈ fps, ¬ owned G1 (p.2.1.put nm g (.var p.1)) b ∧ ¬ G1.R true b := by
                intro b hb
                obtain ⟨x1, x2⟩ := hd b (List.mem_append_right _ hb)
                refine ⟨fun x => ?_, ?_⟩
                · rcases I2.own b x with y | y
                  · exact x1 y
                  · exact n3 b y b hb rfl
                · intro x; apply x2
                  simpa [Gh.R, I1.r0, I1.r1] using x
              have hG1 : ∀ g', g' < c0 → G1.blk g' = G0.blk g' ∧ G1.ln g' = G0.ln g' ∧ G1.tot g' = G0.tot g' := by
                intro g' hg'
                obtain ⟨z1, z2, z3, z4, z5⟩ := I1.later.gh g' (by omega)
                obtain ⟨y1, y2, y3⟩ := hG g' hg'
                exact ⟨z1.trans y1, z4.trans y2, z5.trans y3⟩
              obtain ⟨G3, I3, hG3⟩ := inPvs_ok t (by rw [I1.r0]; exact F') (fun i cs x => hb (i + 1) cs (by simpa using x)) (by simpa using hlen) (fun i cs x => hb' (i + 1) cs (by simpa using x)) W2 hG1 (Nat.le_trans hc I1.later.cc) n2 hd3 he
              exact ⟨G3, I2.trans I3, hG3⟩
            · cases he
        · rw [if_neg hlen'] at he; cases he

theorem lend_pv : ∀ {h : AH} {vs bs}, lendArgs h vs = some bs → vs.length = bs.length ∧ (∀ (i : Nat) cs, vs[i]? = some (.pv cs) → bs[i]? = some (.pv cs)) ∧ (∀ (i : Nat) cs, bs[i]? = some (.pv cs) → vs[i]? = some (.pv cs))
  | h, [], bs, he => by
    simp only [lendArgs, Option.some.injEq] at he
    subst he; simp
  | h, v :: vs, bs, he => by
    simp only [lendArgs, Option.bind_eq_some_iff, Option.map_eq_some_iff] at he
    obtain ⟨p, hp, q, hq, rfl⟩ := he
    obtain ⟨i1, i2, i3⟩ := lend_pv hq
    have hpv : ∀ cs, v = .pv cs ↔ p = .pv cs := by
      intro cs
      unfold lendArg at hp
      split at hp
      · simp only [Option.map_eq_some_iff] at hp
        obtain ⟨x, _, rfl⟩ := hp
        simp
      · obtain rfl := Option.some.inj hp; simp
      · next v' hn1 hn2 =>
        constructor
        · intro e; exact absurd e (hn2 _)
        · intro e; subst e
          unfold lendCell at hp
          split at hp
          · split at hp
            · split at hp <;> simp at hp
            · cases hp
          · split at hp
            · split at hp <;> simp at hp
            · cases hp
          · split at hp
            · obtain rfl := Option.some.inj hp; exact absurd rfl (hn2 _)
            · cases hp
    refine ⟨by simp [i1], fun i cs x => ?_, fun i cs x => ?_⟩
    · cases i with
      | zero => simp at x ⊢; exact (hpv cs).1 x
      | succ i => simp at x ⊢; exact i2 i cs x
    · cases i with
      | zero => simp at x ⊢; exact (hpv cs).2 x
      | succ i => simp at x ⊢; exact i3 i cs x

/-- A call of a function whose contract is known. -/
theorem acall_ok {f F nm vs cvs r} (W : WRel G h c w) (L : LRel G h c w vs cvs) (HF : Refines P f F) (he : acall F h c nm vs = some r) :
    Calls P f ⟨cvs⟩ w fun e w' => ∃ cv G', e = .returned cv ∧ Stp G G' h r.2.1 c r.2.2 w w' ∧ WRel G' r.2.1 r.2.2 w' ∧ VRel G' r.2.1 r.2.2 w' r.1 cv := by
  simp only [acall, Option.bind_eq_some_iff] at he
  obtain ⟨m, hm, bs, hbs, x, hx, q, hq, he⟩ := he
  obtain ⟨fp, M, O⟩ := mvArgs_ok (vs1 := m.1) (h1 := m.2.1) (ms := m.2.2) (fun x => G.R1 x ∨ owned G m.2.1 x) h W (fun _ _ _ x _ => x) L hm
  have FV := lendArgs_ok O.wrel O.later M hbs
  obtain ⟨l1, l2, l3⟩ := lend_pv hbs
  refine (HF bs x.1 x.2 hx G.R0 (fun x => G.R1 x ∨ owned G m.2.1 x) w cvs fp FV O.nodup (fun b hb => ?_) (fun b hb => ?_)).mono ?_
  · obtain ⟨_, y2, y3⟩ := O.fpo b hb
    exact ⟨fun z => y3 (.inl z), fun z => z.elim (fun z => y3 (.inr z)) y2⟩
  · rcases hb with y | y | y
    · exact W.old b (.inl y)
    · exact W.old b (.inr y)
    · exact O.wrel.lt y
  · rintro e w' ⟨cv, R0', fpr, fpp, rfl, hsz, hos, htp, hout, hkeep, hr0, hr0', FR, FP, hnd, hown⟩
    let G1 : Gh := { G with R0 := R0' }
    have hRfp : ∀ b, G.R true b → b ∉ fp := fun b hb hf => (O.fpo b hf).2.2 hb
    have L1 : Later G G1 h m.2.1 c c w w' :=
      { gh := fun _ _ => ⟨rfl, rfl, rfl, rfl, rfl⟩
        r0 := hr0
        r1 := fun _ x => x
        opq := rfl
        cc := Nat.le_refl _
        lv := O.later.lv
        rw := fun b hb => hkeep b (W.old b hb) (hRfp b hb) }
    have L1' : Later G G1 m.2.1 m.2.1 c c w w' := { L1 with lv := fun _ _ _ x => x }
    have hR1 : ∀ b, b < w.heap.size → b ∉ fp → G1.R true b → G.R true b := by
      intro b hb hf hR
      rcases hR with y | y
      · rcases (hr0' b y).1 with z | z | z
        · exact .inl z
        · exact absurd z hf
        · omega
      · exact .inr y
    have W1 : WRel G1 m.2.1 c w' :=
      { gen := O.wrel.gen
        blk := fun nm g b x => by
          by_cases hg : b = .gone
          · subst hg
            cases O.wrel.blk nm g _ x with
            | gone hlt => exact .gone (Nat.lt_of_lt_of_le hlt hsz)
          · have ho : owned G m.2.1 (G.blk g) := ⟨nm, g, ⟨b, x, hg⟩, rfl⟩
            have hlt := O.wrel.lt ho
            have hnf : G.blk g ∉ fp := fun y => (O.fpo _ y).2.1 ho
            exact (O.wrel.blk nm g b x).later L1' (O.wrel.gen _ _ _ x) (hkeep _ hlt hnf) (hR1 _ hlt hnf) (fun y => Nat.lt_of_lt_of_le y hsz)
        apart := O.wrel.apart
        old := fun b hb => by
          rcases hb with y | y
          · exact (hr0' b y).2
          · exact Nat.lt_of_lt_of_le (W.old b (.inr y)) hsz }
    have hfresh : ∀ b ∈ fpr ++ fpp, ¬ owned G1 m.2.1 b ∧ ¬ G1.R true b := by
      intro b hb
      obtain ⟨y1, y2⟩ := hown b hb
      constructor
      · intro ho
        have ho' : owned G m.2.1 b := ho
        rcases y1 with y | y
        · exact (O.fpo b y).2.1 ho'
        · have := O.wrel.lt ho'; omega
      · rintro (z | z)
        · exact y2 z
        · rcases y1 with y | y
          · exact (O.fpo b y).2.2 (.inr z)
          · have := W.old b (.inr z); omega
    rw [List.nodup_append] at hnd
    obtain ⟨n1, n2, n3⟩ := hnd
    obtain ⟨G2, I2, hG2⟩ := inPvs_ok (h2 := q.1) (c2 := q.2) M FP l2 l1 l3 W1 (fun _ _ => ⟨rfl, rfl, rfl⟩) (Nat.le_refl _) n2 (fun b hb => hfresh b (List.mem_append_right _ hb)) hq
    have FR' : FRes (Gh.only G2.R0 G2.R1) w' x.1 cv fpr := by
      rw [I2.r0, I2.r1]
      exact FR.up
    have hfr2 : ∀ b ∈ fpr, ¬ owned G2 q.1 b ∧ ¬ G2.R true b := by
      intro b hb
      obtain ⟨y1, y2⟩ := hfresh b (List.mem_append_left _ hb)
      refine ⟨fun z => ?_, fun z => y2 (by simpa [Gh.R, I2.r0, I2.r1] using z)⟩
      rcases I2.own b z with u | u
      · exact y1 u
      · exact n3 b hb b u rfl
    obtain ⟨G3, I3, R3⟩ := inRes_ok (v' := r.1) (h' := r.2.1) (c' := r.2.2) I2.wrel FR' n1 hfr2 he
    refine ⟨cv, G3, rfl, ?_, I3.wrel, R3⟩
    have LL := (L1.trans I2.later).trans I3.later
    exact { LL with
      r1' := fun b z => by rw [I3.r1, I2.r1] at z; exact z
      size := hsz
      os := hos
      tape := htp
      output := hout
      keep := fun b hb hn => hkeep b hb (fun hf => by
        obtain ⟨nm, g, hl, e⟩ := (O.fpo b hf).1
        exact hn nm g hl e)
      owns := fun nm g hl => by
        have key : ∀ b, (b ∈ fp ∨ w.heap.size ≤ b) → (∃ nm' g', liveN h nm' g' ∧ G.blk g' = b) ∨ w.heap.size ≤ b := by
          intro b hb
          rcases hb with y | y
          · exact .inl (O.fpo b y).1
          · exact .inr y
        rcases I3.own _ ⟨nm, g, hl, rfl⟩ with y | y
        · rcases I2.own _ y with z | z
          · have z' : owned G m.2.1 (G3.blk g) := z
            exact .inl (O.subN z')
          · exact key _ (hown _ (List.mem_append_right _ z)).1
        · exact key _ (hown _ (List.mem_append_left _ y)).1
      froze := fun b hb => by
        rw [I3.r0, I2.r0] at hb
        rcases (hr0' b hb).1 with z | z | z
        · exact .inl z
        · obtain ⟨nm, g, hl, e⟩ := (O.fpo b z).1
          exact .inr (.inl ⟨nm, g, hl, e⟩)
        · exact .inr (.inr z) }
end
end Go.Abs

namespace Go.Abs
open Go

/-- the function has a body, and no name that the machine takes apart -/
def callable (P : Program) (f : Nat) : Bool :=
  match P.funcs[f]? with
  | some fn => !(fn.name == "runtime.NumGoroutine") && fn.body.isSome
  | none => false

def PhiOK (P : Program) (Φ : Nat → Option CallF) : Prop := ∀ f F, Φ f = some F → callable P f = true ∧ Refines P f F

def operFit (P : Program) (N : Nat) (ops : Array Oper) (o : Oper) (ao : AOper) : Bool :=
  (o.dst == ao.dst) && (match o.dst with | some d => decide (d < N) | none => true) && opFit P o.dst o.op ao.op &&
  match o.guard, ao.guard with
  | none, none => true
  | some (j, want), some (t, want') => want == want' && ((ops[j]?).bind (·.dst) == some t)
  | _, _ => false

structure SRel (G : Gh) (s : St) (a : Act) (w : World) : Prop where
  wrel : WRel G s.h s.c w
  env : EnvRel G s.h s.c w s.env a

section
variable {P : Program} {Φ : Nat → Option CallF} {G : Gh} {w : World} {a : Act} {s : St}

theorem EnvRel.put {G h c w env a d v cv} (E : EnvRel G h c w env a) (hd : d < a.tmps.size) (hv : VRel G h c w v cv) : EnvRel G h c w (envSet env d v) (a.put (some d) cv) := by
  intro n u hu
  rw [envGet_set] at hu
  split at hu
  · next e =>
    subst e
    obtain rfl := Option.some.inj hu
    refine ⟨by simpa [Act.put] using hd, ?_⟩
    simpa [Act.put, Array.getD, hd] using hv
  · next e =>
    obtain ⟨h1, h2⟩ := E n u hu
    refine ⟨by simpa [Act.put] using h1, ?_⟩
    have : (a.put (some d) cv).tmps.getD n undef = a.tmps.getD n undef := by
      simp only [Act.put]
      simp [Array.getD, h1, Array.getElem_setIfInBounds, Ne.symm e]
    rw [this]; exact h2

theorem EnvRel.del {G h c w env a d cv} (E : EnvRel G h c w env a) : EnvRel G h c w (envDel env d) (a.put (some d) cv) := by
  intro n u hu
  rw [envGet_del] at hu
  split at hu
  · cases hu
  · next e =>
    obtain ⟨h1, h2⟩ := E n u hu
    refine ⟨by simpa [Act.put] using h1, ?_⟩
    have : (a.put (some d) cv).tmps.getD n undef = a.tmps.getD n undef := by
      simp only [Act.put]
      simp [Array.getD, h1, Array.getElem_setIfInBounds, Ne.symm e]
    rw [this]; exact h2

theorem put_size (a : Act) (d : Option Tmp) (v : Value) : (a.put d v).tmps.size = a.tmps.size := by cases d <;> simp [Act.put]
theorem put_defers (a : Act) (d : Option Tmp) (v : Value) : (a.put d v).defers = a.defers := by cases d <;> rfl

theorem callFunc_run {f args} (hc : callable P f = true) : (callFunc f args).run P w = .ok (.enter f args) w := by
  unfold callable at hc
  cases hf : P.funcs[f]? with
  | none => simp [hf] at hc
  | some fn =>
    simp only [hf, Bool.and_eq_true, Bool.not_eq_true'] at hc
    have h1 : ¬ fn.name = "runtime.NumGoroutine" := by simpa using hc.1
    have h2 : ¬ fn.body = none := by intro e; rw [e] at hc; simp at hc
    simp [callFunc, hf, h1, h2]

/-- one operation -/
theorem oper_ok (hΦ : PhiOK P Φ) {N ops} {o : Oper} {ao : AOper} {s'} (hf : operFit P N ops o ao = true) (hN : a.tmps.size = N) (S : SRel G s a w) (he : evOper Φ s ao = some s') {i : Nat} (hi : ops[i]? = some o) {K : Act → World → Prop} {Q : Exit → Act → World → Prop}
    (hK : ∀ a' w' G', a'.tmps.size = N → a'.defers = a.defers → Stp G G' s.h s'.h s.c s'.c w w' → SRel G' s' a' w' → K a' w') : wpOp P ops Q i K a w := by
  simp only [operFit, Bool.and_eq_true, beq_iff_eq] at hf
  obtain ⟨⟨⟨hd, hdN⟩, hop⟩, hg⟩ := hf
  have go : (evOp Φ s.env s.h s.c ao.op).map (fun r => ({ env := match ao.dst with | some d => envSet s.env d r.1 | none => s.env, h := r.2.1, c := r.2.2 } : St)) = some s' → o.wp P a w K Q := by
    intro hgo
    simp only [Option.map_eq_some_iff] at hgo
    obtain ⟨r, hr, rfl⟩ := hgo
    have fin : ∀ cv w' G', Stp G G' s.h r.2.1 s.c r.2.2 w w' → WRel G' r.2.1 r.2.2 w' → (VRel G' r.2.1 r.2.2 w' r.1 cv ∨ o.dst = none) → K (a.put o.dst cv) w' := by
      intro cv w' G' St W' hv
      refine hK _ _ _ (by rw [put_size]; exact hN) (put_defers _ _ _) St ⟨W', ?_⟩
      rw [← hd]
      have E' := S.env.later St.toLater
      cases hdd : o.dst with
      | none => simpa [Act.put] using E'
      | some d =>
        rw [hdd] at hdN hv
        simp only [decide_eq_true_eq] at hdN
        rcases hv with hv | hv
        · exact E'.put (by rw [hN]; exact hdN) hv
        · cases hv
    by_cases hcall : ao.op.isCall = true
    · cases hao : ao.op with
      | call nm f args =>
        rw [hao] at hop hr
        simp only [evOp, Option.bind_eq_some_iff] at hr
        obtain ⟨vs, hvs, F, hF, hcall⟩ := hr
        obtain ⟨hcb, HR⟩ := hΦ f F hF
        have hfit : ∃ cargs ats, o.op = .call { callee := .value (.func f), args := cargs, argTypes := ats } ∧ xsFit cargs.toList args = true := by
          generalize o.op = op at hop
          unfold opFit at hop
          split at hop <;> simp only [reduceCtorEq, AOp.call.injEq] at * <;> try (cases hop; done)
          all_goals first
            | (next e => obtain ⟨rfl, rfl, rfl⟩ := e; simp only [Bool.and_eq_true, beq_iff_eq] at hop; obtain ⟨rfl, h2⟩ := hop; exact ⟨_, _, rfl, h2⟩)
            | skip
        obtain ⟨cargs, ats, hoo, hxs⟩ := hfit
        have L := xsFit_rel S.env hxs hvs
        have C := acall_ok S.wrel L HR hcall
        have hrun : (execOp a.eval o).run P w = .ok (.enter f (cargs.map a.eval)) w := by
          simp only [execOp, hoo, resolve, Act.eval, Deferred.ofValue, Sem.run_bind, Sem.run_pure, Result.andThen_ok, invoke]
          rw [callFunc_run hcb]; simp
        unfold Oper.wp
        rw [hrun, Oper.upon_enter]
        have e : cargs.map a.eval = ⟨cargs.toList.map a.eval⟩ := by cases cargs; simp
        rw [e]
        refine C.mono ?_
        rintro e w' ⟨cv, G', rfl, St, W', R⟩
        exact fin cv w' G' St W' (.inl R)
      | callv nm x args =>
        rw [hao] at hop hr
        simp only [evOp, Option.bind_eq_some_iff] at hr
        obtain ⟨xv, hxv, hr⟩ := hr
        split at hr
        · next f cap =>
          simp only [Option.bind_eq_some_iff] at hr
          obtain ⟨vs, hvs, F, hF, hcall⟩ := hr
          obtain ⟨hcb, HR⟩ := hΦ f F hF
          have hfit : ∃ y cargs ats, o.op = .call { callee := .value y, args := cargs, argTypes := ats } ∧ xFit y x = true ∧ xsFit cargs.toList args = true := by
            generalize o.op = op at hop
            unfold opFit at hop
            split at hop <;> simp only [reduceCtorEq, AOp.callv.injEq] at * <;> try (cases hop; done)
            all_goals first
              | (next e => obtain ⟨rfl, rfl, rfl⟩ := e; simp only [Bool.and_eq_true] at hop; exact ⟨_, _, _, rfl, hop.1, hop.2⟩)
              | skip
          obtain ⟨y, cargs, ats, hoo, hxf, hxs⟩ := hfit
          have L := xsFit_rel S.env hxs hvs
          have rx := xFit_rel hxf S.env hxv
          obtain ⟨us, hus, Lc⟩ := rx.fn_inv
          have C := acall_ok S.wrel (L.append Lc) HR hcall
          have hrun : (execOp a.eval o).run P w = .ok (.enter f (cargs.map a.eval ++ ⟨us⟩)) w := by
            simp only [execOp, hoo, resolve, hus, Deferred.ofValue, Sem.run_bind, Sem.run_pure, Result.andThen_ok, invoke]
            rw [callFunc_run hcb]; simp
          unfold Oper.wp
          rw [hrun, Oper.upon_enter]
          have e : cargs.map a.eval ++ ⟨us⟩ = ⟨cargs.toList.map a.eval ++ us⟩ := by cases cargs; simp
          rw [e]
          refine C.mono ?_
          rintro e w' ⟨cv, G', rfl, St, W', R⟩
          exact fin cv w' G' St W' (.inl R)
        · cases hr
      | _ => rw [hao] at hcall; simp [AOp.isCall] at hcall
    · obtain ⟨nx, w', G', h1, h2, h3, h4⟩ := op_ok S.wrel S.env hop (by simpa using hcall) hr
      unfold Oper.wp
      rw [h1]
      rcases h4 with ⟨cv, rfl, hv⟩ | ⟨rfl, hdn⟩
      · rw [Oper.upon_value]; exact fin cv w' G' h2 h3 (.inl hv)
      · rw [Oper.upon_skip]; exact fin undef w' G' h2 h3 (.inr hdn)
  unfold wpOp
  rw [hi]
  simp only
  unfold evOper at he
  simp only at he
  split at hg
  · next g1 g2 =>
    rw [g2] at he
    rw [if_pos (by simp [Region.wanted, g1])]
    exact .inl (go he)
  · next j want t want' g1 g2 =>
    simp only [Bool.and_eq_true, beq_iff_eq] at hg
    obtain ⟨rfl, hj⟩ := hg
    rw [g2] at he
    simp only at he
    have skip : Region.wanted o (yielded ops a.tmps) = false → (({ s with env := match ao.dst with | some d => envSet s.env d (.tup []) | none => s.env } : St) = s') → (if Region.wanted o (yielded ops a.tmps) = true then o.wp P a w K Q ∨ (o.asks P a w ∧ LetsOut Q) else K (a.put o.dst undef) w) := by
      intro hw he
      rw [hw, if_neg (by simp)]
      subst he
      refine hK _ _ G (by rw [put_size]; exact hN) (put_defers _ _ _) (Stp.refl _ _ _ _) ⟨S.wrel, ?_⟩
      rw [← hd]
      cases hdd : o.dst with
      | none => simpa [Act.put] using S.env
      | some d =>
        rw [hdd] at hdN
        simp only [decide_eq_true_eq] at hdN
        exact S.env.put (by rw [hN]; exact hdN) (.tup_mk .nil)
    have hgd : ∀ u, envGet s.env t = some u → t < a.tmps.size ∧ VRel G s.h s.c w u (a.tmps.getD t undef) ∧ ((ops[j]?).bind (·.dst)).bind (a.tmps[·]?) = some (a.tmps.getD t undef) := by
      intro u hu
      obtain ⟨ht1, ht2⟩ := S.env t _ hu
      refine ⟨ht1, ht2, ?_⟩
      rw [hj]
      simp only [Option.bind_some]
      simp [Array.getD, ht1]
    split at he
    · next b hb =>
      obtain ⟨ht1, ht2⟩ := S.env t _ hb
      have hy : yielded ops a.tmps j = some b := by
        unfold yielded
        have e1 : ((ops[j]?).bind (·.dst)).bind (a.tmps[·]?) = some (.bool b) := by
          rw [hj]
          simp only [Option.bind_some]
          have : a.tmps.getD t undef = .bool b := by
            generalize a.tmps.getD t undef = x at ht2
            cases ht2; rfl
          simp [Array.getD, ht1] at this
          simp [ht1, this]
        rw [e1]
      have hw : Region.wanted o (yielded ops a.tmps) = (b == want) := by
        simp only [Region.wanted, g1, hy]; cases b <;> cases want <;> rfl
      rw [hw]
      split at he
      · next hbw =>
        subst hbw
        rw [if_pos (by simp)]
        exact .inl (go he)
      · next hbw =>
        rw [← hw]
        exact skip (by rw [hw]; simpa using hbw) (Option.some.inj he)
    · next hb =>
      obtain ⟨ht1, ht2, e1⟩ := hgd _ hb
      have hy : yielded ops a.tmps j = none := by
        unfold yielded
        rw [e1]
        generalize a.tmps.getD t undef = x at ht2
        cases ht2; rfl
      exact skip (by simp [Region.wanted, g1, hy]) (Option.some.inj he)
    · cases he
  · cases hg
end
end Go.Abs

namespace Go.Abs
open Go

def listFit (P : Program) (N : Nat) (all : Array Oper) : List Oper → List AOper → Bool
  | [], [] => true
  | o :: os, ao :: aos => operFit P N all o ao && listFit P N all os aos
  | _, _ => false

/-- a region whose order is drawn: only for operations that hang on nothing but slots, and at most .. (see RegDraw) -/
def drawFit (_P : Program) (_N : Nat) (_ops : Array Oper) (_aos : List AOper) : Bool := false

def codeFit (P : Program) (N : Nat) : Code → AC → Bool
  | .skip, .skip => true
  | .region _ ops draw, .reg draw' aos => draw == draw' && (if draw then drawFit P N ops aos else listFit P N ops ops.toList aos)
  | .seq a b, .seq a' b' => codeFit P N a a' && codeFit P N b b'
  | .cond c a b, .cond c' a' b' => xFit c c' && codeFit P N a a' && codeFit P N b b'
  | .block id b, .block id' b' => id == id' && codeFit P N b b'
  | .loop b, .loop _ _ b' => codeFit P N b b'
  | .exit id, .exit id' => id == id'
  | .ret, .ret => true
  | _, _ => false

def Ex.real : Ex → Exit
  | .normal => .normal
  | .exit id => .exit id
  | .ret => .ret

section
variable {P : Program} {Φ : Nat → Option CallF} {w : World} {a : Act} {s : St}

/-- the goal of a piece of code: whatever holds of all that it may come to -/
def Good (G : Gh) (s s' : St) (N : Nat) (ex : Ex) (w : World) (Q : Exit → Act → World → Prop) : Prop :=
  ∀ a' w' G', a'.tmps.size = N → a'.defers = [] → Stp G G' s.h s'.h s.c s'.c w w' → SRel G' s' a' w' → Q ex.real a' w'

theorem regs_ok (hΦ : PhiOK P Φ) {N} {ops : Array Oper} {Q : Exit → Act → World → Prop} : ∀ (os : List Oper) (aos : List AOper) (n : Nat) {G : Gh} {s s' : St} {a : Act} {w : World}, listFit P N ops os aos = true → (∀ j, os[j]? = ops[n + j]?) → a.tmps.size = N → a.defers = [] → SRel G s a w → evReg Φ s aos = some s' →
    Good G s s' N .normal w Q → wpOps P ops Q ((List.range os.length).map (n + ·)) a w
  | [], [], n, G, s, s', a, w, _, _, hN, hd, S, he, hQ => by
    simp only [evReg, Option.some.injEq] at he
    subst he
    exact hQ a w G hN hd (Stp.refl _ _ _ _) S
  | o :: os, ao :: aos, n, G, s, s', a, w, hf, hi, hN, hd, S, he, hQ => by
    simp only [listFit, Bool.and_eq_true] at hf
    simp only [evReg, Option.bind_eq_some_iff] at he
    obtain ⟨s1, h1, h2⟩ := he
    have e : (List.range (o :: os).length).map (n + ·) = n :: (List.range os.length).map (n + 1 + ·) := by
      simp only [List.length_cons, List.range_succ_eq_map, List.map_cons, List.map_map, Nat.add_zero]
      congr 1
      apply List.map_congr_left
      intro x _
      show n + (x + 1) = n + 1 + x
      omega
    rw [e, wpOps_cons]
    have hi0 := hi 0
    simp at hi0
    refine oper_ok hΦ hf.1 hN S h1 hi0.symm (fun a' w' G' hN' hd' St S' => ?_)
    refine regs_ok hΦ os aos (n + 1) hf.2 (fun j => ?_) hN' (hd'.trans hd) S' h2 (fun a2 w2 G2 x1 x2 x3 x4 => hQ a2 w2 G2 x1 x2 (St.trans x3) x4)
    have := hi (j + 1)
    simp only [List.getElem?_cons_succ] at this
    rw [this]; congr 1; omega
  | [], _ :: _, _, _, _, _, _, _, hf, _, _, _, _, _, _ => by simp [listFit] at hf
  | _ :: _, [], _, _, _, _, _, _, hf, _, _, _, _, _, _ => by simp [listFit] at hf

theorem SRel.only {G : Gh} {s : St} {kt kh} (S : SRel G s a w) : SRel G { s with env := envOnly kt s.env, h := s.h.only kh } a w := by
  have hs : ∀ nm g b, (s.h.only kh).get nm g = some b → s.h.get nm g = some b := by
    intro nm g b x
    rw [get_only] at x
    split at x
    · exact x
    · cases x
  refine ⟨S.wrel.fewer hs, fun n v hv => ?_⟩
  simp only at hv
  rw [envGet_only] at hv
  split at hv
  · obtain ⟨h1, h2⟩ := S.env n v hv
    exact ⟨h1, h2.later (Later.fewer hs)⟩
  · cases hv

theorem Stp.only {G : Gh} {h : AH} {c kh} : Stp G G h (h.only kh) c c w w := by
  have hs : ∀ nm g b, (h.only kh).get nm g = some b → h.get nm g = some b := by
    intro nm g b x
    rw [get_only] at x
    split at x
    · exact x
    · cases x
  exact { Stp.refl G h c w with
    lv := fun nm g _ x => by obtain ⟨b, x⟩ := x; exact ⟨b, hs _ _ _ x⟩
    owns := fun nm g x => by obtain ⟨b, x, n⟩ := x; exact .inl ⟨nm, g, ⟨b, hs _ _ _ x, n⟩, rfl⟩ }

theorem ev_ok (hΦ : PhiOK P Φ) {N k} : ∀ (ac : AC) {c : Code} {G : Gh} {s s' : St} {ex : Ex} {a : Act} {w : World} {Q : Exit → Act → World → Prop}, codeFit P N c ac = true → a.tmps.size = N → a.defers = [] → SRel G s a w → ev Φ k ac s = some (ex, s') →
    Good G s s' N ex w Q → c.wp P Q a w
  | .skip, c, G, s, s', ex, a, w, Q, hf, hN, hd, S, he, hQ => by
    cases c <;> simp only [codeFit, Bool.false_eq_true] at hf
    simp only [ev, Option.some.injEq, Prod.mk.injEq] at he
    obtain ⟨rfl, rfl⟩ := he
    exact wp_skip (hQ a w G hN hd (Stp.refl _ _ _ _) S)
  | .reg draw aos, c, G, s, s', ex, a, w, Q, hf, hN, hd, S, he, hQ => by
    cases c <;> simp only [codeFit, Bool.false_eq_true, Bool.and_eq_true, beq_iff_eq] at hf
    next id ops draw' =>
    obtain ⟨rfl, hf⟩ := hf
    simp only [ev, Option.map_eq_some_iff] at he
    obtain ⟨s1, h1, he⟩ := he
    simp only [Prod.mk.injEq] at he
    obtain ⟨rfl, rfl⟩ := he
    cases draw' with
    | true => simp [drawFit] at hf
    | false =>
      simp only [Bool.false_eq_true, if_false] at hf
      refine wp_region ?_
      have := regs_ok hΦ (Q := Q) ops.toList aos 0 hf (fun j => by simp) hN hd S h1 hQ
      simpa using this
  | .seq x y, c, G, s, s', ex, a, w, Q, hf, hN, hd, S, he, hQ => by
    cases c <;> simp only [codeFit, Bool.false_eq_true, Bool.and_eq_true] at hf
    simp only [ev] at he
    cases hx : ev Φ k x s with
    | none => rw [hx] at he; cases he
    | some r =>
      obtain ⟨ex1, s1⟩ := r
      rw [hx] at he
      refine wp_seq (ev_ok hΦ x hf.1 hN hd S hx ?_)
      cases ex1 with
      | normal =>
        simp only at he
        exact fun a' w' G' x1 x2 x3 x4 => ev_ok hΦ y hf.2 x1 x2 x4 he (fun a2 w2 G2 y1 y2 y3 y4 => hQ a2 w2 G2 y1 y2 (x3.trans y3) y4)
      | exit id => obtain ⟨rfl, rfl⟩ : Ex.exit id = ex ∧ s1 = s' := by simpa using he
                   exact fun a' w' G' x1 x2 x3 x4 => hQ a' w' G' x1 x2 x3 x4
      | ret => obtain ⟨rfl, rfl⟩ : Ex.ret = ex ∧ s1 = s' := by simpa using he
               exact fun a' w' G' x1 x2 x3 x4 => hQ a' w' G' x1 x2 x3 x4
  | .cond q x y, c, G, s, s', ex, a, w, Q, hf, hN, hd, S, he, hQ => by
    cases c <;> simp only [codeFit, Bool.false_eq_true, Bool.and_eq_true] at hf
    next q' x' y' =>
    simp only [ev] at he
    split at he
    · next hq =>
      have rq := xFit_rel hf.1.1 S.env hq
      generalize hcv : a.eval q' = cv at rq
      cases rq
      exact wp_cond_true hcv (ev_ok hΦ x hf.1.2 hN hd S he hQ)
    · next hq =>
      have rq := xFit_rel hf.1.1 S.env hq
      generalize hcv : a.eval q' = cv at rq
      cases rq
      exact wp_cond_false hcv (ev_ok hΦ y hf.2 hN hd S he hQ)
    · cases he
  | .block id x, c, G, s, s', ex, a, w, Q, hf, hN, hd, S, he, hQ => by
    cases c <;> simp only [codeFit, Bool.false_eq_true, Bool.and_eq_true, beq_iff_eq] at hf
    next id' x' =>
    obtain ⟨rfl, hf⟩ := hf
    simp only [ev] at he
    cases hx : ev Φ k x s with
    | none => rw [hx] at he; cases he
    | some r =>
      obtain ⟨ex1, s1⟩ := r
      rw [hx] at he
      refine wp_block (ev_ok hΦ x hf hN hd S hx ?_)
      cases ex1 with
      | normal => obtain ⟨rfl, rfl⟩ : Ex.normal = ex ∧ s1 = s' := by simpa using he
                  exact fun a' w' G' x1 x2 x3 x4 => hQ a' w' G' x1 x2 x3 x4
      | exit id2 =>
        simp only at he
        intro a' w' G' x1 x2 x3 x4
        simp only [Ex.real, Exit.inBlock]
        split at he
        · next hid =>
          obtain ⟨rfl, rfl⟩ : Ex.normal = ex ∧ s1 = s' := by simpa using he
          rw [if_pos (by simpa using hid)]
          exact hQ a' w' G' x1 x2 x3 x4
        · next hid =>
          obtain ⟨rfl, rfl⟩ : Ex.exit id2 = ex ∧ s1 = s' := by simpa using he
          rw [if_neg (by simpa using hid)]
          exact hQ a' w' G' x1 x2 x3 x4
      | ret => obtain ⟨rfl, rfl⟩ : Ex.ret = ex ∧ s1 = s' := by simpa using he
               exact fun a' w' G' x1 x2 x3 x4 => hQ a' w' G' x1 x2 x3 x4
  | .loop kt kh x, c, G, s, s', ex, a, w, Q, hf, hN, hd, S, he, hQ => by
    cases c <;> simp only [codeFit, Bool.false_eq_true] at hf
    next x' =>
    simp only [ev] at he
    have key : ∀ (n : Nat) {G : Gh} {s : St} {a : Act} {w : World}, a.tmps.size = N → a.defers = [] → SRel G s a w → iter (ev Φ k x) kt kh n s = some (ex, s') → Good G s s' N ex w Q → Code.rounds P x' Q n a w := by
      intro n
      induction n with
      | zero => intro G s a w _ _ _ hi _; simp [iter] at hi
      | succ n ih =>
        intro G s a w hN hd S hi hQ
        simp only [iter] at hi
        rw [rounds_succ]
        cases hx : ev Φ k x { s with env := envOnly kt s.env, h := s.h.only kh } with
        | none => rw [hx] at hi; cases hi
        | some r =>
          obtain ⟨ex1, s1⟩ := r
          rw [hx] at hi
          have hpre : ∀ {G' w'}, Stp G G' (s.h.only kh) s1.h s.c s1.c w w' → Stp G G' s.h s1.h s.c s1.c w w' := fun z => Stp.only.trans z
          refine ev_ok hΦ x hf hN hd S.only hx ?_
          cases ex1 with
          | normal =>
            simp only at hi
            exact fun a' w' G' x1 x2 x3 x4 => ih x1 x2 x4 hi (fun a2 w2 G2 y1 y2 y3 y4 => hQ a2 w2 G2 y1 y2 ((hpre x3).trans y3) y4)
          | exit id => obtain ⟨rfl, rfl⟩ : Ex.exit id = ex ∧ s1 = s' := by simpa using hi
                       exact fun a' w' G' x1 x2 x3 x4 => hQ a' w' G' x1 x2 (hpre x3) x4
          | ret => obtain ⟨rfl, rfl⟩ : Ex.ret = ex ∧ s1 = s' := by simpa using hi
                   exact fun a' w' G' x1 x2 x3 x4 => hQ a' w' G' x1 x2 (hpre x3) x4
    exact wp_loop_rounds k (key k hN hd S he hQ)
  | .exit id, c, G, s, s', ex, a, w, Q, hf, hN, hd, S, he, hQ => by
    cases c <;> simp only [codeFit, Bool.false_eq_true, beq_iff_eq] at hf
    subst hf
    simp only [ev, Option.some.injEq, Prod.mk.injEq] at he
    obtain ⟨rfl, rfl⟩ := he
    exact wp_exit (hQ a w G hN hd (Stp.refl _ _ _ _) S)
  | .ret, c, G, s, s', ex, a, w, Q, hf, hN, hd, S, he, hQ => by
    cases c <;> simp only [codeFit, Bool.false_eq_true] at hf
    simp only [ev, Option.some.injEq, Prod.mk.injEq] at he
    obtain ⟨rfl, rfl⟩ := he
    exact wp_ret (hQ a w G hN hd (Stp.refl _ _ _ _) S)
end
end Go.Abs

namespace Go.Abs
open Go

inductive ParPv : List AV → List AV → Prop
  | nil : ParPv [] []
  | pv {cs nm g bs vs} (t : ParPv bs vs) : ParPv (.pv cs :: bs) (.ptr nm g 0 :: vs)
  | other {b v bs vs} (hn : ∀ cs, b ≠ .pv cs) (t : ParPv bs vs) : ParPv (b :: bs) (v :: vs)

theorem inVals_par : ∀ {bs h c nm vs h' c'}, inVals h c nm bs = some (vs, h', c') → ParPv bs vs
  | [], h, c, nm, vs, h', c', he => by
    simp only [inVals, Option.some.injEq, Prod.mk.injEq] at he
    obtain ⟨rfl, _, _⟩ := he
    exact .nil
  | b :: bs, h, c, nm, vs, h', c', he => by
    simp only [inVals, Option.bind_eq_some_iff, Option.map_eq_some_iff] at he
    obtain ⟨p, hp, q, hq, he⟩ := he
    simp only [Prod.mk.injEq] at he
    obtain ⟨rfl, rfl, rfl⟩ := he
    have ih := inVals_par (vs := q.1) (h' := q.2.1) (c' := q.2.2) hq
    unfold inVal at hp
    split at hp
    · exact .other (fun cs e => by cases e) ih
    · simp only [Option.map_eq_some_iff] at hp
      obtain ⟨x, _, rfl⟩ := hp
      exact .pv ih
    · next hn => exact .other (fun cs e => by subst e; exact hn _ rfl) ih

def resFit (P : Program) : List ResultVar → List (Nat × Option (Option Nat)) → Bool
  | [], [] => true
  | .tmp t :: r, (t', none) :: q => t == t' && resFit P r q
  | .cell t ty :: r, (t', some n) :: q => t == t' && nFit P ty n && !(n == some 0) && resFit P r q
  | _, _ => false

section
variable {P : Program} {Φ : Nat → Option CallF} {G : Gh} {w : World} {a : Act} {s : St}

theorem res_one {t : Tmp} {ty : TypeId} {n v} (S : SRel G s a w) (hn : nFit P ty n = true) (hn0 : n ≠ some 0) {p cs} (hp : envGet s.env t = some p) (hcs : cellsAt s.h p = some cs) (hv : part cs n = some v) :
    ∃ cv, (do loadVar ty (← asAddr (a.tmps.getD t undef)) : Sem Value).run P w = .ok cv w ∧ VRel G s.h s.c w v cv := by
  have rp := (S.env t p hp).2
  have hne : cs ≠ [] := by
    intro e; subst e
    cases n with
    | none => simp [part] at hv
    | some n => simp [part] at hv; obtain ⟨e, _⟩ := hv; subst e; exact hn0 rfl
  obtain ⟨ad, hcx, H⟩ := cellsAt_run S.wrel rp hcs hne
  rw [hcx]
  cases n with
  | none =>
    simp only [part] at hv
    obtain ⟨v', x1, x2⟩ := H.2 0 v (by rw [← hv, List.head?_eq_getElem?])
    have x1' : w.cell? ad = some v' := by
      rw [← x1]; congr 1; have := H.1; cases ad; simp_all
    exact ⟨v', by simp [asAddr, loadVar, run_isAgg (nFit_none hn), x1'], x2⟩
  | some n =>
    obtain ⟨ha, hs⟩ := nFit_some hn
    simp only [part] at hv
    split at hv
    · next hle =>
      obtain rfl := Option.some.inj hv
      obtain ⟨vs, h1, L⟩ := run_loadCells_rel (P := P) (H.take n)
      rw [List.length_take, Nat.min_eq_left hle] at h1
      exact ⟨.agg ⟨vs⟩, by simp [asAddr, loadVar, run_isAgg ha, run_sizeOf hs, h1], .agg_mk L⟩
    · cases hv

theorem res_list (S : SRel G s a w) : ∀ {rs : List ResultVar} {q vs}, resFit P rs q = true → resVals s q = some vs →
    ∃ cvs, (rs.mapM (fun | .tmp t => pure (a.tmps.getD t undef) | .cell x t => do loadVar t (← asAddr (a.tmps.getD x undef)) : ResultVar → Sem Value)).run P w = .ok cvs w ∧ LRel G s.h s.c w vs cvs
  | [], [], vs, _, hv => by
    simp only [resVals, Option.some.injEq] at hv
    subst hv
    exact ⟨[], rfl, .nil⟩
  | .tmp t :: rs, (t', none) :: q, vs, hf, hv => by
    simp only [resFit, Bool.and_eq_true, beq_iff_eq] at hf
    obtain ⟨rfl, hf⟩ := hf
    simp only [resVals, Option.bind_eq_some_iff, Option.map_eq_some_iff] at hv
    obtain ⟨v, h1, vs', h2, rfl⟩ := hv
    obtain ⟨cvs, e, L⟩ := res_list S hf h2
    exact ⟨_ :: cvs, by simp only [List.mapM_cons, Sem.run_bind, Sem.run_pure, Result.andThen_ok, e], .cons (S.env t v h1).2 L⟩
  | .cell t ty :: rs, (t', some n) :: q, vs, hf, hv => by
    simp only [resFit, Bool.and_eq_true, beq_iff_eq, Bool.not_eq_true', beq_eq_false_iff_ne] at hf
    obtain ⟨⟨⟨rfl, h0⟩, h0'⟩, hf⟩ := hf
    simp only [resVals, Option.bind_eq_some_iff, Option.map_eq_some_iff] at hv
    obtain ⟨p, h1, cs, h2, v, h3, vs', h4, rfl⟩ := hv
    obtain ⟨cvs, e, L⟩ := res_list S hf h4
    obtain ⟨cv, e1, R⟩ := res_one (P := P) S h0 h0' h1 h2 h3
    refine ⟨cv :: cvs, ?_, .cons R L⟩
    simp only [List.mapM_cons]
    rw [Sem.run_bind, e1]
    simp only [Result.andThen_ok, Sem.run_bind, e, Sem.run_pure]
  | .tmp _ :: _, (_, some _) :: _, _, hf, _ => by simp [resFit] at hf
  | .cell _ _ :: _, (_, none) :: _, _, hf, _ => by simp [resFit] at hf
  | [], _ :: _, _, hf, _ => by simp [resFit] at hf
  | .tmp _ :: _, [], _, hf, _ => by simp [resFit] at hf
  | .cell _ _ :: _, [], _, hf, _ => by simp [resFit] at hf

theorem results_run (S : SRel G s a w) {fn : Func} {q vs} (hf : resFit P fn.results.toList q = true) (hv : resVals s q = some vs) :
    ∃ cv, (results fn a.tmps).run P w = .ok cv w ∧ VRel G s.h s.c w (resVal vs) cv := by
  obtain ⟨cvs, e, L⟩ := res_list S hf hv
  have e' : (fn.results.mapM (fun | .tmp t => pure (a.tmps.getD t undef) | .cell x t => do loadVar t (← asAddr (a.tmps.getD x undef)) : ResultVar → Sem Value)).run P w = .ok cvs.toArray w := by
    rw [Array.mapM_eq_mapM_toList]
    rw [Sem.run_map, e]; rfl
  refine ⟨_, by simp only [results, Sem.run_bind]; erw [e']; rfl, ?_⟩
  unfold resVal
  split
  · next v =>
    obtain ⟨v', vs', rfl, R, L'⟩ := L.cons_inv
    rw [L'.nil_inv]
    simpa using R
  · next hne =>
    have hl := L.1
    have : ¬ cvs.toArray.size = 1 := by
      intro h1
      have : vs.length = 1 := by simp at h1; omega
      match vs, this with
      | [v], _ => exact hne v rfl
    rw [dif_neg this]
    exact .tup_mk L

theorem outPvs_ok {c : Nat} (h0 : AH) : ∀ {bs vs cvs h ps h1}, ParPv bs vs → LRel G h0 c w vs cvs → WRel G h c w → (∀ nm g b, h.get nm g = some b → h0.get nm g = some b) → outPvs h (argPvs bs vs) = some (ps, h1) →
    ∃ fp, FPvs (Gh.only G.R0 fun _ => False) w bs cvs ps fp ∧ OutOK G h h1 c w fp
  | [], [], cvs, h, ps, h1, _, L, W, hs, he => by
    simp only [argPvs, outPvs, Option.some.injEq, Prod.mk.injEq] at he
    obtain ⟨rfl, rfl⟩ := he
    rw [L.nil_inv]
    exact ⟨[], .nil, .refl⟩
  | b :: bs, v :: vs, cvs, h, ps, h1, Pr, L, W, hs, he => by
    obtain ⟨u, us, rfl, R, L'⟩ := L.cons_inv
    cases Pr with
    | @pv cs nm g _ _ t =>
      simp only [argPvs, outPvs] at he
      split at he
      · next cells hb =>
        split at he
        · next hlen =>
          simp only [Option.bind_eq_some_iff, Option.map_eq_some_iff] at he
          obtain ⟨p, hp, q, hq, he⟩ := he
          simp only [Prod.mk.injEq] at he
          obtain ⟨rfl, rfl⟩ := he
          obtain ⟨f1, F1, O1⟩ := mvVar_ok (fun _ => False) (bs := p.1) (h' := p.2) W hb hp
          obtain ⟨f2, F2, O2⟩ := outPvs_ok h0 t L' (W.fewer O1.sub) (fun nm g b x => hs _ _ _ (O1.sub _ _ _ x)) (ps := q.1) (h1 := q.2) hq
          cases R with
          | ptr _ _ _ ad hg hl =>
            have := hl ⟨_, hs _ _ _ hb⟩
            subst this
            exact ⟨_, .pv (by rw [mvCells_len hp, hlen]) F1 F2, O1.trans O2⟩
        · cases he
      · cases he
    | other hn t =>
      have e : argPvs (b :: bs) (v :: vs) = argPvs bs vs := by
        cases b <;> first | exact absurd rfl (hn _) | rfl
      rw [e] at he
      obtain ⟨f2, F2, O2⟩ := outPvs_ok h0 t L' W hs he
      exact ⟨f2, .skip hn F2, O2⟩
  | [], _ :: _, _, _, _, _, Pr, _, _, _, _ => by cases Pr
  | _ :: _, [], _, _, _, _, Pr, _, _, _, _ => by cases Pr

theorem FVals.len {vs cvs fp} (F : FVals G w vs cvs fp) : cvs.length = vs.length := by
  induction F with
  | nil => rfl
  | cons h t ih => simp [ih]

theorem envOf_get : ∀ (vs : List AV) (n m : Nat), envGet (envOf n vs) m = if n ≤ m then vs[m - n]? else none
  | [], n, m => by simp [envOf, envGet]
  | v :: vs, n, m => by
    simp only [envOf, envGet, Nat.beq_eq]
    by_cases h : n = m
    · subst h; simp
    · rw [if_neg h, envOf_get vs (n + 1) m]
      by_cases h2 : n ≤ m
      · rw [if_pos (by omega), if_pos h2, show m - n = (m - (n + 1)) + 1 by omega, List.getElem?_cons_succ]
      · rw [if_neg (by omega), if_neg h2]

/-- What our evaluation of a function's code says, the machine's call does. -/
theorem evFun_refines (hΦ : PhiOK P Φ) {f : Nat} {fn : Func} {c : Code} {k : Nat} {af : AFun} (hf : P.funcs[f]? = some fn) (hb : fn.body = some c) (hn : fn.ntmps = af.ntmps) (hfit : codeFit P af.ntmps c af.code = true) (hres : resFit P fn.results.toList af.res = true) :
    Refines P f (evFun Φ k af) := by
  intro bs r ps he R0 R1 w cargs fp FV hnd hfp hold
  unfold evFun at he
  split at he
  · cases he
  next hlen =>
  simp only [Option.bind_eq_some_iff, Option.map_eq_some_iff] at he
  obtain ⟨q, hq, s', hs', vs, hvs, p, hp, x, hx, he⟩ := he
  simp only [Prod.mk.injEq] at he
  obtain ⟨rfl, rfl⟩ := he
  have W0 : WRel (Gh.only R0 R1) [] 0 w :=
    { gen := fun _ _ _ x => by simp [AH.get] at x
      blk := fun _ _ _ x => by simp [AH.get] at x
      apart := fun _ _ _ _ x => by obtain ⟨_, y, _⟩ := x; simp [AH.get] at y
      old := fun b hb => hold b hb }
  have hno : ∀ G b, ¬ owned G [] b := fun G b ⟨_, _, ⟨_, y, _⟩, _⟩ => by simp [AH.get] at y
  obtain ⟨G1, I1, L1⟩ := inVals_ok (vs' := q.1) (h' := q.2.1) (c' := q.2.2) W0 FV hnd (fun b hb => ⟨hno _ b, fun z => z.elim (hfp b hb).1 (hfp b hb).2⟩) hq
  have hcl : cargs.length = bs.length := FV.len
  have hown1 : ∀ b, owned G1 q.2.1 b → b ∈ fp := fun b hb => (I1.own b hb).resolve_left (hno _ b)
  refine calls_of_wp hf hb ?_
  let a0 : Act := { tmps := (⟨cargs⟩ : Array Value) ++ Array.replicate (fn.ntmps - (⟨cargs⟩ : Array Value).size) undef, defers := [] }
  have hsz : a0.tmps.size = af.ntmps := by
    simp only [a0, Array.size_append, Array.size_replicate, hn]
    show cargs.length + (af.ntmps - cargs.length) = _
    omega
  have S0 : SRel G1 ⟨envOf 0 q.1, q.2.1, q.2.2⟩ a0 w := by
    refine ⟨I1.wrel, fun n v hv => ?_⟩
    rw [envOf_get] at hv
    simp only [Nat.zero_le, if_true, Nat.sub_zero] at hv
    obtain ⟨v', h1, h2⟩ := L1.2 n v hv
    have hlt : n < cargs.length := (List.getElem?_eq_some_iff.1 h1).1
    refine ⟨by rw [hsz]; omega, ?_⟩
    have : a0.tmps.getD n undef = v' := by
      have h3 : n < (⟨cargs⟩ : Array Value).size := hlt
      simp only [a0, Array.getD, Array.size_append]
      rw [dif_pos (by omega)]
      show ((⟨cargs⟩ : Array Value) ++ _)[n] = _
      rw [Array.getElem_append_left h3]
      simp only [List.getElem_toArray]
      exact (List.getElem?_eq_some_iff.1 h1).2
    rw [this]; exact h2
  have body : ∃ ex, ev Φ k af.code ⟨envOf 0 q.1, q.2.1, q.2.2⟩ = some (ex, s') ∧ (ex = .normal ∨ ex = .ret) := by
    unfold evBody at hs'
    split at hs'
    · next h => obtain rfl := Option.some.inj hs'; exact ⟨_, h, .inl rfl⟩
    · next h => obtain rfl := Option.some.inj hs'; exact ⟨_, h, .inr rfl⟩
    · cases hs'
  obtain ⟨ex, hev, hex⟩ := body
  refine ev_ok hΦ (N := af.ntmps) af.code hfit hsz rfl S0 hev (fun a' w' G' x1 x2 x3 x4 => ?_)
  rcases hex with rfl | rfl
  all_goals
    refine ⟨x2, ?_⟩
    obtain ⟨cv, e, R⟩ := results_run x4 hres hvs
    refine ⟨cv, e, ?_⟩
    obtain ⟨fpp, FP, OP⟩ := outPvs_ok s'.h (inVals_par (vs := q.1) (h' := q.2.1) (c' := q.2.2) hq) (L1.later x3.toLater) x4.wrel (fun _ _ _ z => z) (ps := p.1) (h1 := p.2) hp
    obtain ⟨fpr, FR, OR⟩ := outRes_ok (fun _ => False) (b := x.1) (h' := x.2) (x4.wrel.fewer OP.sub) (R.later (Later.fewer OP.sub)) hx
    have OO := OP.trans OR
    refine ⟨cv, G'.R0, fpr, fpp, rfl, x3.size, x3.os, x3.tape, x3.output, ?_, ?_, ?_, FR, FP, ?_, ?_⟩
    · intro b hb hnf
      exact x3.keep b hb (fun nm g hl e => hnf (hown1 b ⟨nm, g, hl, e⟩))
    · intro b hb
      exact x3.r0 b (by rw [I1.r0]; exact hb)
    · intro b hb
      refine ⟨?_, x4.wrel.old b (.inl hb)⟩
      rcases x3.froze b hb with z | ⟨nm, g, hl, e⟩ | z
      · rw [I1.r0] at z; exact .inl z
      · exact .inr (.inl (hown1 b ⟨nm, g, hl, e⟩))
      · exact .inr (.inr z)
    · have := OO.nodup
      rw [List.nodup_append] at this ⊢
      exact ⟨this.2.1, this.1, fun x hx y hy e => this.2.2 y hy x hx e.symm⟩
    · intro b hb
      have hb' : b ∈ fpp ++ fpr := by
        rcases List.mem_append.1 hb with z | z
        · exact List.mem_append_right _ z
        · exact List.mem_append_left _ z
      obtain ⟨⟨nm, g, hl, e⟩, _, hR⟩ := OO.fpo b hb'
      refine ⟨?_, fun z => hR (.inl z)⟩
      rcases x3.owns nm g hl with ⟨n2, g2, l2, e2⟩ | z
      · exact .inl (hown1 b ⟨n2, g2, l2, e2.trans e⟩)
      · exact .inr (e ▸ z)

/-- A function's code against ours, closed. -/
def funFit (P : Program) (fn : Func) (af : AFun) : Bool :=
  match fn.body with
  | some c => fn.ntmps == af.ntmps && codeFit P af.ntmps c af.code && resFit P fn.results.toList af.res
  | none => false

theorem refines_fit {f : Nat} {fn : Func} {af : AFun} (hf : P.funcs[f]? = some fn) (h : funFit P fn af = true) (k : Nat) (hΦ : PhiOK P Φ) : Refines P f (evFun Φ k af) := by
  unfold funFit at h
  split at h
  · next c hb =>
    simp only [Bool.and_eq_true, beq_iff_eq] at h
    exact evFun_refines hΦ hf hb h.1.1 h.1.2 h.2
  · cases h

theorem Refines.mono {f : Nat} {F F' : CallF} (H : Refines P f F) (h : ∀ bs r, F' bs = some r → F bs = some r) : Refines P f F' :=
  fun bs r ps he => H bs r ps (h bs _ he)

/-- the contract of a function: for each input some number of rounds will do -/
theorem refines_of {f : Nat} {fn : Func} {af : AFun} {F : CallF} (hf : P.funcs[f]? = some fn) (h : funFit P fn af = true) (hΦ : PhiOK P Φ) (H : ∀ bs r, F bs = some r → ∃ k, evFun Φ k af bs = some r) : Refines P f F :=
  fun bs r ps he => by
    obtain ⟨k, hk⟩ := H bs _ he
    exact refines_fit hf h k hΦ bs r ps hk

end
end Go.Abs

namespace Go.Abs
open Go

attribute [simp] ev evReg evOper evOp Env.x envGet envSet envDel envOnly AH.only AH.get AH.put AH.del aint ashift splice fillRows freezeL inVals inCells inPvs outPvs argPvs envOf evBody evFun resVals acall argVals mvArgs lendArgs lendCells mvCells Nat.beq_eq Nat.blt_eq outVals
attribute [simp] aisNil.eq_1 aisNil.eq_2 aisNil.eq_3 aisNil.eq_4 aisNil.eq_5 aisNil.eq_6 aisNil.eq_7 aisNil.eq_8 aisNil.eq_9 aisNil.eq_10 aisNil.eq_11 aisNil.eq_12 alen.eq_1 alen.eq_2 alen.eq_3 alen.eq_4 alen.eq_5 aslice.eq_1 aslice.eq_2 aslice.eq_3 aslice.eq_4 aslice.eq_5 rowsOf.eq_1 rowsOf.eq_2 rowsOf.eq_3 rowsOf.eq_4 rowsOf.eq_5 bound.eq_1 bound.eq_2 bound.eq_3 xopt.eq_1 xopt.eq_2 aun.eq_1 aun.eq_2 aun.eq_3 cellsAt.eq_1 cellsAt.eq_2 cellsAt.eq_3 astore.eq_1 astore.eq_2 asNat?.eq_1 part.eq_1 part.eq_2
attribute [simp] inVal.eq_1 inVal.eq_2 outVal.eq_1 outVal.eq_2 lendCell.eq_1 lendCell.eq_2 lendArg.eq_1 lendArg.eq_2 freeze1.eq_1 inCell.eq_1 inRes.eq_1 outRes.eq_1 mvCell.eq_1 srcRows.eq_1
@[simp] theorem e_cells_int (k : IntKind) (n : Int) : (AV.int k n).cells = [(AV.int k n)] := rfl
@[simp] theorem e_cellb_int (k : IntKind) (n : Int) : (AV.int k n).cellb = true := rfl
@[simp] theorem e_plain_int (k : IntKind) (n : Int) : (AV.int k n).plain = true := rfl
@[simp] theorem e_bare_int (k : IntKind) (n : Int) : (AV.int k n).bare = true := rfl
@[simp] theorem e_inCell_int (h : AH) (c nm : Nat) (k : IntKind) (n : Int) : inCell h c nm (AV.int k n) = some ((AV.int k n), h, c) := rfl
@[simp] theorem e_lendCell_int (h : AH) (k : IntKind) (n : Int) : lendCell h (AV.int k n) = some (AV.int k n) := rfl
@[simp] theorem e_mvCell_int (h : AH) (k : IntKind) (n : Int) : mvCell h (AV.int k n) = some ((AV.int k n), h) := rfl
@[simp] theorem e_freeze1_int (h : AH) (k : IntKind) (n : Int) : freeze1 h (AV.int k n) = some ((AV.int k n), h) := rfl
@[simp] theorem e_inVal_int (h : AH) (c nm : Nat) (k : IntKind) (n : Int) : inVal h c nm (AV.int k n) = inCell h c nm (AV.int k n) := rfl
@[simp] theorem e_lendArg_int (h : AH) (k : IntKind) (n : Int) : lendArg h (AV.int k n) = lendCell h (AV.int k n) := rfl
@[simp] theorem e_inRes_int (h : AH) (c nm : Nat) (k : IntKind) (n : Int) : inRes h c nm (AV.int k n) = inVal h c nm (AV.int k n) := rfl
@[simp] theorem e_outRes_int (h : AH) (k : IntKind) (n : Int) : outRes h (AV.int k n) = outVal h (AV.int k n) := rfl
@[simp] theorem e_outVal_int (h : AH) (k : IntKind) (n : Int) : outVal h (AV.int k n) = mvCell h (AV.int k n) := rfl
@[simp] theorem e_srcRows_int (h : AH) (sz : Nat) (k : IntKind) (n : Int) : srcRows h sz (AV.int k n) = rowsOf h sz (AV.int k n) := rfl
@[simp] theorem e_cells_bool (b : Bool) : (AV.bool b).cells = [(AV.bool b)] := rfl
@[simp] theorem e_cellb_bool (b : Bool) : (AV.bool b).cellb = true := rfl
@[simp] theorem e_plain_bool (b : Bool) : (AV.bool b).plain = true := rfl
@[simp] theorem e_bare_bool (b : Bool) : (AV.bool b).bare = true := rfl
@[simp] theorem e_inCell_bool (h : AH) (c nm : Nat) (b : Bool) : inCell h c nm (AV.bool b) = some ((AV.bool b), h, c) := rfl
@[simp] theorem e_lendCell_bool (h : AH) (b : Bool) : lendCell h (AV.bool b) = some (AV.bool b) := rfl
@[simp] theorem e_mvCell_bool (h : AH) (b : Bool) : mvCell h (AV.bool b) = some ((AV.bool b), h) := rfl
@[simp] theorem e_freeze1_bool (h : AH) (b : Bool) : freeze1 h (AV.bool b) = some ((AV.bool b), h) := rfl
@[simp] theorem e_inVal_bool (h : AH) (c nm : Nat) (b : Bool) : inVal h c nm (AV.bool b) = inCell h c nm (AV.bool b) := rfl
@[simp] theorem e_lendArg_bool (h : AH) (b : Bool) : lendArg h (AV.bool b) = lendCell h (AV.bool b) := rfl
@[simp] theorem e_inRes_bool (h : AH) (c nm : Nat) (b : Bool) : inRes h c nm (AV.bool b) = inVal h c nm (AV.bool b) := rfl
@[simp] theorem e_outRes_bool (h : AH) (b : Bool) : outRes h (AV.bool b) = outVal h (AV.bool b) := rfl
@[simp] theorem e_outVal_bool (h : AH) (b : Bool) : outVal h (AV.bool b) = mvCell h (AV.bool b) := rfl
@[simp] theorem e_srcRows_bool (h : AH) (sz : Nat) (b : Bool) : srcRows h sz (AV.bool b) = rowsOf h sz (AV.bool b) := rfl
@[simp] theorem e_cells_str (s : ByteArray) : (AV.str s).cells = [(AV.str s)] := rfl
@[simp] theorem e_cellb_str (s : ByteArray) : (AV.str s).cellb = true := rfl
@[simp] theorem e_plain_str (s : ByteArray) : (AV.str s).plain = true := rfl
@[simp] theorem e_bare_str (s : ByteArray) : (AV.str s).bare = true := rfl
@[simp] theorem e_inCell_str (h : AH) (c nm : Nat) (s : ByteArray) : inCell h c nm (AV.str s) = some ((AV.str s), h, c) := rfl
@[simp] theorem e_lendCell_str (h : AH) (s : ByteArray) : lendCell h (AV.str s) = some (AV.str s) := rfl
@[simp] theorem e_mvCell_str (h : AH) (s : ByteArray) : mvCell h (AV.str s) = some ((AV.str s), h) := rfl
@[simp] theorem e_freeze1_str (h : AH) (s : ByteArray) : freeze1 h (AV.str s) = some ((AV.str s), h) := rfl
@[simp] theorem e_inVal_str (h : AH) (c nm : Nat) (s : ByteArray) : inVal h c nm (AV.str s) = inCell h c nm (AV.str s) := rfl
@[simp] theorem e_lendArg_str (h : AH) (s : ByteArray) : lendArg h (AV.str s) = lendCell h (AV.str s) := rfl
@[simp] theorem e_inRes_str (h : AH) (c nm : Nat) (s : ByteArray) : inRes h c nm (AV.str s) = inVal h c nm (AV.str s) := rfl
@[simp] theorem e_outRes_str (h : AH) (s : ByteArray) : outRes h (AV.str s) = outVal h (AV.str s) := rfl
@[simp] theorem e_outVal_str (h : AH) (s : ByteArray) : outVal h (AV.str s) = mvCell h (AV.str s) := rfl
@[simp] theorem e_cells_agg (cs : List AV) : (AV.agg cs).cells = cs := rfl
@[simp] theorem e_cellb_agg (cs : List AV) : (AV.agg cs).cellb = false := rfl
@[simp] theorem e_plain_agg (cs : List AV) : (AV.agg cs).plain = false := rfl
@[simp] theorem e_bare_agg (cs : List AV) : (AV.agg cs).bare = false := rfl
@[simp] theorem e_inRes_agg (h : AH) (c nm : Nat) (cs : List AV) : inRes h c nm (AV.agg cs) = inVal h c nm (AV.agg cs) := rfl
@[simp] theorem e_outRes_agg (h : AH) (cs : List AV) : outRes h (AV.agg cs) = outVal h (AV.agg cs) := rfl
@[simp] theorem e_srcRows_agg (h : AH) (sz : Nat) (cs : List AV) : srcRows h sz (AV.agg cs) = rowsOf h sz (AV.agg cs) := rfl
@[simp] theorem e_cells_tup (vs : List AV) : (AV.tup vs).cells = [(AV.tup vs)] := rfl
@[simp] theorem e_cellb_tup (vs : List AV) : (AV.tup vs).cellb = false := rfl
@[simp] theorem e_plain_tup (vs : List AV) : (AV.tup vs).plain = false := rfl
@[simp] theorem e_bare_tup (vs : List AV) : (AV.tup vs).bare = false := rfl
@[simp] theorem e_inVal_tup (h : AH) (c nm : Nat) (vs : List AV) : inVal h c nm (AV.tup vs) = inCell h c nm (AV.tup vs) := rfl
@[simp] theorem e_lendArg_tup (h : AH) (vs : List AV) : lendArg h (AV.tup vs) = lendCell h (AV.tup vs) := rfl
@[simp] theorem e_outVal_tup (h : AH) (vs : List AV) : outVal h (AV.tup vs) = mvCell h (AV.tup vs) := rfl
@[simp] theorem e_srcRows_tup (h : AH) (sz : Nat) (vs : List AV) : srcRows h sz (AV.tup vs) = rowsOf h sz (AV.tup vs) := rfl
@[simp] theorem e_cells_nilS  : (AV.nilS).cells = [(AV.nilS)] := rfl
@[simp] theorem e_cellb_nilS  : (AV.nilS).cellb = true := rfl
@[simp] theorem e_plain_nilS  : (AV.nilS).plain = true := rfl
@[simp] theorem e_bare_nilS  : (AV.nilS).bare = true := rfl
@[simp] theorem e_inCell_nilS (h : AH) (c nm : Nat)  : inCell h c nm (AV.nilS) = some ((AV.nilS), h, c) := rfl
@[simp] theorem e_lendCell_nilS (h : AH)  : lendCell h (AV.nilS) = some (AV.nilS) := rfl
@[simp] theorem e_mvCell_nilS (h : AH)  : mvCell h (AV.nilS) = some ((AV.nilS), h) := rfl
@[simp] theorem e_freeze1_nilS (h : AH)  : freeze1 h (AV.nilS) = some ((AV.nilS), h) := rfl
@[simp] theorem e_inVal_nilS (h : AH) (c nm : Nat)  : inVal h c nm (AV.nilS) = inCell h c nm (AV.nilS) := rfl
@[simp] theorem e_lendArg_nilS (h : AH)  : lendArg h (AV.nilS) = lendCell h (AV.nilS) := rfl
@[simp] theorem e_inRes_nilS (h : AH) (c nm : Nat)  : inRes h c nm (AV.nilS) = inVal h c nm (AV.nilS) := rfl
@[simp] theorem e_outRes_nilS (h : AH)  : outRes h (AV.nilS) = outVal h (AV.nilS) := rfl
@[simp] theorem e_outVal_nilS (h : AH)  : outVal h (AV.nilS) = mvCell h (AV.nilS) := rfl
@[simp] theorem e_srcRows_nilS (h : AH) (sz : Nat)  : srcRows h sz (AV.nilS) = rowsOf h sz (AV.nilS) := rfl
@[simp] theorem e_cells_emp  : (AV.emp).cells = [(AV.emp)] := rfl
@[simp] theorem e_cellb_emp  : (AV.emp).cellb = true := rfl
@[simp] theorem e_plain_emp  : (AV.emp).plain = true := rfl
@[simp] theorem e_bare_emp  : (AV.emp).bare = true := rfl
@[simp] theorem e_inCell_emp (h : AH) (c nm : Nat)  : inCell h c nm (AV.emp) = some ((AV.emp), h, c) := rfl
@[simp] theorem e_lendCell_emp (h : AH)  : lendCell h (AV.emp) = some (AV.emp) := rfl
@[simp] theorem e_mvCell_emp (h : AH)  : mvCell h (AV.emp) = some ((AV.emp), h) := rfl
@[simp] theorem e_freeze1_emp (h : AH)  : freeze1 h (AV.emp) = some ((AV.emp), h) := rfl
@[simp] theorem e_inVal_emp (h : AH) (c nm : Nat)  : inVal h c nm (AV.emp) = inCell h c nm (AV.emp) := rfl
@[simp] theorem e_lendArg_emp (h : AH)  : lendArg h (AV.emp) = lendCell h (AV.emp) := rfl
@[simp] theorem e_inRes_emp (h : AH) (c nm : Nat)  : inRes h c nm (AV.emp) = inVal h c nm (AV.emp) := rfl
@[simp] theorem e_outRes_emp (h : AH)  : outRes h (AV.emp) = outVal h (AV.emp) := rfl
@[simp] theorem e_outVal_emp (h : AH)  : outVal h (AV.emp) = mvCell h (AV.emp) := rfl
@[simp] theorem e_srcRows_emp (h : AH) (sz : Nat)  : srcRows h sz (AV.emp) = rowsOf h sz (AV.emp) := rfl
@[simp] theorem e_cells_nilP  : (AV.nilP).cells = [(AV.nilP)] := rfl
@[simp] theorem e_cellb_nilP  : (AV.nilP).cellb = true := rfl
@[simp] theorem e_plain_nilP  : (AV.nilP).plain = true := rfl
@[simp] theorem e_bare_nilP  : (AV.nilP).bare = true := rfl
@[simp] theorem e_inCell_nilP (h : AH) (c nm : Nat)  : inCell h c nm (AV.nilP) = some ((AV.nilP), h, c) := rfl
@[simp] theorem e_lendCell_nilP (h : AH)  : lendCell h (AV.nilP) = some (AV.nilP) := rfl
@[simp] theorem e_mvCell_nilP (h : AH)  : mvCell h (AV.nilP) = some ((AV.nilP), h) := rfl
@[simp] theorem e_freeze1_nilP (h : AH)  : freeze1 h (AV.nilP) = some ((AV.nilP), h) := rfl
@[simp] theorem e_inVal_nilP (h : AH) (c nm : Nat)  : inVal h c nm (AV.nilP) = inCell h c nm (AV.nilP) := rfl
@[simp] theorem e_lendArg_nilP (h : AH)  : lendArg h (AV.nilP) = lendCell h (AV.nilP) := rfl
@[simp] theorem e_inRes_nilP (h : AH) (c nm : Nat)  : inRes h c nm (AV.nilP) = inVal h c nm (AV.nilP) := rfl
@[simp] theorem e_outRes_nilP (h : AH)  : outRes h (AV.nilP) = outVal h (AV.nilP) := rfl
@[simp] theorem e_outVal_nilP (h : AH)  : outVal h (AV.nilP) = mvCell h (AV.nilP) := rfl
@[simp] theorem e_srcRows_nilP (h : AH) (sz : Nat)  : srcRows h sz (AV.nilP) = rowsOf h sz (AV.nilP) := rfl
@[simp] theorem e_cells_nilF  : (AV.nilF).cells = [(AV.nilF)] := rfl
@[simp] theorem e_cellb_nilF  : (AV.nilF).cellb = true := rfl
@[simp] theorem e_plain_nilF  : (AV.nilF).plain = true := rfl
@[simp] theorem e_bare_nilF  : (AV.nilF).bare = true := rfl
@[simp] theorem e_inCell_nilF (h : AH) (c nm : Nat)  : inCell h c nm (AV.nilF) = some ((AV.nilF), h, c) := rfl
@[simp] theorem e_lendCell_nilF (h : AH)  : lendCell h (AV.nilF) = some (AV.nilF) := rfl
@[simp] theorem e_mvCell_nilF (h : AH)  : mvCell h (AV.nilF) = some ((AV.nilF), h) := rfl
@[simp] theorem e_freeze1_nilF (h : AH)  : freeze1 h (AV.nilF) = some ((AV.nilF), h) := rfl
@[simp] theorem e_inVal_nilF (h : AH) (c nm : Nat)  : inVal h c nm (AV.nilF) = inCell h c nm (AV.nilF) := rfl
@[simp] theorem e_lendArg_nilF (h : AH)  : lendArg h (AV.nilF) = lendCell h (AV.nilF) := rfl
@[simp] theorem e_inRes_nilF (h : AH) (c nm : Nat)  : inRes h c nm (AV.nilF) = inVal h c nm (AV.nilF) := rfl
@[simp] theorem e_outRes_nilF (h : AH)  : outRes h (AV.nilF) = outVal h (AV.nilF) := rfl
@[simp] theorem e_outVal_nilF (h : AH)  : outVal h (AV.nilF) = mvCell h (AV.nilF) := rfl
@[simp] theorem e_srcRows_nilF (h : AH) (sz : Nat)  : srcRows h sz (AV.nilF) = rowsOf h sz (AV.nilF) := rfl
@[simp] theorem e_cells_nilM  : (AV.nilM).cells = [(AV.nilM)] := rfl
@[simp] theorem e_cellb_nilM  : (AV.nilM).cellb = true := rfl
@[simp] theorem e_plain_nilM  : (AV.nilM).plain = true := rfl
@[simp] theorem e_bare_nilM  : (AV.nilM).bare = true := rfl
@[simp] theorem e_inCell_nilM (h : AH) (c nm : Nat)  : inCell h c nm (AV.nilM) = some ((AV.nilM), h, c) := rfl
@[simp] theorem e_lendCell_nilM (h : AH)  : lendCell h (AV.nilM) = some (AV.nilM) := rfl
@[simp] theorem e_mvCell_nilM (h : AH)  : mvCell h (AV.nilM) = some ((AV.nilM), h) := rfl
@[simp] theorem e_freeze1_nilM (h : AH)  : freeze1 h (AV.nilM) = some ((AV.nilM), h) := rfl
@[simp] theorem e_inVal_nilM (h : AH) (c nm : Nat)  : inVal h c nm (AV.nilM) = inCell h c nm (AV.nilM) := rfl
@[simp] theorem e_lendArg_nilM (h : AH)  : lendArg h (AV.nilM) = lendCell h (AV.nilM) := rfl
@[simp] theorem e_inRes_nilM (h : AH) (c nm : Nat)  : inRes h c nm (AV.nilM) = inVal h c nm (AV.nilM) := rfl
@[simp] theorem e_outRes_nilM (h : AH)  : outRes h (AV.nilM) = outVal h (AV.nilM) := rfl
@[simp] theorem e_outVal_nilM (h : AH)  : outVal h (AV.nilM) = mvCell h (AV.nilM) := rfl
@[simp] theorem e_srcRows_nilM (h : AH) (sz : Nat)  : srcRows h sz (AV.nilM) = rowsOf h sz (AV.nilM) := rfl
@[simp] theorem e_cells_ro (t : Bool) (z : Nat) (rows : List (List AV)) : (AV.ro t z rows).cells = [(AV.ro t z rows)] := rfl
@[simp] theorem e_cellb_ro (t : Bool) (z : Nat) (rows : List (List AV)) : (AV.ro t z rows).cellb = true := rfl
@[simp] theorem e_plain_ro0 (z : Nat) (rows : List (List AV)) : (AV.ro false z rows).plain = true := rfl
@[simp] theorem e_plain_ro1 (z : Nat) (rows : List (List AV)) : (AV.ro true z rows).plain = false := rfl
@[simp] theorem e_bare_ro (t : Bool) (z : Nat) (rows : List (List AV)) : (AV.ro t z rows).bare = true := rfl
@[simp] theorem e_inCell_ro (h : AH) (c nm : Nat) (t : Bool) (z : Nat) (rows : List (List AV)) : inCell h c nm (AV.ro t z rows) = some ((AV.ro t z rows), h, c) := rfl
@[simp] theorem e_lendCell_ro (h : AH) (t : Bool) (z : Nat) (rows : List (List AV)) : lendCell h (AV.ro t z rows) = some (AV.ro t z rows) := rfl
@[simp] theorem e_mvCell_ro (h : AH) (z : Nat) (rows : List (List AV)) : mvCell h (AV.ro false z rows) = some ((AV.ro false z rows), h) := rfl
@[simp] theorem e_freeze1_ro (h : AH) (z : Nat) (rows : List (List AV)) : freeze1 h (AV.ro false z rows) = some ((AV.ro false z rows), h) := rfl
@[simp] theorem e_inVal_ro (h : AH) (c nm : Nat) (t : Bool) (z : Nat) (rows : List (List AV)) : inVal h c nm (AV.ro t z rows) = inCell h c nm (AV.ro t z rows) := rfl
@[simp] theorem e_lendArg_ro (h : AH) (t : Bool) (z : Nat) (rows : List (List AV)) : lendArg h (AV.ro t z rows) = lendCell h (AV.ro t z rows) := rfl
@[simp] theorem e_inRes_ro (h : AH) (c nm : Nat) (t : Bool) (z : Nat) (rows : List (List AV)) : inRes h c nm (AV.ro t z rows) = inVal h c nm (AV.ro t z rows) := rfl
@[simp] theorem e_outRes_ro (h : AH) (t : Bool) (z : Nat) (rows : List (List AV)) : outRes h (AV.ro t z rows) = outVal h (AV.ro t z rows) := rfl
@[simp] theorem e_outVal_ro (h : AH) (t : Bool) (z : Nat) (rows : List (List AV)) : outVal h (AV.ro t z rows) = mvCell h (AV.ro t z rows) := rfl
@[simp] theorem e_srcRows_ro (h : AH) (sz : Nat) (t : Bool) (z : Nat) (rows : List (List AV)) : srcRows h sz (AV.ro t z rows) = rowsOf h sz (AV.ro t z rows) := rfl
@[simp] theorem e_cells_own (n g o l : Nat) : (AV.own n g o l).cells = [(AV.own n g o l)] := rfl
@[simp] theorem e_cellb_own (n g o l : Nat) : (AV.own n g o l).cellb = true := rfl
@[simp] theorem e_plain_own (n g o l : Nat) : (AV.own n g o l).plain = false := rfl
@[simp] theorem e_bare_own (n g o l : Nat) : (AV.own n g o l).bare = false := rfl
@[simp] theorem e_inVal_own (h : AH) (c nm : Nat) (n g o l : Nat) : inVal h c nm (AV.own n g o l) = inCell h c nm (AV.own n g o l) := rfl
@[simp] theorem e_lendArg_own (h : AH) (n g o l : Nat) : lendArg h (AV.own n g o l) = lendCell h (AV.own n g o l) := rfl
@[simp] theorem e_inRes_own (h : AH) (c nm : Nat) (n g o l : Nat) : inRes h c nm (AV.own n g o l) = inVal h c nm (AV.own n g o l) := rfl
@[simp] theorem e_outRes_own (h : AH) (n g o l : Nat) : outRes h (AV.own n g o l) = outVal h (AV.own n g o l) := rfl
@[simp] theorem e_outVal_own (h : AH) (n g o l : Nat) : outVal h (AV.own n g o l) = mvCell h (AV.own n g o l) := rfl
@[simp] theorem e_srcRows_own (h : AH) (sz : Nat) (n g o l : Nat) : srcRows h sz (AV.own n g o l) = rowsOf h sz (AV.own n g o l) := rfl
@[simp] theorem e_cells_vsl (n g o l : Nat) : (AV.vsl n g o l).cells = [(AV.vsl n g o l)] := rfl
@[simp] theorem e_cellb_vsl (n g o l : Nat) : (AV.vsl n g o l).cellb = true := rfl
@[simp] theorem e_plain_vsl (n g o l : Nat) : (AV.vsl n g o l).plain = false := rfl
@[simp] theorem e_bare_vsl (n g o l : Nat) : (AV.vsl n g o l).bare = false := rfl
@[simp] theorem e_inVal_vsl (h : AH) (c nm : Nat) (n g o l : Nat) : inVal h c nm (AV.vsl n g o l) = inCell h c nm (AV.vsl n g o l) := rfl
@[simp] theorem e_lendArg_vsl (h : AH) (n g o l : Nat) : lendArg h (AV.vsl n g o l) = lendCell h (AV.vsl n g o l) := rfl
@[simp] theorem e_inRes_vsl (h : AH) (c nm : Nat) (n g o l : Nat) : inRes h c nm (AV.vsl n g o l) = inVal h c nm (AV.vsl n g o l) := rfl
@[simp] theorem e_outRes_vsl (h : AH) (n g o l : Nat) : outRes h (AV.vsl n g o l) = outVal h (AV.vsl n g o l) := rfl
@[simp] theorem e_outVal_vsl (h : AH) (n g o l : Nat) : outVal h (AV.vsl n g o l) = mvCell h (AV.vsl n g o l) := rfl
@[simp] theorem e_srcRows_vsl (h : AH) (sz : Nat) (n g o l : Nat) : srcRows h sz (AV.vsl n g o l) = rowsOf h sz (AV.vsl n g o l) := rfl
@[simp] theorem e_cells_ptr (n g o : Nat) : (AV.ptr n g o).cells = [(AV.ptr n g o)] := rfl
@[simp] theorem e_cellb_ptr (n g o : Nat) : (AV.ptr n g o).cellb = true := rfl
@[simp] theorem e_plain_ptr (n g o : Nat) : (AV.ptr n g o).plain = false := rfl
@[simp] theorem e_bare_ptr (n g o : Nat) : (AV.ptr n g o).bare = false := rfl
@[simp] theorem e_inVal_ptr (h : AH) (c nm : Nat) (n g o : Nat) : inVal h c nm (AV.ptr n g o) = inCell h c nm (AV.ptr n g o) := rfl
@[simp] theorem e_lendArg_ptr (h : AH) (n g o : Nat) : lendArg h (AV.ptr n g o) = lendCell h (AV.ptr n g o) := rfl
@[simp] theorem e_inRes_ptr (h : AH) (c nm : Nat) (n g o : Nat) : inRes h c nm (AV.ptr n g o) = inVal h c nm (AV.ptr n g o) := rfl
@[simp] theorem e_outRes_ptr (h : AH) (n g o : Nat) : outRes h (AV.ptr n g o) = outVal h (AV.ptr n g o) := rfl
@[simp] theorem e_srcRows_ptr (h : AH) (sz : Nat) (n g o : Nat) : srcRows h sz (AV.ptr n g o) = rowsOf h sz (AV.ptr n g o) := rfl
@[simp] theorem e_cells_eptr (n g i o : Nat) : (AV.eptr n g i o).cells = [(AV.eptr n g i o)] := rfl
@[simp] theorem e_cellb_eptr (n g i o : Nat) : (AV.eptr n g i o).cellb = true := rfl
@[simp] theorem e_plain_eptr (n g i o : Nat) : (AV.eptr n g i o).plain = false := rfl
@[simp] theorem e_bare_eptr (n g i o : Nat) : (AV.eptr n g i o).bare = false := rfl
@[simp] theorem e_inVal_eptr (h : AH) (c nm : Nat) (n g i o : Nat) : inVal h c nm (AV.eptr n g i o) = inCell h c nm (AV.eptr n g i o) := rfl
@[simp] theorem e_lendArg_eptr (h : AH) (n g i o : Nat) : lendArg h (AV.eptr n g i o) = lendCell h (AV.eptr n g i o) := rfl
@[simp] theorem e_inRes_eptr (h : AH) (c nm : Nat) (n g i o : Nat) : inRes h c nm (AV.eptr n g i o) = inVal h c nm (AV.eptr n g i o) := rfl
@[simp] theorem e_outRes_eptr (h : AH) (n g i o : Nat) : outRes h (AV.eptr n g i o) = outVal h (AV.eptr n g i o) := rfl
@[simp] theorem e_outVal_eptr (h : AH) (n g i o : Nat) : outVal h (AV.eptr n g i o) = mvCell h (AV.eptr n g i o) := rfl
@[simp] theorem e_srcRows_eptr (h : AH) (sz : Nat) (n g i o : Nat) : srcRows h sz (AV.eptr n g i o) = rowsOf h sz (AV.eptr n g i o) := rfl
@[simp] theorem e_cells_rptr (cs : List AV) : (AV.rptr cs).cells = [(AV.rptr cs)] := rfl
@[simp] theorem e_cellb_rptr (cs : List AV) : (AV.rptr cs).cellb = true := rfl
@[simp] theorem e_plain_rptr (cs : List AV) : (AV.rptr cs).plain = false := rfl
@[simp] theorem e_bare_rptr (cs : List AV) : (AV.rptr cs).bare = false := rfl
@[simp] theorem e_inVal_rptr (h : AH) (c nm : Nat) (cs : List AV) : inVal h c nm (AV.rptr cs) = inCell h c nm (AV.rptr cs) := rfl
@[simp] theorem e_lendArg_rptr (h : AH) (cs : List AV) : lendArg h (AV.rptr cs) = lendCell h (AV.rptr cs) := rfl
@[simp] theorem e_inRes_rptr (h : AH) (c nm : Nat) (cs : List AV) : inRes h c nm (AV.rptr cs) = inVal h c nm (AV.rptr cs) := rfl
@[simp] theorem e_outRes_rptr (h : AH) (cs : List AV) : outRes h (AV.rptr cs) = outVal h (AV.rptr cs) := rfl
@[simp] theorem e_outVal_rptr (h : AH) (cs : List AV) : outVal h (AV.rptr cs) = mvCell h (AV.rptr cs) := rfl
@[simp] theorem e_srcRows_rptr (h : AH) (sz : Nat) (cs : List AV) : srcRows h sz (AV.rptr cs) = rowsOf h sz (AV.rptr cs) := rfl
@[simp] theorem e_cells_fn (f : Nat) (cap : List AV) : (AV.fn f cap).cells = [(AV.fn f cap)] := rfl
@[simp] theorem e_cellb_fn (f : Nat) (cap : List AV) : (AV.fn f cap).cellb = true := rfl
@[simp] theorem e_plain_fn (f : Nat) (cap : List AV) : (AV.fn f cap).plain = false := rfl
@[simp] theorem e_bare_fn (f : Nat) : (AV.fn f []).bare = true := rfl
@[simp] theorem e_inCell_fn (h : AH) (c nm : Nat) (f : Nat) : inCell h c nm (AV.fn f []) = some ((AV.fn f []), h, c) := rfl
@[simp] theorem e_lendCell_fn (h : AH) (f : Nat) : lendCell h (AV.fn f []) = some (AV.fn f []) := rfl
@[simp] theorem e_inVal_fn (h : AH) (c nm : Nat) (f : Nat) (cap : List AV) : inVal h c nm (AV.fn f cap) = inCell h c nm (AV.fn f cap) := rfl
@[simp] theorem e_lendArg_fn (h : AH) (f : Nat) (cap : List AV) : lendArg h (AV.fn f cap) = lendCell h (AV.fn f cap) := rfl
@[simp] theorem e_inRes_fn (h : AH) (c nm : Nat) (f : Nat) (cap : List AV) : inRes h c nm (AV.fn f cap) = inVal h c nm (AV.fn f cap) := rfl
@[simp] theorem e_outRes_fn (h : AH) (f : Nat) (cap : List AV) : outRes h (AV.fn f cap) = outVal h (AV.fn f cap) := rfl
@[simp] theorem e_outVal_fn (h : AH) (f : Nat) (cap : List AV) : outVal h (AV.fn f cap) = mvCell h (AV.fn f cap) := rfl
@[simp] theorem e_srcRows_fn (h : AH) (sz : Nat) (f : Nat) (cap : List AV) : srcRows h sz (AV.fn f cap) = rowsOf h sz (AV.fn f cap) := rfl
@[simp] theorem e_cells_fr (z : Nat) (rows : List (List AV)) : (AV.fr z rows).cells = [(AV.fr z rows)] := rfl
@[simp] theorem e_cellb_fr (z : Nat) (rows : List (List AV)) : (AV.fr z rows).cellb = false := rfl
@[simp] theorem e_plain_fr (z : Nat) (rows : List (List AV)) : (AV.fr z rows).plain = false := rfl
@[simp] theorem e_bare_fr (z : Nat) (rows : List (List AV)) : (AV.fr z rows).bare = false := rfl
@[simp] theorem e_inVal_fr (h : AH) (c nm : Nat) (z : Nat) (rows : List (List AV)) : inVal h c nm (AV.fr z rows) = inCell h c nm (AV.fr z rows) := rfl
@[simp] theorem e_lendArg_fr (h : AH) (z : Nat) (rows : List (List AV)) : lendArg h (AV.fr z rows) = lendCell h (AV.fr z rows) := rfl
@[simp] theorem e_inRes_fr (h : AH) (c nm : Nat) (z : Nat) (rows : List (List AV)) : inRes h c nm (AV.fr z rows) = inVal h c nm (AV.fr z rows) := rfl
@[simp] theorem e_outRes_fr (h : AH) (z : Nat) (rows : List (List AV)) : outRes h (AV.fr z rows) = outVal h (AV.fr z rows) := rfl
@[simp] theorem e_outVal_fr (h : AH) (z : Nat) (rows : List (List AV)) : outVal h (AV.fr z rows) = mvCell h (AV.fr z rows) := rfl
@[simp] theorem e_srcRows_fr (h : AH) (sz : Nat) (z : Nat) (rows : List (List AV)) : srcRows h sz (AV.fr z rows) = rowsOf h sz (AV.fr z rows) := rfl
@[simp] theorem e_cells_pv (cs : List AV) : (AV.pv cs).cells = [(AV.pv cs)] := rfl
@[simp] theorem e_cellb_pv (cs : List AV) : (AV.pv cs).cellb = false := rfl
@[simp] theorem e_plain_pv (cs : List AV) : (AV.pv cs).plain = false := rfl
@[simp] theorem e_bare_pv (cs : List AV) : (AV.pv cs).bare = false := rfl
@[simp] theorem e_inRes_pv (h : AH) (c nm : Nat) (cs : List AV) : inRes h c nm (AV.pv cs) = inVal h c nm (AV.pv cs) := rfl
@[simp] theorem e_outRes_pv (h : AH) (cs : List AV) : outRes h (AV.pv cs) = outVal h (AV.pv cs) := rfl
@[simp] theorem e_outVal_pv (h : AH) (cs : List AV) : outVal h (AV.pv cs) = mvCell h (AV.pv cs) := rfl
@[simp] theorem e_srcRows_pv (h : AH) (sz : Nat) (cs : List AV) : srcRows h sz (AV.pv cs) = rowsOf h sz (AV.pv cs) := rfl
@[simp] theorem e_cells_opq (k : Nat) : (AV.opq k).cells = [(AV.opq k)] := rfl
@[simp] theorem e_cellb_opq (k : Nat) : (AV.opq k).cellb = true := rfl
@[simp] theorem e_plain_opq (k : Nat) : (AV.opq k).plain = false := rfl
@[simp] theorem e_bare_opq (k : Nat) : (AV.opq k).bare = false := rfl
@[simp] theorem e_inVal_opq (h : AH) (c nm : Nat) (k : Nat) : inVal h c nm (AV.opq k) = inCell h c nm (AV.opq k) := rfl
@[simp] theorem e_lendArg_opq (h : AH) (k : Nat) : lendArg h (AV.opq k) = lendCell h (AV.opq k) := rfl
@[simp] theorem e_inRes_opq (h : AH) (c nm : Nat) (k : Nat) : inRes h c nm (AV.opq k) = inVal h c nm (AV.opq k) := rfl
@[simp] theorem e_outRes_opq (h : AH) (k : Nat) : outRes h (AV.opq k) = outVal h (AV.opq k) := rfl
@[simp] theorem e_outVal_opq (h : AH) (k : Nat) : outVal h (AV.opq k) = mvCell h (AV.opq k) := rfl
@[simp] theorem e_srcRows_opq (h : AH) (sz : Nat) (k : Nat) : srcRows h sz (AV.opq k) = rowsOf h sz (AV.opq k) := rfl
@[simp] theorem e_abin_add (k k' : IntKind) (a b : Int) : abin .add (.int k a) (.int k' b) = if k = k' then aint .add k a b else none := rfl
@[simp] theorem e_abin_sub (k k' : IntKind) (a b : Int) : abin .sub (.int k a) (.int k' b) = if k = k' then aint .sub k a b else none := rfl
@[simp] theorem e_abin_mul (k k' : IntKind) (a b : Int) : abin .mul (.int k a) (.int k' b) = if k = k' then aint .mul k a b else none := rfl
@[simp] theorem e_abin_quo (k k' : IntKind) (a b : Int) : abin .quo (.int k a) (.int k' b) = if k = k' then aint .quo k a b else none := rfl
@[simp] theorem e_abin_rem (k k' : IntKind) (a b : Int) : abin .rem (.int k a) (.int k' b) = if k = k' then aint .rem k a b else none := rfl
@[simp] theorem e_abin_and (k k' : IntKind) (a b : Int) : abin .and (.int k a) (.int k' b) = if k = k' then aint .and k a b else none := rfl
@[simp] theorem e_abin_or (k k' : IntKind) (a b : Int) : abin .or (.int k a) (.int k' b) = if k = k' then aint .or k a b else none := rfl
@[simp] theorem e_abin_xor (k k' : IntKind) (a b : Int) : abin .xor (.int k a) (.int k' b) = if k = k' then aint .xor k a b else none := rfl
@[simp] theorem e_abin_andNot (k k' : IntKind) (a b : Int) : abin .andNot (.int k a) (.int k' b) = if k = k' then aint .andNot k a b else none := rfl
@[simp] theorem e_abin_eql (k k' : IntKind) (a b : Int) : abin .eql (.int k a) (.int k' b) = if k = k' then aint .eql k a b else none := rfl
@[simp] theorem e_abin_neq (k k' : IntKind) (a b : Int) : abin .neq (.int k a) (.int k' b) = if k = k' then aint .neq k a b else none := rfl
@[simp] theorem e_abin_lss (k k' : IntKind) (a b : Int) : abin .lss (.int k a) (.int k' b) = if k = k' then aint .lss k a b else none := rfl
@[simp] theorem e_abin_leq (k k' : IntKind) (a b : Int) : abin .leq (.int k a) (.int k' b) = if k = k' then aint .leq k a b else none := rfl
@[simp] theorem e_abin_gtr (k k' : IntKind) (a b : Int) : abin .gtr (.int k a) (.int k' b) = if k = k' then aint .gtr k a b else none := rfl
@[simp] theorem e_abin_geq (k k' : IntKind) (a b : Int) : abin .geq (.int k a) (.int k' b) = if k = k' then aint .geq k a b else none := rfl
@[simp] theorem e_abin_shl (k k' : IntKind) (a b : Int) : abin .shl (.int k a) (.int k' b) = ashift .shl k a b := rfl
@[simp] theorem e_abin_shr (k k' : IntKind) (a b : Int) : abin .shr (.int k a) (.int k' b) = ashift .shr k a b := rfl
@[simp] theorem e_abin_sadd (a b : ByteArray) : abin .add (.str a) (.str b) = astr .add a b := rfl
@[simp] theorem e_abin_seql (a b : ByteArray) : abin .eql (.str a) (.str b) = astr .eql a b := rfl
@[simp] theorem e_abin_sneq (a b : ByteArray) : abin .neq (.str a) (.str b) = astr .neq a b := rfl
@[simp] theorem e_abin_slss (a b : ByteArray) : abin .lss (.str a) (.str b) = astr .lss a b := rfl
@[simp] theorem e_abin_sleq (a b : ByteArray) : abin .leq (.str a) (.str b) = astr .leq a b := rfl
@[simp] theorem e_abin_sgtr (a b : ByteArray) : abin .gtr (.str a) (.str b) = astr .gtr a b := rfl
@[simp] theorem e_abin_sgeq (a b : ByteArray) : abin .geq (.str a) (.str b) = astr .geq a b := rfl
@[simp] theorem e_resVal_0  : resVal [] = .tup [] := rfl
@[simp] theorem e_resVal_1 (v : AV) : resVal [v] = v := rfl
@[simp] theorem e_resVal_2 (a b : AV) (r : List AV) : resVal (a :: b :: r) = .tup (a :: b :: r) := rfl

theorem loop_eq (b : ByteArray) : ∀ (k i : Nat) (r : List UInt8), b.size - i = k → ByteArray.toList.loop b i r = r.reverse ++ b.data.toList.drop i := by
  intro k
  induction k with
  | zero =>
    intro i r h
    rw [ByteArray.toList.loop, if_neg (by omega)]
    rw [List.drop_of_length_le (by have : b.data.toList.length = b.size := rfl
                                   omega)]
    simp
  | succ k ih =>
    intro i r h
    have hlt : i < b.size := by omega
    rw [ByteArray.toList.loop, if_pos hlt, ih (i + 1) _ (by omega)]
    have hl : i < b.data.toList.length := hlt
    rw [List.drop_eq_getElem_cons hl]
    have : b.get! i = b.data.toList[i] := by
      simp [ByteArray.get!]
      rw [getElem!_pos]
    simp [this]
theorem toList_eq (b : ByteArray) : b.toList = b.data.toList := by
  unfold ByteArray.toList
  rw [loop_eq b _ 0 [] rfl]; rfl

@[simp] theorem size_mk (l : List UInt8) : (⟨l.toArray⟩ : ByteArray).size = l.length := by simp [ByteArray.size]
@[simp] theorem astr_eql (a b : List UInt8) : astr .eql ⟨a.toArray⟩ ⟨b.toArray⟩ = some (.bool (a == b)) := by simp [astr, toList_eq]
@[simp] theorem astr_neq (a b : List UInt8) : astr .neq ⟨a.toArray⟩ ⟨b.toArray⟩ = some (.bool !(a == b)) := by simp [astr, toList_eq]
@[simp] theorem astr_lss (a b : List UInt8) : astr .lss ⟨a.toArray⟩ ⟨b.toArray⟩ = some (.bool (Op.bytesLess a b)) := by simp [astr, toList_eq]
theorem mkBytes (s : ByteArray) : ∃ l : List UInt8, s = ⟨l.toArray⟩ := ⟨s.data.toList, by simp⟩

theorem wrap_i64 (n : Int) (h0 : -9223372036854775808 ≤ n) (h : n ≤ 9223372036854775807) : IntKind.i64.wrap n = n := Go.IntWalk.i64_in n ⟨h0, h⟩
theorem wrap_u8 (n : Int) : IntKind.u8.wrap n = n % 256 := by rw [IntKind.wrap_u8]

theorem envOnly_idem (ks : List Nat) (e : Env) : envOnly ks (envOnly ks e) = envOnly ks e := by
  induction e with
  | nil => rfl
  | cons x r ih =>
    obtain ⟨m, u⟩ := x
    simp only [envOnly]
    split
    · next h => simp only [envOnly, h, if_true, ih]
    · exact ih
theorem only_idem (ks : List Nat) (h : AH) : (h.only ks).only ks = h.only ks := by
  induction h with
  | nil => rfl
  | cons e r ih =>
    simp only [AH.only]
    split
    · next h => simp only [AH.only, h, if_true, ih]
    · exact ih

/-- a loop sees what it keeps alone -/
theorem iter_keep (f kt kh k) (s : St) : iter f kt kh k s = iter f kt kh k ⟨envOnly kt s.env, s.h.only kh, s.c⟩ := by
  cases k with
  | zero => rfl
  | succ k => simp only [iter, envOnly_idem, only_idem]

theorem iter_succ (f kt kh k) (s : St) : iter f kt kh (k + 1) s = match f ⟨envOnly kt s.env, s.h.only kh, s.c⟩ with
    | some (.normal, s') => iter f kt kh k s'
    | r => r := rfl

theorem toBytes_map (l : List UInt8) : toBytes (l.map fun b => [.int .u8 (b.toNat : Int)]) = some l := by
  induction l with
  | nil => rfl
  | cons b r ih => simp [toBytes, ih]
theorem toBytes_rows (l : List UInt8) : toBytes (byteRows l) = some l := toBytes_map l

theorem append_bytes (a b : List UInt8) : (⟨a.toArray⟩ : ByteArray) ++ ⟨b.toArray⟩ = ⟨(a ++ b).toArray⟩ := by
  apply ByteArray.ext
  simp
theorem astr_add_bytes (a b : List UInt8) (h : a.length + b.length ≤ 9223372036854775807) : astr .add ⟨a.toArray⟩ ⟨b.toArray⟩ = some (.str ⟨(a ++ b).toArray⟩) := by
  unfold astr
  rw [if_neg]
  · rw [append_bytes]
  · have e1 : (⟨a.toArray⟩ : ByteArray).size = a.length := by simp [ByteArray.size]
    have e2 : (⟨b.toArray⟩ : ByteArray).size = b.length := by simp [ByteArray.size]
    have e3 : IntKind.i64.max = 9223372036854775807 := by decide +kernel
    rw [e1, e2, e3]
    omega

@[simp] theorem bits_i64 : IntKind.i64.bits = 64 := rfl
@[simp] theorem bits_u64 : IntKind.u64.bits = 64 := rfl
@[simp] theorem bits_u32 : IntKind.u32.bits = 32 := rfl
@[simp] theorem bits_u8 : IntKind.u8.bits = 8 := rfl
def St.keep (kt kh : List Nat) (s : St) : St := ⟨envOnly kt s.env, s.h.only kh, s.c⟩
/-- one round -/
theorem iter_norm {f kt kh k} {s s' : St} (h : (f (s.keep kt kh)).map (fun r => (r.1, r.2.keep kt kh)) = some (.normal, s')) : iter f kt kh (k + 1) s = iter f kt kh k s' := by
  rw [Option.map_eq_some_iff] at h
  obtain ⟨⟨e, q⟩, h1, h2⟩ := h
  simp only [Prod.mk.injEq] at h2
  obtain ⟨rfl, rfl⟩ := h2
  rw [iter_succ]
  unfold St.keep at h1
  rw [h1]
  exact iter_keep _ _ _ _ _
theorem iter_out {f kt kh k} {s s' : St} {e : Ex} (he : e ≠ .normal) (h : f (s.keep kt kh) = some (e, s')) : iter f kt kh (k + 1) s = some (e, s') := by
  rw [iter_succ]
  unfold St.keep at h
  rw [h]
  cases e <;> first | rfl | exact absurd rfl he

theorem or_low (m x : Nat) (j : Nat) (hx : x < 2 ^ j) (hn : m * 2 ^ j + x < 2 ^ 63) : abits .or .i64 ((m * 2 ^ j : Nat) : Int) (x : Int) = some (.int .i64 ((m * 2 ^ j + x : Nat) : Int)) := by
  have h1 : (BitVec.ofInt IntKind.i64.bits ((m * 2 ^ j : Nat) : Int) ||| BitVec.ofInt IntKind.i64.bits (x : Int)).toNat = m * 2 ^ j + x := by
    have e : IntKind.i64.bits = 64 := rfl
    rw [e, BitVec.ofInt_natCast, BitVec.ofInt_natCast, BitVec.toNat_or, BitVec.toNat_ofNat, BitVec.toNat_ofNat]
    generalize hp : 2 ^ j = p at *
    rw [Nat.mod_eq_of_lt (by omega), Nat.mod_eq_of_lt (by omega), ← hp, Nat.mul_comm, Nat.two_pow_add_eq_or_of_lt (by omega)]
  show some (AV.int .i64 (IntKind.i64.wrap ((BitVec.ofInt IntKind.i64.bits ((m * 2 ^ j : Nat) : Int) ||| BitVec.ofInt IntKind.i64.bits (x : Int)).toNat : Int))) = _
  rw [h1, wrap_i64] <;> omega
theorem iter_outE {f kt kh k} {s : St} {e : Ex} {p : St → Prop} (he : e ≠ .normal) (h : ∃ s', f (s.keep kt kh) = some (e, s') ∧ p s') : ∃ s', iter f kt kh (k + 1) s = some (e, s') ∧ p s' := by
  obtain ⟨s', h1, h2⟩ := h
  exact ⟨s', iter_out he h1, h2⟩
end Go.Abs

namespace Go.Abs
open Go Go.RowKit

/-- A law's contract as the row wants it: nothing that came in goes along. -/
theorem Refines.law {P : Program} {f : Nat} {F : CallF} {bs : List AV} {cargs : List Value} {w : World} (H : Refines P f F) (hF : F bs = some (.bool true, []))
    (hbs : FVals (Gh.only (fun b => b < w.heap.size) fun _ => False) w bs cargs []) :
    Calls P f ⟨cargs⟩ w fun e w' => e = .returned (.bool true) ∧ Below w.heap.size w w' := by
  refine (H bs _ _ hF _ _ w cargs [] hbs (by simp) (by simp) (by simp)).mono ?_
  rintro e w' ⟨cv, R0', fpr, fpp, rfl, h1, h2, h3, h4, h5, _, _, h8, _⟩
  refine ⟨?_, ⟨h2, h3, h4, h1, fun k hk => h5 k hk (by simp)⟩⟩
  cases h8 with
  | val h =>
    cases h with
    | cell h =>
      cases h with
      | bare _ _ _ hv => cases hv; rfl

theorem FVal.int {G : Gh} {w : World} (k : IntKind) (n : Int) : FVal G w (.int k n) (.int k n) [] := .cell (.bare _ _ rfl (.int k n))
theorem FVal.str {G : Gh} {w : World} (s : ByteArray) : FVal G w (.str s) (.string s) [] := .cell (.bare _ _ rfl (.str s))
theorem FVal.bool {G : Gh} {w : World} (b : Bool) : FVal G w (.bool b) (.bool b) [] := .cell (.bare _ _ rfl (.bool b))
theorem FVals.cons0 {G : Gh} {w : World} {v cv vs cvs} (h : FVal G w v cv []) (t : FVals G w vs cvs []) : FVals G w (v :: vs) (cv :: cvs) [] := FVals.cons h t
end Go.Abs
