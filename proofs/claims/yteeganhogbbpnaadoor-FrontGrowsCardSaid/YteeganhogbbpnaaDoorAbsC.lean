/- Part 3 of Abs: what our evaluation of a function's code says, the machine's run does; no condition of its own. -/
import Derived.Test.YteeganhogbbpnaaDoorAbsB
import Derived.Below
import Derived.OpenShut
import Derived.ChangeArms
import Derived.Carry
import Derived.ChangeBears2
import Derived.MakeChecks
set_option linter.unusedVariables false
set_option linter.unusedSimpArgs false
set_option linter.unusedSectionVars false
namespace Go.Abs
variable [Globs]
open Go Go.RowKit

/-- A law's contract as the row wants it: nothing that came in goes along. -/
theorem Refines.law {P : Program} {f : Nat} {F : CallF} {bs : List AV} {cargs : List Value} {w : World} (H : Refines P f F) (hF : F bs = some (.bool true, []))
    (hgl : GlobOK (fun b => b < w.heap.size) w) (hbs : FVals (Gh.only (fun b => b < w.heap.size) fun _ => False) w bs cargs []) :
    Calls P f ⟨cargs⟩ w fun e w' => e = .returned (.bool true) ∧ Below w.heap.size w w' := by
  refine (H bs _ _ hF _ _ w cargs [] hgl hbs (by simp) (by simp) (by simp)).mono ?_
  rintro e w' ⟨cv, R0', fpr, fpp, rfl, h1, h2, h3, h4, h5, _, _, h8, _⟩
  refine ⟨?_, ⟨h2, h3, h4, h1, fun k hk => h5 k hk (by simp)⟩⟩
  cases h8 with
  | val h =>
    cases h with
    | cell h =>
      cases h with
      | bare _ _ _ hv => cases hv; rfl

theorem FVal.int {G : Gh} {w : World} (k : IntKind) (n : Int) : FVal G w (.int k n) (.int k n) [] := .cell (.bare _ _ rfl (.int k n))
theorem FVal.str {G : Gh} {w : World} (s : ByteArray) : FVal G w (.str s) (.string s) [] := .cell (.bare _ _ rfl (.str s))
theorem FVal.bool {G : Gh} {w : World} (b : Bool) : FVal G w (.bool b) (.bool b) [] := .cell (.bare _ _ rfl (.bool b))
theorem FVals.cons0 {G : Gh} {w : World} {v cv vs cvs} (h : FVal G w v cv []) (t : FVals G w vs cvs []) : FVals G w (v :: vs) (cv :: cvs) [] := FVals.cons h t
end Go.Abs

namespace Go.Abs
variable [Globs]
open Go

/-- the shape of a cell of what comes in from without -/
inductive CSh where
  | int (k : IntKind)
  | bool
  | str
  | sl (row : List CSh)

mutual
/-- a value of the shape -/
def CSh.ok : CSh → AV → Prop
  | .int k, v => ∃ n, v = .int k n ∧ (Lit.int k n).wf = true
  | .bool, v => ∃ b, v = .bool b
  | .str, v => ∃ s : ByteArray, v = .str s ∧ s.size ≤ maxLen
  | .sl row, v => v = .nilS ∨ ∃ rows : List (List AV), v = .ro false row.length rows ∧ rows.length ≤ maxLen ∧ ∀ r, r ∈ rows → okRow row r
def okRow : List CSh → List AV → Prop
  | [], [] => True
  | c :: cs, v :: vs => c.ok v ∧ okRow cs vs
  | _, _ => False
end

theorem okRow.len : ∀ {cs vs}, okRow cs vs → vs.length = cs.length
  | [], [], _ => rfl
  | c :: cs, v :: vs, h => by
    simp only [okRow] at h
    simp [okRow.len h.2]
  | [], _ :: _, h => by simp [okRow] at h
  | _ :: _, [], h => by simp [okRow] at h
theorem okRow.append : ∀ {cs vs ds us}, okRow cs vs → okRow ds us → okRow (cs ++ ds) (vs ++ us)
  | [], [], _, _, _, k => k
  | c :: cs, v :: vs, _, _, h, k => by
    simp only [okRow] at h
    simp only [List.cons_append, okRow]
    exact ⟨h.1, okRow.append h.2 k⟩
  | [], _ :: _, _, _, h, _ => by simp [okRow] at h
  | _ :: _, [], _, _, h, _ => by simp [okRow] at h

theorem okRow.cons_inv {c cs l} (h : okRow (c :: cs) l) : ∃ v vs, l = v :: vs ∧ c.ok v ∧ okRow cs vs := by
  cases l with
  | nil => simp [okRow] at h
  | cons v vs => simp only [okRow] at h; exact ⟨v, vs, rfl, h⟩
theorem okRow.nil_inv {l} (h : okRow [] l) : l = [] := by
  cases l with
  | nil => rfl
  | cons v vs => simp [okRow] at h
theorem okRow.int {k cs l} (h : okRow (.int k :: cs) l) : ∃ n vs, l = .int k n :: vs ∧ (Lit.int k n).wf = true ∧ okRow cs vs := by
  obtain ⟨v, vs, rfl, h1, h2⟩ := h.cons_inv
  obtain ⟨n, rfl, hw⟩ := (by simpa only [CSh.ok] using h1 : ∃ n, v = .int k n ∧ (Lit.int k n).wf = true)
  exact ⟨n, vs, rfl, hw, h2⟩
theorem okRow.bool {cs l} (h : okRow (.bool :: cs) l) : ∃ b vs, l = .bool b :: vs ∧ okRow cs vs := by
  obtain ⟨v, vs, rfl, h1, h2⟩ := h.cons_inv
  obtain ⟨n, rfl⟩ := (by simpa only [CSh.ok] using h1 : ∃ b, v = .bool b)
  exact ⟨n, vs, rfl, h2⟩
theorem okRow.str {cs l} (h : okRow (.str :: cs) l) : ∃ s vs, l = .str s :: vs ∧ s.size ≤ maxLen ∧ okRow cs vs := by
  obtain ⟨v, vs, rfl, h1, h2⟩ := h.cons_inv
  obtain ⟨n, rfl, hw⟩ := (by simpa only [CSh.ok] using h1 : ∃ s : ByteArray, v = .str s ∧ s.size ≤ maxLen)
  exact ⟨n, vs, rfl, hw, h2⟩
theorem okRow.sl {row cs l} (h : okRow (.sl row :: cs) l) : ∃ v vs, l = v :: vs ∧ (v = .nilS ∨ ∃ rows : List (List AV), v = .ro false row.length rows ∧ rows.length ≤ maxLen ∧ ∀ r, r ∈ rows → okRow row r) ∧ okRow cs vs := by
  obtain ⟨v, vs, rfl, h1, h2⟩ := h.cons_inv
  exact ⟨v, vs, rfl, by simpa only [CSh.ok] using h1, h2⟩

theorem CSh.ok_plain {c : CSh} {v : AV} (h : c.ok v) : v.plain = true := by
  cases c with
  | int k => obtain ⟨n, rfl, _⟩ := (by simpa only [CSh.ok] using h : ∃ n, v = .int k n ∧ (Lit.int k n).wf = true); rfl
  | bool => obtain ⟨n, rfl⟩ := (by simpa only [CSh.ok] using h : ∃ b, v = .bool b); rfl
  | str => obtain ⟨n, rfl, _⟩ := (by simpa only [CSh.ok] using h : ∃ s : ByteArray, v = .str s ∧ s.size ≤ maxLen); rfl
  | sl row => rcases (by simpa only [CSh.ok] using h : v = .nilS ∨ ∃ rows : List (List AV), v = .ro false row.length rows ∧ rows.length ≤ maxLen ∧ ∀ r, r ∈ rows → okRow row r) with rfl | ⟨_, rfl, _⟩ <;> rfl
theorem okRow.plain : ∀ {cs vs}, okRow cs vs → vs.all AV.plain = true
  | [], [], _ => rfl
  | c :: cs, v :: vs, h => by
    simp only [okRow] at h
    rw [List.all_cons, CSh.ok_plain h.1, okRow.plain h.2]; rfl
  | [], _ :: _, h => by simp [okRow] at h
  | _ :: _, [], h => by simp [okRow] at h
theorem okRow.get : ∀ {cs vs}, okRow cs vs → ∀ {i : Nat} {c}, cs[i]? = some c → ∃ v, vs[i]? = some v ∧ c.ok v
  | [], [], _, i, c, hc => by simp at hc
  | c :: cs, v :: vs, h, i, c', hc => by
    simp only [okRow] at h
    cases i with
    | zero => simp only [List.getElem?_cons_zero, Option.some.injEq] at hc; subst hc; exact ⟨v, rfl, h.1⟩
    | succ i => rw [List.getElem?_cons_succ] at hc ⊢; exact okRow.get h.2 hc
  | [], _ :: _, h, _, _, _ => by simp [okRow] at h
  | _ :: _, [], h, _, _, _ => by simp [okRow] at h
theorem okRow.gint {cs vs} (h : okRow cs vs) (i : Nat) {k} (hc : cs[i]? = some (.int k)) : ∃ n, vs[i]? = some (.int k n) := by
  obtain ⟨v, h1, h2⟩ := h.get hc
  obtain ⟨n, rfl, _⟩ := (by simpa only [CSh.ok] using h2 : ∃ n, v = .int k n ∧ (Lit.int k n).wf = true)
  exact ⟨n, h1⟩
theorem okRow.gbool {cs vs} (h : okRow cs vs) (i : Nat) (hc : cs[i]? = some .bool) : ∃ n, vs[i]? = some (.bool n) := by
  obtain ⟨v, h1, h2⟩ := h.get hc
  obtain ⟨n, rfl⟩ := (by simpa only [CSh.ok] using h2 : ∃ b, v = .bool b)
  exact ⟨n, h1⟩
theorem okRow.gstr {cs vs} (h : okRow cs vs) (i : Nat) (hc : cs[i]? = some .str) : ∃ s, vs[i]? = some (.str s) := by
  obtain ⟨v, h1, h2⟩ := h.get hc
  obtain ⟨n, rfl, _⟩ := (by simpa only [CSh.ok] using h2 : ∃ s : ByteArray, v = .str s ∧ s.size ≤ maxLen)
  exact ⟨n, h1⟩
theorem okRow.gsl {cs vs row} (h : okRow cs vs) (i : Nat) (hc : cs[i]? = some (.sl row)) : ∃ v, vs[i]? = some v ∧ (v = .nilS ∨ ∃ rows : List (List AV), v = .ro false row.length rows ∧ rows.length ≤ maxLen ∧ ∀ r, r ∈ rows → okRow row r) := by
  obtain ⟨v, h1, h2⟩ := h.get hc
  exact ⟨v, h1, by simpa only [CSh.ok] using h2⟩
theorem take2_get {α : Type} {l : List α} {i : Nat} {a b : α} (h1 : l[i]? = some a) (h2 : l[i + 1]? = some b) : (l.drop i).take 2 = [a, b] := by
  obtain ⟨x1, y1⟩ := List.getElem?_eq_some_iff.1 h1
  obtain ⟨x2, y2⟩ := List.getElem?_eq_some_iff.1 h2
  rw [List.drop_eq_getElem_cons x1, List.drop_eq_getElem_cons x2, y1, y2]
  rfl

def shFs (P : Program) (g : TypeId → Option (List CSh)) : Nat → List Field → Option (List CSh)
  | _, [] => some []
  | off, f :: fs => if f.offset = off then (g f.type).bind fun r => if r.length = P.cellsOf f.type then (shFs P g (off + r.length) fs).map (r ++ ·) else none else none
/-- the cells' shapes of a type -/
def shOf (P : Program) : Nat → TypeId → Option (List CSh)
  | 0, _ => none
  | n + 1, t => match P.underlying t with
    | some .bool => some [.bool]
    | some (.int k) => some [.int k]
    | some .string => some [.str]
    | some (.slice e) => (shOf P n e).bind fun r => if r.length = P.cellsOf e ∧ 0 < r.length then some [.sl r] else none
    | some (.struct fs) => (shFs P (shOf P n) 0 fs.toList).bind fun r => if r.length = P.cellsOf t then some r else none
    | some (.array k e) => (shOf P n e).bind fun r => if r.length = P.cellsOf e ∧ k * r.length = P.cellsOf t then some (List.replicate k r).flatten else none
    | _ => none

abbrev G0 (w : World) : Gh := Gh.only (fun b => b < w.heap.size) fun _ => False

theorem cell_spot {w : World} {a : Addr} {v : Value} (h : w.cell? a = some v) : a.spot = none ∧ a.block < w.heap.size := by
  unfold World.cell? at h
  cases hb : w.heap[a.block]? with
  | none => rw [hb] at h; cases h
  | some o =>
    rw [hb] at h
    refine ⟨?_, (Array.getElem?_eq_some_iff.1 hb).1⟩
    cases o with
    | cells c e z =>
      simp only at h
      cases hs : a.spot with
      | none => rfl
      | some s => rw [hs] at h; simp at h
    | _ => cases h

theorem list_choose {α : Type} {p : Nat → α → Prop} : ∀ n, (∀ i, i < n → ∃ r, p i r) → ∃ l : List α, l.length = n ∧ ∀ (i : Nat) r, l[i]? = some r → p i r
  | 0, _ => ⟨[], rfl, fun i r h => by simp at h⟩
  | n + 1, h => by
    obtain ⟨l, hl, hp⟩ := list_choose n (fun i hi => h i (by omega))
    obtain ⟨r, hr⟩ := h n (by omega)
    refine ⟨l ++ [r], by simp [hl], fun i x hx => ?_⟩
    rcases Nat.lt_or_ge i n with y | y
    · rw [List.getElem?_append_left (by omega)] at hx; exact hp i x hx
    · rw [List.getElem?_append_right (by omega)] at hx
      have : i - l.length = 0 := by
        rcases Nat.eq_zero_or_pos (i - l.length) with z | z
        · exact z
        · rw [List.getElem?_eq_none (by simp; omega)] at hx; cases hx
      rw [this] at hx
      simp at hx
      subst hx
      have : i = n := by omega
      rw [this]; exact hr

theorem take_two {α : Type} (l : List α) (off a b : Nat) : (l.drop off).take (a + b) = (l.drop off).take a ++ (l.drop (off + a)).take b := by
  rw [List.take_add, List.drop_drop]

section
variable {H : Type} {enc : TypeId × Value → H} {P : Program} {w : World} {spare : Nat → Bool} {held : Bool}

/-- cells of a row: their shapes, how they stand to the world's -/
def RowOK (w : World) (row : List CSh) (cs : List Value) : Prop := ∃ avs, okRow row avs ∧ avs.all AV.plain = true ∧ LRel (G0 w) [] 0 w avs cs

theorem RowOK.len {row cs} (h : RowOK w row cs) : cs.length = row.length := by
  obtain ⟨avs, h1, _, h2⟩ := h
  rw [h2.1, h1.len]
theorem RowOK.append {row cs row' cs'} (h : RowOK w row cs) (k : RowOK w row' cs') : RowOK w (row ++ row') (cs ++ cs') := by
  obtain ⟨avs, h1, h2, h3⟩ := h
  obtain ⟨avs', k1, k2, k3⟩ := k
  exact ⟨avs ++ avs', h1.append k1, by rw [List.all_append, h2, k2]; rfl, h3.append k3⟩

theorem shFs_ok {g : TypeId → Option (List CSh)} {cs : List Value} : ∀ (fs : List Field) (off : Nat) (row : List CSh), shFs P g off fs = some row →
    (∀ f, f ∈ fs → ∀ r, g f.type = some r → RowOK w r ((cs.drop f.offset).take (P.cellsOf f.type))) → RowOK w row ((cs.drop off).take row.length)
  | [], off, row, h, _ => by
    simp only [shFs, Option.some.injEq] at h
    subst h
    exact ⟨[], trivial, rfl, by simpa using LRel.nil⟩
  | f :: fs, off, row, h, hf => by
    simp only [shFs] at h
    split at h
    · next ho =>
      rw [Option.bind_eq_some_iff] at h
      obtain ⟨r, hr, h⟩ := h
      split at h
      · next hl =>
        rw [Option.map_eq_some_iff] at h
        obtain ⟨row', hrow, rfl⟩ := h
        have h1 := hf f List.mem_cons_self r hr
        rw [ho, ← hl] at h1
        have h2 := shFs_ok fs _ row' hrow (fun x hx => hf x (List.mem_cons_of_mem _ hx))
        rw [List.length_append, take_two]
        exact h1.append h2
      · cases h
    · cases h

theorem arr_ok {r : List CSh} {cs : List Value} : ∀ (k j : Nat), (∀ i, i < k → RowOK w r ((cs.drop ((j + i) * r.length)).take r.length)) → RowOK w (List.replicate k r).flatten ((cs.drop (j * r.length)).take (k * r.length))
  | 0, j, _ => ⟨[], trivial, rfl, by simpa using LRel.nil⟩
  | k + 1, j, h => by
    have h1 := h 0 (by omega)
    have h2 := arr_ok k (j + 1) (fun i hi => by have := h (i + 1) (by omega); rwa [show j + (i + 1) = j + 1 + i by omega] at this)
    rw [List.replicate_succ, List.flatten_cons, show (k + 1) * r.length = r.length + k * r.length by rw [Nat.add_mul, Nat.one_mul, Nat.add_comm], take_two]
    rw [Nat.add_zero] at h1
    rw [show (j + 1) * r.length = j * r.length + r.length by rw [Nat.add_mul, Nat.one_mul]] at h2
    exact h1.append h2

theorem open_row : ∀ (m n : Nat) (t : TypeId) (cs : List Value) (x : DataW H × List MemPlace) (row : List CSh), shOf P n t = some row → DataW.trod enc P w 0 spare held m t cs = some x → RowOK w row cs
  | 0, _, _, _, _, _, _, h => by simp [DataW.trod] at h
  | m + 1, 0, _, _, _, _, h, _ => by simp [shOf] at h
  | m + 1, n + 1, t, cs, x, row, hs, h => by
    simp only [shOf] at hs
    split at hs
    · next ht =>
      obtain rfl := Option.some.inj hs
      obtain ⟨b, rfl, _⟩ := DataW.trod_bool ht h
      exact ⟨[.bool b], ⟨⟨b, rfl⟩, trivial⟩, rfl, .cons (.bool b) .nil⟩
    · next k ht =>
      obtain rfl := Option.some.inj hs
      obtain ⟨z, rfl, _, hw⟩ := DataW.trod_int ht h
      exact ⟨[.int k z], ⟨⟨z, rfl, hw⟩, trivial⟩, rfl, .cons (.int k z) .nil⟩
    · next ht =>
      obtain rfl := Option.some.inj hs
      obtain ⟨s, rfl, _, hw⟩ := DataW.trod_string ht h
      exact ⟨[.str s], ⟨⟨s, rfl, hw⟩, trivial⟩, rfl, .cons (.str s) .nil⟩
    · next e ht =>
      rw [Option.bind_eq_some_iff] at hs
      obtain ⟨r, hr, hs⟩ := hs
      split at hs
      · next hl =>
        obtain rfl := Option.some.inj hs
        rcases DataW.trod_slice ht h with ⟨rfl, _⟩ | ⟨a, len, cap, elems, rest, n', hn', rfl, _, _, hle, hcm, hel, hget, _, _⟩
        · exact ⟨[.nilS], ⟨.inl rfl, trivial⟩, rfl, .cons .nilS .nil⟩
        · have hn : n' = m := by omega
          subst hn
          have each : ∀ i, i < len → ∃ avs : List AV, okRow r avs ∧ avs.all AV.plain = true ∧ ∃ cs', w.cells? 0 (a.add (i * P.cellsOf e)) (P.cellsOf e) = some cs' ∧ LRel (G0 w) [] 0 w avs cs' := by
            intro i hi
            have h1 := hget i hi
            rw [List.getElem?_eq_getElem (by omega), Option.bind_eq_some_iff] at h1
            obtain ⟨cs', hcs, hx⟩ := h1
            obtain ⟨avs, y1, y2, y3⟩ := open_row n' n e cs' _ r hr hx
            exact ⟨avs, y1, y2, cs', hcs, y3⟩
          obtain ⟨rows, hlen, hrows⟩ := list_choose len each
          have spot : ∀ (i : Nat) row, rows[i]? = some row → ∀ (j : Nat) v, row[j]? = some v → a.spot = none ∧ a.block < w.heap.size := by
            intro i row hi j v hj
            have hi' : i < len := by have := (List.getElem?_eq_some_iff.1 hi).1; omega
            obtain ⟨y1, _, cs', hcs, y3⟩ := hrows i row hi
            have hcc := World.cells?_some hcs
            have hz : 0 < P.cellsOf e := by omega
            -- the first row's first cell
            have h0 : 0 < len := by omega
            obtain ⟨z1, _, ds, hds, z3⟩ := hrows 0 _ (List.getElem?_eq_getElem (by omega))
            have hdd := World.cells?_some hds
            have := hdd.2.2 0 hz
            rw [List.getElem?_eq_getElem (by omega)] at this
            have h2 := cell_spot this
            simpa [Addr.add] using h2
          have cell : ∀ (i j : Nat) row v, rows[i]? = some row → row[j]? = some v → ∃ v', w.cell? ⟨a.block, a.off + (i * r.length + j), none⟩ = some v' ∧ VRel (G0 w) [] 0 w v v' := by
            intro i j row v hi hj
            obtain ⟨y1, _, cs', hcs, y3⟩ := hrows i row hi
            have hcc := World.cells?_some hcs
            obtain ⟨v', hv', hr'⟩ := y3.2 j v hj
            have hjl : j < P.cellsOf e := by have := (List.getElem?_eq_some_iff.1 hv').1; omega
            have h3 := hcc.2.2 j hjl
            rw [hv'] at h3
            refine ⟨v', ?_, hr'⟩
            have hsp := (spot i row hi j v hj).1
            rw [← h3, hl.1]
            congr 1
            cases a with
            | mk b o s =>
              simp only at hsp
              subst hsp
              simp only [Addr.add]
              split
              · next h4 =>
                split
                · next h5 => simp [h5, h4]
                · simp [h4]
              · split
                · next h5 => simp [h5]
                · simp; omega
          refine ⟨[.ro false r.length rows], ⟨.inr ⟨rows, rfl, by omega, fun row hrow => ?_⟩, trivial⟩, rfl, .cons ?_ .nil⟩
          · obtain ⟨i, hi⟩ := List.getElem?_of_mem hrow
            exact (hrows i row hi).1
          · rw [← hlen]
            refine .ro false r.length rows a cap (fun i j => (w.cell? ⟨a.block, a.off + (i * r.length + j), none⟩).getD undef) (by omega) (fun hne => ?_) (fun row hrow => ?_) (fun i j row v hi hj => ?_) (fun i j row v hi hj => ?_)
            · cases rows with
              | nil => exact absurd rfl hne
              | cons row rs =>
                have hrl := (hrows 0 row rfl).1.len
                have : 0 < row.length := by omega
                have h2 := spot 0 row rfl 0 _ (List.getElem?_eq_getElem this)
                exact ⟨h2.2, h2.1, hl.2⟩
            · obtain ⟨i, hi⟩ := List.getElem?_of_mem hrow
              exact ⟨(hrows i row hi).1.len, (hrows i row hi).2.1⟩
            · obtain ⟨v', h1, _⟩ := cell i j row v hi hj
              rw [h1]; rfl
            · obtain ⟨v', h1, h2⟩ := cell i j row v hi hj
              rw [h1]; exact h2
      · cases hs
    · next fs ht =>
      rw [Option.bind_eq_some_iff] at hs
      obtain ⟨r, hr, hs⟩ := hs
      split at hs
      · next hl =>
        obtain rfl := Option.some.inj hs
        obtain ⟨xs, n', hn', _, hcl, hxl, hget⟩ := DataW.trod_struct ht h
        have hn : n' = m := by omega
        subst hn
        have := shFs_ok (P := P) (w := w) (cs := cs) fs.toList 0 r hr (fun f hf r' hr' => by
          obtain ⟨i, hi⟩ := List.getElem?_of_mem hf
          have hi2 : fs[i]? = some f := by simpa using hi
          have h1 := hget i f hi2
          have hil : i < fs.size := (Array.getElem?_eq_some_iff.1 hi2).1
          rw [List.getElem?_eq_getElem (by omega)] at h1
          exact open_row n' n f.type _ _ r' hr' h1)
        rw [List.drop_zero, hl, ← hcl, List.take_length] at this
        exact this
      · cases hs
    · next k e ht =>
      rw [Option.bind_eq_some_iff] at hs
      obtain ⟨r, hr, hs⟩ := hs
      split at hs
      · next hl =>
        obtain rfl := Option.some.inj hs
        obtain ⟨xs, n', hn', _, hcl, hxl, hget⟩ := DataW.trod_array ht h
        have hn : n' = m := by omega
        subst hn
        have := arr_ok (w := w) (r := r) (cs := cs) k 0 (fun i hi => by
          have h1 := hget i hi
          rw [List.getElem?_eq_getElem (by omega), ← hl.1] at h1
          rw [Nat.zero_add]
          exact open_row n' n e _ _ r hr h1)
        rw [Nat.zero_mul, List.drop_zero, hl.2, ← hcl, List.take_length] at this
        exact this
      · cases hs
    · cases hs

/-- what one argument is for the plain machine: of one cell, or a struct or an array -/
def ArgOK (P : Program) (t : TypeId) (row : List CSh) (v : AV) : Prop := if aggB P t = some true then ∃ cs, v = .agg cs ∧ okRow row cs else okRow row [v]

theorem plain_bare {v : AV} (h : v.plain = true) : v.bare = true := by
  cases v <;> simp_all [AV.plain, AV.bare]

theorem FCells.of_plain {G : Gh} : ∀ {avs cs}, avs.all AV.plain = true → LRel G [] 0 w avs cs → FCells G w avs cs []
  | [], cs, _, L => by rw [L.nil_inv]; exact .nil
  | v :: avs, cs, h, L => by
    obtain ⟨v', cs', rfl, h1, h2⟩ := L.cons_inv
    rw [List.all_cons, Bool.and_eq_true] at h
    have := FCells.cons (.bare v v' (plain_bare h.1) h1) (FCells.of_plain h.2 h2)
    simpa using this

/-- an argument is opened -/
theorem open_arg {t : TypeId} {v : Value} {d : DataW H} {ps : List MemPlace} {r : Reach} {base n : Nat} {row : List CSh} (hs : shOf P n t = some row) (ho : Value.okWide P w r base t v)
    (h : DataW.Trod enc P w 0 spare held t v d ps) : ∃ av, ArgOK P t row av ∧ FVal (G0 w) w av v [] := by
  obtain ⟨m, hm⟩ := h
  obtain ⟨avs, h1, h2, h3⟩ := open_row m n t _ _ row hs hm
  unfold ArgOK
  have one : v.cells.toList = [v] → aggB P t ≠ some true → ∃ av, (if aggB P t = some true then ∃ cs, av = .agg cs ∧ okRow row cs else okRow row [av]) ∧ FVal (G0 w) w av v [] := by
    intro hc hn
    rw [hc] at h3
    cases avs with
    | nil => have := h3.1; simp at this
    | cons av r' =>
      cases r' with
      | cons => have := h3.1; simp at this
      | nil =>
        obtain ⟨v', vs', e, y, _⟩ := h3.cons_inv
        obtain ⟨rfl, _⟩ : v = v' ∧ _ := by simpa using e
        simp only [List.all_cons, List.all_nil, Bool.and_true] at h2
        exact ⟨av, by rw [if_neg hn]; exact h1, .cell (.bare _ _ (plain_bare h2) y)⟩
  have many : ∀ cs, v = .agg cs → aggB P t = some true → ∃ av, (if aggB P t = some true then ∃ cs, av = .agg cs ∧ okRow row cs else okRow row [av]) ∧ FVal (G0 w) w av v [] := by
    intro cs hv ha
    subst hv
    refine ⟨.agg avs, by rw [if_pos ha]; exact ⟨avs, rfl, h1⟩, ?_⟩
    have := FVal.agg (FCells.of_plain h2 h3)
    simpa [Value.cells] using this
  cases n with
  | zero => simp [shOf] at hs
  | succ n =>
    simp only [shOf] at hs
    unfold Value.okWide at ho
    split at hs
    · next ht =>
      refine one ?_ (by simp [aggB, ht])
      simp only [ht, Cell.okWide, Cell.ok] at ho
      cases v <;> simp_all [Value.cells]
    · next k ht =>
      refine one ?_ (by simp [aggB, ht])
      simp only [ht, Cell.okWide, Cell.ok] at ho
      cases v <;> simp_all [Value.cells]
    · next ht =>
      refine one ?_ (by simp [aggB, ht])
      simp only [ht, Cell.okWide, Cell.ok] at ho
      cases v <;> simp_all [Value.cells]
    · next e ht =>
      refine one ?_ (by simp [aggB, ht])
      simp only [ht, Cell.okWide, Cell.ok] at ho
      cases v <;> simp_all [Value.cells]
    · next fs ht =>
      rw [ht] at ho
      obtain ⟨cs, hv, _⟩ := ho
      exact many cs hv (by simp [aggB, ht])
    · next k e ht =>
      rw [ht] at ho
      obtain ⟨cs, hv, _⟩ := ho
      exact many cs hv (by simp [aggB, ht])
    · cases hs
end
end Go.Abs

namespace Go.Abs
variable [Globs]
open Go

/-- a table of annotated code: each function is called as it is, and fits -/
def tabOK (P : Program) (T : List (Nat × AFun)) : Bool :=
  T.all fun p => callable P p.1 && (match P.funcs[p.1]? with | some fn => funFit P fn p.2 | none => false)
def lookT : List (Nat × AFun) → Nat → Option AFun
  | [], _ => none
  | (g, a) :: r, f => if Nat.beq g f then some a else lookT r f

/-- what the functions of a table do, n calls deep; T2: code for runs in the caller's memory -/
def Phi (T T2 : List (Nat × AFun)) (K : Nat) : Nat → Nat → Option FnF
  | 0, _ => none
  | n + 1, f => (lookT T f).map fun a => ⟨evFun (Phi T T2 K n) K a, match lookT T2 f with | some a2 => evInl (Phi T T2 K n) K a2 | none => InlF.none, match lookT T2 f with | some a2 => evItr (Phi T T2 K n) K a2 | none => fun _ _ => InlF.none, InlF.none⟩

theorem lookT_mem : ∀ {T f a}, lookT T f = some a → (f, a) ∈ T
  | [], f, a, h => by simp [lookT] at h
  | (g, b) :: r, f, a, h => by
    unfold lookT at h
    split at h
    · next e => rw [Nat.beq_eq] at e; subst e; obtain rfl := Option.some.inj h; exact List.mem_cons_self
    · exact List.mem_cons_of_mem _ (lookT_mem h)

theorem tab_spec {P T f a} (hT : tabOK P T = true) (h : lookT T f = some a) : callable P f = true ∧ ∃ fn, P.funcs[f]? = some fn ∧ funFit P fn a = true := by
  unfold tabOK at hT
  rw [List.all_eq_true] at hT
  have := hT _ (lookT_mem h)
  simp only [Bool.and_eq_true] at this
  refine ⟨this.1, ?_⟩
  cases hf : P.funcs[f]? with
  | none => rw [hf] at this; simp at this
  | some fn => rw [hf] at this; exact ⟨fn, rfl, this.2⟩

theorem tab_refines {P T f a Φ K} (hT : tabOK P T = true) (h : lookT T f = some a) (hΦ : PhiAll P Φ) : Refines P f (evFun Φ K a) := by
  obtain ⟨_, fn, h1, h2⟩ := tab_spec hT h
  exact refines_of h1 h2 hΦ (fun bs r he => ⟨K, he⟩)
theorem tab_inl {P T f a Φ K} (hT : tabOK P T = true) (h : lookT T f = some a) (hΦ : PhiAll P Φ) : RefInl P f (evInl Φ K a) := by
  obtain ⟨_, fn, h1, h2⟩ := tab_spec hT h
  exact inl_fit h1 h2 K hΦ

theorem tab_itr {P T f a Φ K} (hT : tabOK P T = true) (h : lookT T f = some a) (hΦ : PhiAll P Φ) : RefItr P f (evItr Φ K a) := by
  obtain ⟨_, fn, h1, h2⟩ := tab_spec hT h
  exact itr_fit h1 h2 K hΦ

theorem Phi_fn {P T T2 K} (hT : tabOK P T = true) (hT2 : tabOK P T2 = true) (n : Nat) (ih : PhiAll P (Phi T T2 K n)) (f F) (hF : Phi T T2 K (n + 1) f = some F) : FnOK P f F ∧ F.yl = InlF.none := by
  unfold Phi at hF
  rw [Option.map_eq_some_iff] at hF
  obtain ⟨a, ha, rfl⟩ := hF
  refine ⟨⟨.inl (tab_spec hT ha).1, tab_refines hT ha ih, ?_, ?_⟩, rfl⟩
  · show RefInl P f (match lookT T2 f with | some a2 => evInl (Phi T T2 K n) K a2 | none => InlF.none)
    split
    · next a2 h2 => exact tab_inl hT2 h2 ih
    · exact inl_none
  · show RefItr P f (match lookT T2 f with | some a2 => evItr (Phi T T2 K n) K a2 | none => fun _ _ => InlF.none)
    split
    · next a2 h2 => exact tab_itr hT2 h2 ih
    · exact itr_none
theorem Phi_ok {P T T2 K} (hT : tabOK P T = true) (hT2 : tabOK P T2 = true) : ∀ n, PhiAll P (Phi T T2 K n)
  | 0 => fun _ _ _ _ => ⟨fun _ _ h => by simp [Phi] at h, fun _ _ h => by simp [Phi] at h⟩
  | n + 1 => fun G h c w => ⟨fun f F hF => (Phi_fn hT hT2 n (Phi_ok hT hT2 n) f F hF).1, fun nm F hF => by
      rw [(Phi_fn hT hT2 n (Phi_ok hT hT2 n) _ F hF).2]
      exact fun _ _ _ _ _ _ _ _ _ _ _ _ _ hx => by cases hx⟩

/-- function f, n calls deep -/
def Ev (T T2 : List (Nat × AFun)) (K n f : Nat) : CallF := fun bs =>
  match Phi T T2 K n f with
  | some F => F.call bs
  | none => none
/-- iterator f, in the memory of the loop's function -/
def Jv (T T2 : List (Nat × AFun)) (K n f : Nat) : Nat → InlF → InlF := fun nm Y h c bs =>
  match Phi T T2 K n f with
  | some F => F.itr nm Y h c bs
  | none => none
def Iv (T T2 : List (Nat × AFun)) (K n f : Nat) : InlF := fun h c bs =>
  match Phi T T2 K n f with
  | some F => F.inl h c bs
  | none => none

theorem Ev_refines {P T T2 K n f F} (hT : tabOK P T = true) (hT2 : tabOK P T2 = true) (h : Phi T T2 K n f = some F) : Refines P f (Ev T T2 K n f) := by
  have := ((Phi_ok (K := K) hT hT2 n (Gh.only (fun _ => False) (fun _ => False)) [] 0 default).fn f F h).call
  have e : Ev T T2 K n f = F.call := by funext bs; unfold Ev; rw [h]
  rw [e]; exact this
end Go.Abs

namespace Go.Abs
variable [Globs]
open Go
/- lists of cells that name nothing, as wholes -/
@[simp] theorem envOnly_none : ∀ e : Env, envOnly [] e = []
  | [] => rfl
  | (m, v) :: r => by simp [envOnly, envOnly_none r]
@[simp] theorem only_none : ∀ h : AH, AH.only [] h = []
  | [] => rfl
  | e :: r => by simp [AH.only, only_none r]
theorem plain_cell {v : AV} (h : v.plain = true) : v.bare = true ∧ v.cellb = true := by
  cases v with
  | ro t sz rows => cases t <;> simp_all [AV.plain, AV.bare, AV.cellb]
  | _ => simp_all [AV.plain, AV.bare, AV.cellb]
theorem plain_lend {v : AV} (hp : AV.plain v = true) (h : AH) : lendCell h v = some v := by
  have := (plain_cell hp).1
  cases v <;> simp_all [AV.plain, lendCell]
theorem plain_mv {v : AV} (hp : AV.plain v = true) (h : AH) : mvCell h v = some (v, h) := by
  cases v <;> simp_all [AV.plain, mvCell]
theorem plain_in {v : AV} (hp : AV.plain v = true) (h : AH) (c nm : Nat) : inCell h c nm v = some (v, h, c) := by
  have := (plain_cell hp).1
  cases v <;> simp_all [AV.plain, inCell]
theorem plain_low {v : AV} (hp : AV.plain v = true) (ns al) : v.low1 ns al = true := by
  cases v <;> simp_all [AV.plain, AV.low1]
theorem plains_cellb : ∀ {l : List AV}, l.all AV.plain = true → l.all AV.cellb = true
  | [], _ => rfl
  | v :: r, h => by
    rw [List.all_cons, Bool.and_eq_true] at h
    rw [List.all_cons, (plain_cell h.1).2, plains_cellb h.2]; rfl
theorem plains_cells {l : List AV} (h : l.all AV.plain = true) : cellsOK l = true := plains_cellb h
theorem plains_lend : ∀ {l : List AV}, l.all AV.plain = true → ∀ h, lendCells h l = some l
  | [], _, _ => rfl
  | v :: r, hp, h => by
    rw [List.all_cons, Bool.and_eq_true] at hp
    rw [lendCells, plain_lend hp.1, Option.bind_some, plains_lend hp.2]; rfl
theorem plains_mv : ∀ {l : List AV}, l.all AV.plain = true → ∀ h, mvCells h l = some (l, h)
  | [], _, _ => rfl
  | v :: r, hp, h => by
    rw [List.all_cons, Bool.and_eq_true] at hp
    rw [mvCells, plain_mv hp.1, Option.bind_some, plains_mv hp.2]; rfl
theorem plains_in : ∀ {l : List AV}, l.all AV.plain = true → ∀ h c nm, inCells h c nm l = some (l, h, c)
  | [], _, _, _, _ => rfl
  | v :: r, hp, h, c, nm => by
    rw [List.all_cons, Bool.and_eq_true] at hp
    rw [inCells, plain_in hp.1, Option.bind_some, plains_in hp.2]; rfl
theorem plains_low : ∀ {l : List AV}, l.all AV.plain = true → ∀ ns al, lowL ns al l = true
  | [], _, _, _ => rfl
  | v :: r, hp, ns, al => by
    rw [List.all_cons, Bool.and_eq_true] at hp
    rw [lowL, plain_low hp.1, plains_low hp.2]; rfl
/-- equality of a row of cells with itself -/
def kindOK : Nat → AV → Bool
  | 0, .int .. => true
  | 1, .bool _ => true
  | 2, .str _ => true
  | _, _ => false
def kindsOK : List Nat → List AV → Bool
  | [], [] => true
  | k :: ks, v :: vs => kindOK k v && kindsOK ks vs
  | _, _ => false
theorem aeq_self : ∀ {ks : List Nat} {l : List AV}, kindsOK ks l = true → aeqCells ks l l = some true
  | [], [], _ => rfl
  | k :: ks, v :: vs, h => by
    rw [kindsOK, Bool.and_eq_true] at h
    have : aeq1 k v v = some true := by
      have h1 := h.1
      unfold kindOK at h1
      split at h1 <;> simp_all [aeq1]
    rw [aeqCells, this]
    exact aeq_self h.2
  | [], _ :: _, h => by simp [kindsOK] at h
  | _ :: _, [], h => by simp [kindsOK] at h
end Go.Abs

namespace Go.Abs
variable [Globs]
open Go
/- one piece of code behind the other, each with an equation of its own -/
theorem ev_seqN {Φ : Nat → Option FnF} {k : Nat} {a b : AC} {s s1 : St} {r : Option (Ex × St)} (h : ev Φ k a s = some (.normal, s1)) (h2 : ev Φ k b s1 = r) : ev Φ k (.seq a b) s = r := by
  rw [ev, h]; exact h2
theorem ev_seqR {Φ : Nat → Option FnF} {k : Nat} {a b : AC} {s s1 : St} {e : Ex} (he : e ≠ .normal) (h : ev Φ k a s = some (e, s1)) : ev Φ k (.seq a b) s = some (e, s1) := by
  rw [ev, h]
  cases e <;> first | rfl | exact absurd rfl he
theorem ev_keepN {Φ : Nat → Option FnF} {k : Nat} {a : AC} {kt kh : List Nat} {s : St} {r : Option (Ex × St)} (h : ev Φ k a ⟨envOnly kt s.env, s.h.only kh, s.c⟩ = r) : ev Φ k (.keep kt kh a) s = r := h
theorem ev_loopN {Φ : Nat → Option FnF} {k id : Nat} {a b : AC} {kt kh : List Nat} {s s0 s1 : St}
    (h0 : (ev Φ k a s).map (fun q => (q.1, q.2.keep kt kh)) = some (.normal, s0)) (h1 : iter (ev Φ k b) kt kh k s0 = some (.exit id, s1)) : ev Φ k (.seq a (.block id (.loop kt kh b))) s = some (.normal, s1) := by
  rw [Option.map_eq_some_iff] at h0
  obtain ⟨⟨e, q⟩, h2, h3⟩ := h0
  simp only [Prod.mk.injEq] at h3
  obtain ⟨rfl, rfl⟩ := h3
  refine ev_seqN h2 ?_
  rw [ev, ev]
  have : iter (ev Φ k b) kt kh k q = some (.exit id, s1) := by
    rw [← h1]; exact iter_keep _ _ _ _ _
  rw [this]
  simp
theorem ev_loopR {Φ : Nat → Option FnF} {k id : Nat} {a b : AC} {kt kh : List Nat} {s s0 s1 : St}
    (h0 : (ev Φ k a s).map (fun q => (q.1, q.2.keep kt kh)) = some (.normal, s0)) (h1 : iter (ev Φ k b) kt kh k s0 = some (.ret, s1)) : ev Φ k (.seq a (.block id (.loop kt kh b))) s = some (.ret, s1) := by
  rw [Option.map_eq_some_iff] at h0
  obtain ⟨⟨e, q⟩, h2, h3⟩ := h0
  simp only [Prod.mk.injEq] at h3
  obtain ⟨rfl, rfl⟩ := h3
  refine ev_seqN h2 ?_
  rw [ev, ev]
  have : iter (ev Φ k b) kt kh k q = some (.ret, s1) := by
    rw [← h1]; exact iter_keep _ _ _ _ _
  rw [this]
theorem fun_of {Φ : Nat → Option FnF} {k : Nat} {f : AFun} {bs : List AV} {q : List AV × AH × Nat} {s' : St} {e : Ex} {r : AV × List (List AV)} (hn : ¬ f.ntmps < bs.length) (hin : inVals [] 0 100000 bs = some q)
    (hbody : ev Φ k f.code ⟨envOf 0 q.1, q.2.1, q.2.2⟩ = some (e, s')) (he : e = .normal ∨ e = .ret)
    (hres : ((resVals s' f.res).bind fun vs => (outPvs s'.h (argPvs bs q.1)).bind fun ps => (outRes ps.2 (resVal vs)).map fun r => (r.1, ps.1)) = some r) : evFun Φ k f bs = some r := by
  unfold evFun
  rw [if_neg hn, hin, Option.bind_some]
  have : evBody Φ k f ⟨envOf 0 q.1, q.2.1, q.2.2⟩ = some s' := by
    unfold evBody
    rw [hbody]
    rcases he with rfl | rfl <;> rfl
  rw [this, Option.bind_some]
  exact hres
end Go.Abs

namespace Go.Abs
open Go
variable [Globs]
/-- one package-level variable, said to hold these cells -/
def Glob1OK (R0 : Nat → Prop) (w : World) (n : Nat) (cs : List AV) : Prop :=
  R0 n ∧ cs.all AV.plain = true ∧ ∃ vs : List Value, (∀ G h c w, LRel G h c w cs vs) ∧ ∀ (j : Nat) v, vs[j]? = some v → w.cell? ⟨n, j, none⟩ = some v
theorem GlobOK.of_all {R0 : Nat → Prop} {w : World} (h : ∀ p ∈ Globs.gl, Glob1OK R0 w p.1 p.2) : GlobOK R0 w := by
  intro n cs hn
  unfold Globs.look at hn
  generalize Globs.gl = l at *
  induction l with
  | nil => simp [Globs.find] at hn
  | cons p r ih =>
    obtain ⟨m, ds⟩ := p
    simp only [Globs.find] at hn
    split at hn
    · next e =>
      rw [Nat.beq_eq] at e
      subst e
      obtain rfl := Option.some.inj hn
      exact h (m, ds) List.mem_cons_self
    · exact ih (fun p hp => h p (List.mem_cons_of_mem _ hp)) hn
def lits {H : Type} (k : IntKind) (L : List Int) : List (DataW H) := L.map fun x => .lit (.int k x)
def ints (k : IntKind) (L : List Int) : List AV := L.map fun x => .int k x
theorem ints_plain (k : IntKind) : ∀ L : List Int, (ints k L).all AV.plain = true
  | [] => rfl
  | x :: r => by
    have : ints k (x :: r) = .int k x :: ints k r := rfl
    rw [this, List.all_cons, ints_plain k r]; rfl
theorem ints_rel {G : Gh} {h : AH} {c : Nat} {w : World} (k : IntKind) : ∀ L : List Int, LRel G h c w (ints k L) (L.map fun x => Value.int k x)
  | [] => LRel.nil
  | x :: r => LRel.cons (.int k x) (ints_rel k r)
/-- an array of whole numbers, listed by its row -/
theorem glob_arr {P : Program} {W : World} {nm : String} {g t e n fuel : Nat} {k : IntKind} {cs : Array Value} {p : List MemPlace} (L : List Int)
    (hg : P.globalNamed nm = some g) (ht : P.underlying t = some (.array n e)) (he : P.underlying e = some (.int k)) (hc : P.cellsOf e = 1) (hv : W.var? P nm = some cs) (hL : L.length = n)
    (hd : DataW.trod (fun _ => ()) P W 0 (fun _ => true) false fuel t cs.toList = some (.agg (lits k L), p)) :
    Glob1OK (fun b => b < W.heap.size) W g (ints k L) := by
  have hlt : g < W.heap.size := by
    simp only [World.var?, hg, Option.bind_some] at hv
    split at hv
    · next h => exact (Array.getElem?_eq_some_iff.1 h).1
    · cases hv
  refine ⟨hlt, ints_plain k L, L.map fun x => Value.int k x, fun _ _ _ _ => ints_rel k L, fun j v hj => ?_⟩
  obtain ⟨xs, m, _, hx, _, hxl, hget⟩ := DataW.trod_array ht hd
  simp only [Prod.mk.injEq, DataW.agg.injEq] at hx
  rw [List.getElem?_map] at hj
  have hjl : j < L.length := by
    by_cases h : j < L.length
    · exact h
    · rw [List.getElem?_eq_none (by omega)] at hj; cases hj
  rw [List.getElem?_eq_getElem hjl] at hj
  obtain rfl := Option.some.inj hj
  have h1 := hget j (by omega)
  rw [hc, Nat.mul_one, List.getElem?_eq_getElem (by omega)] at h1
  obtain ⟨n', e1, e2, _⟩ := DataW.trod_int he h1
  have h2 : (xs.map (·.1))[j]? = (lits k L : List (DataW Unit))[j]? := by rw [← hx.1]
  rw [List.getElem?_map, List.getElem?_eq_getElem (by omega)] at h2
  simp only [lits, List.getElem?_map, List.getElem?_eq_getElem hjl, Option.map_some, Option.some.injEq] at h2
  rw [e2] at h2
  simp only [DataW.lit.injEq, Lit.int.injEq, true_and] at h2
  subst h2
  have hc2 := World.var?_cell hg hv j
  rw [hc2]
  have h3 : (cs.toList.drop j)[0]? = some (Value.int k L[j]) := by
    have := congrArg (fun l => l[0]?) e1
    simpa [List.getElem?_take] using this
  rw [List.getElem?_drop, Nat.add_zero] at h3
  simpa using h3
end Go.Abs

namespace Go.Abs
open Go
/-- a word of 32 bits, as a whole number -/
def N (x : BitVec 32) : Int := x.toNat
theorem N_nonneg (x : BitVec 32) : 0 ≤ N x := by unfold N; omega
theorem N_lt (x : BitVec 32) : N x < 4294967296 := by unfold N; have := x.isLt; omega
theorem wrap_u32 (n : Int) : IntKind.u32.wrap n = n % 4294967296 := by
  have : IntKind.bits .u32 = 32 := rfl
  simp [IntKind.wrap, IntKind.signed, this]
theorem wrap_u64 (n : Int) : IntKind.u64.wrap n = n % 18446744073709551616 := by
  have : IntKind.bits .u64 = 64 := rfl
  simp [IntKind.wrap, IntKind.signed, this]
theorem N_of (n : Int) (k : Nat) (h : n = (k : Int)) : IntKind.u32.wrap n = N (BitVec.ofNat 32 k) := by
  rw [wrap_u32, h, N, BitVec.toNat_ofNat]; omega
@[simp] theorem N_add (x y : BitVec 32) : IntKind.u32.wrap (N x + N y) = N (x + y) := by
  rw [wrap_u32]; unfold N; rw [BitVec.toNat_add]; omega
@[simp] theorem N_inj (x y : BitVec 32) : N x = N y ↔ x = y := by
  unfold N
  constructor
  · intro h; exact BitVec.eq_of_toNat_eq (by omega)
  · rintro rfl; rfl
theorem ofInt_N (x : BitVec 32) : BitVec.ofInt 32 (N x) = x := by
  apply BitVec.eq_of_toNat_eq
  unfold N
  rw [BitVec.ofInt_natCast, BitVec.toNat_ofNat]
  have := x.isLt
  omega
theorem wrap_toNat (x : BitVec 32) : IntKind.u32.wrap (x.toNat : Int) = N x := by rw [wrap_u32]; unfold N; have := x.isLt; omega
@[simp] theorem N_xor (x y : BitVec 32) : abits .xor .u32 (N x) (N y) = some (.int .u32 (N (x ^^^ y))) := by
  show some (AV.int .u32 (IntKind.u32.wrap ((BitVec.ofInt 32 (N x) ^^^ BitVec.ofInt 32 (N y)).toNat : Int))) = _
  rw [ofInt_N, ofInt_N, wrap_toNat]
@[simp] theorem N_and (x y : BitVec 32) : abits .and .u32 (N x) (N y) = some (.int .u32 (N (x &&& y))) := by
  show some (AV.int .u32 (IntKind.u32.wrap ((BitVec.ofInt 32 (N x) &&& BitVec.ofInt 32 (N y)).toNat : Int))) = _
  rw [ofInt_N, ofInt_N, wrap_toNat]
@[simp] theorem N_or (x y : BitVec 32) : abits .or .u32 (N x) (N y) = some (.int .u32 (N (x ||| y))) := by
  show some (AV.int .u32 (IntKind.u32.wrap ((BitVec.ofInt 32 (N x) ||| BitVec.ofInt 32 (N y)).toNat : Int))) = _
  rw [ofInt_N, ofInt_N, wrap_toNat]
@[simp] theorem N_not (x : BitVec 32) : abits .xor .u32 4294967295 (N x) = some (.int .u32 (N (~~~ x))) := by
  show some (AV.int .u32 (IntKind.u32.wrap ((BitVec.ofInt 32 4294967295 ^^^ BitVec.ofInt 32 (N x)).toNat : Int))) = _
  rw [ofInt_N, show BitVec.ofInt 32 4294967295 = BitVec.allOnes 32 from rfl, BitVec.allOnes_xor, wrap_toNat]
theorem N_shr (x : BitVec 32) (k : Nat) : (N x).fdiv (2 ^ k) = N (x >>> k) := by
  unfold N
  rw [BitVec.toNat_ushiftRight, Nat.shiftRight_eq_div_pow, Int.fdiv_eq_ediv_of_nonneg _ (by exact Int.le_of_lt (Int.pow_pos (by decide)))]
  simp
theorem N_shl (x : BitVec 32) (k : Nat) : IntKind.u32.wrap (N x * 2 ^ k) = N (x <<< k) := by
  rw [wrap_u32]
  unfold N
  rw [BitVec.toNat_shiftLeft, Nat.shiftLeft_eq]
  have : ((x.toNat : Int) * 2 ^ k) = ((x.toNat * 2 ^ k : Nat) : Int) := by simp
  rw [this]; simp
theorem N_mul (x : BitVec 32) (k : Nat) : IntKind.u32.wrap (N x * k) = N (x * BitVec.ofNat 32 k) := by
  rw [wrap_u32]
  unfold N
  rw [BitVec.toNat_mul, BitVec.toNat_ofNat]
  rw [show (x.toNat : Int) * k = ((x.toNat * k : Nat) : Int) by simp, show (2 : Nat) ^ 32 = 4294967296 from rfl]
  rw [Nat.mul_mod x.toNat (k % 4294967296), Nat.mod_mod, ← Nat.mul_mod]
  omega
/-- a byte as a word -/
def wb (b : UInt8) : BitVec 32 := BitVec.ofNat 32 b.toNat
@[simp] theorem N_wb (b : UInt8) : IntKind.u32.wrap (b.toNat : Int) = N (wb b) := N_of _ _ rfl
/-- words as cells -/
def ws (L : List (BitVec 32)) : List AV := L.map fun x => .int .u32 (N x)
@[simp] theorem ws_len (L : List (BitVec 32)) : (ws L).length = L.length := by simp [ws]
theorem ws_get {L : List (BitVec 32)} {i : Nat} (h : i < L.length) : ((ws L).drop i).head? = some (.int .u32 (N (L.getD i 0))) := by
  simp [ws, List.head?_drop, h, List.getD]
theorem ws_set {L : List (BitVec 32)} {i : Nat} (x : BitVec 32) (h : i < L.length) : splice (ws L) i [.int .u32 (N x)] = ws (L.set i x) := by
  unfold splice ws
  rw [List.set_eq_take_append_cons_drop, if_pos h]
  simp
end Go.Abs
namespace Go.Abs
theorem ws_at {L : List (BitVec 32)} {i : Nat} (h : i < L.length) : (ws L)[i]? = some (.int .u32 (N (L.getD i 0))) := by
  simp [ws, h, List.getD]
theorem ws_put (L : List (BitVec 32)) {i : Nat} (x : BitVec 32) (h : i < L.length) : (ws L).take i ++ AV.int .u32 (N x) :: (ws L).drop (i + 1) = ws (L.set i x) := by
  rw [← ws_set x h]; simp [splice]
theorem ws_plain : ∀ L : List (BitVec 32), (ws L).all AV.plain = true
  | [] => rfl
  | x :: r => by
    have : ws (x :: r) = .int .u32 (N x) :: ws r := rfl
    rw [this, List.all_cons, ws_plain r]; rfl
theorem rows_at {l : List UInt8} {i : Nat} (h : i < l.length) : (byteRows l)[i]? = some [.int .u8 (l.getD i 0).toNat] := by
  simp [byteRows, h, List.getD]
theorem rows_len (l : List UInt8) : (byteRows l).length = l.length := by simp [byteRows]
theorem rows_drop (n : Nat) (l : List UInt8) : (byteRows l).drop n = byteRows (l.drop n) := by simp [byteRows]
theorem rows_take (n : Nat) (l : List UInt8) : (byteRows l).take n = byteRows (l.take n) := by simp [byteRows]
theorem rows_append (a b : List UInt8) : byteRows (a ++ b) = byteRows a ++ byteRows b := by simp [byteRows]
end Go.Abs
