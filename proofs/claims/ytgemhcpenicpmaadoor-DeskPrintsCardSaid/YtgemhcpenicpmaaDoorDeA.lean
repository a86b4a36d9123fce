/- Part 1 of De: what our evaluation of a function's code says, the machine's run does; no condition of its own. -/
import Derived.Test.YtgemhcpenicpmaaDoorAbsC
import Derived.Lib.AtoiAllCases
import Derived.Lib.ItoaNum
import Derived.KernelRfl
import Derived.Shelf.Strings.Search2
import Derived.Shelf.Strconv.Itoa3
import Derived.Shelf.Strconv.AtoiAll
import Derived.Below
import Derived.Test.YtgemhcpenicpmaaDoorProg
set_option linter.unusedVariables false
set_option linter.unusedSimpArgs false
set_option linter.unusedSectionVars false
/- The desk's lines, with no program in sight: what a line is read as, by the program's words and by the reference's. -/
namespace Go.Abs.Desk
open Go.Lib
abbrev B := List UInt8
/-- an act -/
structure A where
  k : Int
  r : Int
  n : Int
  m : Int
  c : Int
  t : B
  deriving DecidableEq
/-- words that are read -/
structure Ln where
  rest : B
  more : Bool
  no : Bool
def cut : B → B × B × Bool
  | [] => ([], [], false)
  | c :: r => if c = 32 then ([], r, true) else (c :: (cut r).1, (cut r).2.1, (cut r).2.2)
def word (s : Ln) : B × Ln := if s.more then ((cut s.rest).1, ⟨(cut s.rest).2.1, (cut s.rest).2.2, s.no⟩) else ([], ⟨s.rest, s.more, true⟩)
def num? (w : B) : Option Int := match atoiAll w with
  | .ok n => if w.length ≤ 7 ∧ 0 ≤ n ∧ n ≤ 1000000 ∧ itoa n = w then some n else none
  | _ => none
def number (s : Ln) : Int × Ln := match num? (word s).1 with
  | some n => (n, (word s).2)
  | none => (0, ⟨(word s).2.rest, (word s).2.more, true⟩)
def wTick : B := [116,105,99,107]
def wStart : B := [115,116,97,114,116]
def wDeliver : B := [100,101,108,105,118,101,114]
def wDrop : B := [100,114,111,112]
def wDouble : B := [100,111,117,98,108,101]
def wRetry : B := [114,101,116,114,121]
def wSubmit : B := [115,117,98,109,105,116]
def wCrash : B := [99,114,97,115,104]
def wNow : B := [110,111,119]
def act (s : Ln) (f : B) : A × Ln :=
  if f = wTick then (⟨1, (number s).1, (number (number s).2).1, 0, 0, []⟩, (number (number s).2).2)
  else if f = wStart then (⟨8, (number s).1, (number (number s).2).1, 0, 0, []⟩, (number (number s).2).2)
  else if f = wDeliver then (⟨2, 0, 0, (number s).1, 0, []⟩, (number s).2)
  else if f = wDrop then (⟨3, 0, 0, (number s).1, 0, []⟩, (number s).2)
  else if f = wDouble then (⟨4, 0, 0, (number s).1, 0, []⟩, (number s).2)
  else if f = wRetry then (⟨6, 0, 0, 0, (number s).1, []⟩, (number s).2)
  else if f = wSubmit then (⟨5, (number (number s).2).1, 0, 0, (number s).1, (number (number s).2).2.rest⟩, ⟨(number (number s).2).2.rest, false, (number (number s).2).2.no || !(number (number s).2).2.more⟩)
  else if f = wCrash then
    if (number (number s).2).2.more = true ∧ (number (number s).2).2.rest = wNow then (⟨7, (number s).1, (number (number s).2).1, -1, 0, []⟩, ⟨(number (number s).2).2.rest, false, (number (number s).2).2.no⟩)
    else (⟨7, (number s).1, (number (number s).2).1, (number (number (number s).2).2).1, 0, []⟩, (number (number (number s).2).2).2)
  else (⟨0, 0, 0, 0, 0, []⟩, ⟨s.rest, s.more, true⟩)
def lineOK (s : B) : Prop := s.length ≤ 300 ∧ 10 ∉ s
instance (s : B) : Decidable (lineOK s) := by unfold lineOK; infer_instance
/-- the program's reading -/
def parse (s : B) : Option A :=
  if lineOK s then
    if (act (word ⟨s, true, false⟩).2 (word ⟨s, true, false⟩).1).2.no || (act (word ⟨s, true, false⟩).2 (word ⟨s, true, false⟩).1).2.more then none
    else some (act (word ⟨s, true, false⟩).2 (word ⟨s, true, false⟩).1).1
  else none
def may (n : Int) : Prop := 0 ≤ n ∧ n ≤ 1000000
instance (n : Int) : Decidable (may n) := by unfold may; infer_instance
def nums : List Int → B
  | [] => []
  | n :: l => 32 :: (itoa n ++ nums l)
/-- acts with their lines -/
inductive Canon : A → B → Prop
  | tick (r n) : may r → may n → Canon ⟨1, r, n, 0, 0, []⟩ (wTick ++ nums [r, n])
  | start (r n) : may r → may n → Canon ⟨8, r, n, 0, 0, []⟩ (wStart ++ nums [r, n])
  | deliver (m) : may m → Canon ⟨2, 0, 0, m, 0, []⟩ (wDeliver ++ nums [m])
  | drop (m) : may m → Canon ⟨3, 0, 0, m, 0, []⟩ (wDrop ++ nums [m])
  | double (m) : may m → Canon ⟨4, 0, 0, m, 0, []⟩ (wDouble ++ nums [m])
  | retry (c) : may c → Canon ⟨6, 0, 0, 0, c, []⟩ (wRetry ++ nums [c])
  | submit (c r t) : may c → may r → Canon ⟨5, r, 0, 0, c, t⟩ (wSubmit ++ (nums [c, r] ++ 32 :: t))
  | now (r n) : may r → may n → Canon ⟨7, r, n, -1, 0, []⟩ (wCrash ++ (nums [r, n] ++ 32 :: wNow))
  | crash (r n m) : may r → may n → may m → Canon ⟨7, r, n, m, 0, []⟩ (wCrash ++ nums [r, n, m])

/- ---------------------------------------------------------------- numbers -/
theorem digit_toNat {d : Nat} (h : d < 10) : (UInt8.ofNat (48 + d)).toNat = 48 + d := by
  simp [UInt8.toNat_ofNat']; omega
theorem decDigits_dig : ∀ (u : Nat), ∀ c ∈ decDigits u, 48 ≤ c.toNat ∧ c.toNat ≤ 57 := by
  intro u
  induction u using Nat.strongRecOn with
  | ind u ih =>
    intro c hc
    rw [decDigits] at hc
    split at hc
    · next h =>
      rw [List.mem_singleton] at hc
      subst hc
      rw [digit_toNat h]; omega
    · next h =>
      rw [List.mem_append, List.mem_singleton] at hc
      rcases hc with hc | rfl
      · exact ih _ (by omega) c hc
      · rw [digit_toNat (Nat.mod_lt _ (by omega))]; omega
theorem decDigits_ne (u : Nat) : decDigits u ≠ [] := by
  rw [decDigits]; split <;> simp
theorem parse_snoc : ∀ (l : B) (acc : Nat) (c : UInt8), parseUint10 acc (l ++ [c]) = match parseUint10 acc l with
    | .ok v => parseUint10 v [c]
    | e => e
  | [], acc, c => rfl
  | d :: l, acc, c => by
    simp only [List.cons_append, parseUint10]
    split
    · split
      · rfl
      · split
        · rfl
        · rw [parse_snoc l]; rfl
    · rfl
theorem parse_dec : ∀ (u : Nat), u ≤ 1000000 → parseUint10 0 (decDigits u) = .ok u := by
  intro u
  induction u using Nat.strongRecOn with
  | ind u ih =>
    intro hu
    rw [decDigits]
    split
    · next h =>
      simp only [parseUint10]
      rw [digit_toNat h, if_pos (by omega), if_neg (by omega), if_neg (by omega)]
      congr 1; omega
    · next h =>
      rw [parse_snoc, ih _ (by omega) (by omega)]
      simp only [parseUint10]
      rw [digit_toNat (Nat.mod_lt _ (by omega)), if_pos (by omega), if_neg (by omega), if_neg (by omega)]
      congr 1; omega
theorem atoi_dec (u : Nat) (hu : u ≤ 1000000) : atoiAll (decDigits u) = .ok (u : Int) := by
  have hd := decDigits_dig u
  have hp := parse_dec u hu
  have hne := decDigits_ne u
  cases hl : decDigits u with
  | nil => exact absurd hl hne
  | cons c r =>
    rw [hl] at hd hp
    have hc := hd c List.mem_cons_self
    have h1 : ¬ (c.toNat = 43 ∨ c.toNat = 45) := by omega
    have h2 : ¬ (c.toNat = 45) := by omega
    unfold atoiAll
    simp only [if_neg h1]
    unfold parseMag
    rw [if_neg (by simp), hp]
    simp only [h2, false_and, if_false, not_false_eq_true, true_and]
    rw [if_neg (by omega)]
theorem nDigits_le : ∀ (k u : Nat), 1 ≤ k → u < 10 ^ k → nDigits u ≤ k
  | 0, _, h, _ => by omega
  | 1, u, _, h => by rw [nDigits_small (by simpa using h)]; exact Nat.le_refl _
  | k + 2, u, _, h => by
    by_cases hu : u < 10
    · rw [nDigits_small hu]; omega
    · rw [nDigits_big hu]
      have := nDigits_le (k + 1) (u / 10) (by omega) (by rw [Nat.pow_succ] at h; omega)
      omega
theorem itoa_may {n : Int} (h : may n) : ∃ u : Nat, n = u ∧ u ≤ 1000000 ∧ itoa n = decDigits u := by
  obtain ⟨h0, h1⟩ := h
  obtain ⟨u, rfl⟩ := Int.eq_ofNat_of_zero_le h0
  exact ⟨u, rfl, by omega, by unfold itoa; rw [if_neg (by omega)]; simp⟩
theorem num_itoa {n : Int} (h : may n) : num? (itoa n) = some n := by
  obtain ⟨u, rfl, hu, e⟩ := itoa_may h
  unfold num?
  rw [e, atoi_dec u hu]
  have : (decDigits u).length ≤ 7 := by
    rw [decDigits_length]
    by_cases h6 : u < 10 ^ 7
    · exact nDigits_le 7 u (by omega) h6
    · exfalso; have : (10 : Nat) ^ 7 = 10000000 := by decide
      omega
  simp only []
  rw [if_pos ⟨this, by omega, by omega, e⟩]
theorem num_inv {w : B} {n : Int} (h : num? w = some n) : may n ∧ w = itoa n := by
  unfold num? at h
  split at h
  · split at h
    · next hc => obtain rfl := Option.some.inj h; exact ⟨⟨hc.2.1, hc.2.2.1⟩, hc.2.2.2.symm⟩
    · cases h
  · cases h
theorem itoa_dig {n : Int} (h : may n) : ∀ c ∈ itoa n, 48 ≤ c.toNat ∧ c.toNat ≤ 57 := by
  obtain ⟨u, rfl, hu, e⟩ := itoa_may h
  rw [e]; exact decDigits_dig u
theorem itoa_no {n : Int} (h : may n) {c : UInt8} (hc : c.toNat < 48 ∨ 57 < c.toNat) : c ∉ itoa n := fun hm => by
  have := itoa_dig h c hm; omega

/- ---------------------------------------------------------------- the program's words -/
theorem cut_spec : ∀ l : B, l = (cut l).1 ++ (if (cut l).2.2 then 32 :: (cut l).2.1 else []) ∧ 32 ∉ (cut l).1
  | [] => by simp [cut]
  | c :: r => by
    obtain ⟨h1, h2⟩ := cut_spec r
    by_cases hc : c = 32
    · simp [cut, hc]
    · simp only [cut, if_neg hc, List.cons_append, List.cons.injEq, true_and, List.mem_cons, not_or]
      exact ⟨h1, fun e => hc e.symm, h2⟩
theorem cut_hit : ∀ (w r : B), 32 ∉ w → cut (w ++ 32 :: r) = (w, r, true)
  | [], r, _ => by simp [cut]
  | c :: w, r, h => by
    simp only [List.mem_cons, not_or] at h
    simp [cut, Ne.symm h.1, cut_hit w r h.2]
theorem cut_miss : ∀ (w : B), 32 ∉ w → cut w = (w, [], false)
  | [], _ => rfl
  | c :: w, h => by
    simp only [List.mem_cons, not_or] at h
    simp [cut, Ne.symm h.1, cut_miss w h.2]
def tl (s : Ln) : B := if s.more then 32 :: s.rest else []
theorem word_inv {s : Ln} (h : (word s).2.no = false) : s.no = false ∧ tl s = 32 :: ((word s).1 ++ tl (word s).2) := by
  unfold word at h ⊢
  unfold tl
  split at h
  · next hm =>
    simp only [hm, ↓reduceIte]
    refine ⟨h, ?_⟩
    congr 1
    exact (cut_spec s.rest).1
  · simp at h
theorem number_inv {s : Ln} (h : (number s).2.no = false) : s.no = false ∧ may (number s).1 ∧ tl s = 32 :: (itoa (number s).1 ++ tl (number s).2) := by
  unfold number at h ⊢
  cases hn : num? (word s).1 with
  | none => rw [hn] at h; simp at h
  | some n =>
    rw [hn] at h
    simp only at h ⊢
    obtain ⟨h1, h2⟩ := word_inv h
    obtain ⟨h3, h4⟩ := num_inv hn
    exact ⟨h1, h3, by rw [← h4]; exact h2⟩
theorem tl_nil {s : Ln} (h : s.more = false) : tl s = [] := by simp [tl, h]
/-- two numbers, and one -/
theorem two_inv {s : Ln} (h : (number (number s).2).2.no = false) : s.no = false ∧ may (number s).1 ∧ may (number (number s).2).1 ∧ tl s = nums [(number s).1, (number (number s).2).1] ++ tl (number (number s).2).2 := by
  obtain ⟨h1, m2, e2⟩ := number_inv h
  obtain ⟨h0, m1, e1⟩ := number_inv h1
  exact ⟨h0, m1, m2, by rw [e1, e2]; simp [nums]⟩
theorem one_inv {s : Ln} (h : (number s).2.no = false) : s.no = false ∧ may (number s).1 ∧ tl s = nums [(number s).1] ++ tl (number s).2 := by
  obtain ⟨h0, m1, e1⟩ := number_inv h
  exact ⟨h0, m1, by rw [e1]; simp [nums]⟩
theorem act_inv {s : Ln} {f : B} (hn : (act s f).2.no = false) (hm : (act s f).2.more = false) : Canon (act s f).1 (f ++ tl s) := by
  unfold act at hn hm ⊢
  by_cases h1 : f = wTick
  · simp only [if_pos h1] at hn hm ⊢
    obtain ⟨_, m1, m2, e⟩ := two_inv hn
    rw [e, tl_nil hm, List.append_nil, h1]; exact .tick _ _ m1 m2
  simp only [if_neg h1] at hn hm ⊢
  by_cases h2 : f = wStart
  · simp only [if_pos h2] at hn hm ⊢
    obtain ⟨_, m1, m2, e⟩ := two_inv hn
    rw [e, tl_nil hm, List.append_nil, h2]; exact .start _ _ m1 m2
  simp only [if_neg h2] at hn hm ⊢
  by_cases h3 : f = wDeliver
  · simp only [if_pos h3] at hn hm ⊢
    obtain ⟨_, m1, e⟩ := one_inv hn
    rw [e, tl_nil hm, List.append_nil, h3]; exact .deliver _ m1
  simp only [if_neg h3] at hn hm ⊢
  by_cases h4 : f = wDrop
  · simp only [if_pos h4] at hn hm ⊢
    obtain ⟨_, m1, e⟩ := one_inv hn
    rw [e, tl_nil hm, List.append_nil, h4]; exact .drop _ m1
  simp only [if_neg h4] at hn hm ⊢
  by_cases h5 : f = wDouble
  · simp only [if_pos h5] at hn hm ⊢
    obtain ⟨_, m1, e⟩ := one_inv hn
    rw [e, tl_nil hm, List.append_nil, h5]; exact .double _ m1
  simp only [if_neg h5] at hn hm ⊢
  by_cases h6 : f = wRetry
  · simp only [if_pos h6] at hn hm ⊢
    obtain ⟨_, m1, e⟩ := one_inv hn
    rw [e, tl_nil hm, List.append_nil, h6]; exact .retry _ m1
  simp only [if_neg h6] at hn hm ⊢
  by_cases h7 : f = wSubmit
  · simp only [if_pos h7] at hn hm ⊢
    simp only [Bool.or_eq_false_iff, Bool.not_eq_false'] at hn
    obtain ⟨_, m1, m2, e⟩ := two_inv hn.1
    rw [e, h7]
    have : tl (number (number s).2).2 = 32 :: (number (number s).2).2.rest := by simp [tl, hn.2]
    rw [this]; exact .submit _ _ _ m1 m2
  simp only [if_neg h7] at hn hm ⊢
  by_cases h8 : f = wCrash
  · simp only [if_pos h8] at hn hm ⊢
    by_cases h9 : (number (number s).2).2.more = true ∧ (number (number s).2).2.rest = wNow
    · simp only [if_pos h9] at hn hm ⊢
      obtain ⟨_, m1, m2, e⟩ := two_inv hn
      have : tl (number (number s).2).2 = 32 :: wNow := by simp [tl, h9.1, h9.2]
      rw [e, h8, this]; exact .now _ _ m1 m2
    · simp only [if_neg h9] at hn hm ⊢
      obtain ⟨h10, m3, e3⟩ := number_inv hn
      obtain ⟨_, m1, m2, e⟩ := two_inv h10
      rw [e, e3, h8, tl_nil hm]
      have := Canon.crash _ _ _ m1 m2 m3
      simpa [nums] using this
  simp [if_neg h8] at hn
theorem parse_inv {s : B} {a : A} (h : parse s = some a) : lineOK s ∧ Canon a s := by
  unfold parse at h
  split at h
  · next hl =>
    refine ⟨hl, ?_⟩
    split at h
    · cases h
    · next hc =>
      obtain rfl := Option.some.inj h
      simp only [Bool.or_eq_true, not_or, Bool.not_eq_true] at hc
      obtain ⟨hno, hmore⟩ := hc
      have hw : s = (word ⟨s, true, false⟩).1 ++ tl (word ⟨s, true, false⟩).2 := by
        have := (cut_spec s).1
        simpa [word, tl] using this
      have := act_inv hno hmore
      rwa [← hw] at this
  · cases h

/- ---------------------------------------------------------------- what is printed is read -/
/-- t: nothing, or something behind a blank -/
def Tl (t : B) : Prop := t = [] ∨ ∃ r, t = 32 :: r
def lnOf (t : B) : Ln := ⟨t.tail, !t.isEmpty, false⟩
theorem word_ok {w t : B} (hw : 32 ∉ w) (ht : Tl t) {s : Ln} (hm : s.more = true) (hn : s.no = false) (hr : s.rest = w ++ t) : word s = (w, lnOf t) := by
  unfold word
  rw [if_pos hm, hr, hn]
  rcases ht with rfl | ⟨r, rfl⟩
  · rw [List.append_nil, cut_miss w hw]; rfl
  · rw [cut_hit w r hw]; rfl
theorem number_ok {n : Int} {t : B} (hn : may n) (ht : Tl t) : number (lnOf (32 :: (itoa n ++ t))) = (n, lnOf t) := by
  have := word_ok (w := itoa n) (itoa_no hn (by decide)) ht (s := lnOf (32 :: (itoa n ++ t))) rfl rfl rfl
  unfold number
  rw [this]
  simp only [num_itoa hn]
theorem tl_nums : ∀ (l : List Int), Tl (nums l)
  | [] => .inl rfl
  | _ :: _ => .inr ⟨_, rfl⟩
theorem first_ok {f t : B} (hf : 32 ∉ f) (ht : Tl t) : word ⟨f ++ t, true, false⟩ = (f, lnOf t) := word_ok hf ht rfl rfl rfl
theorem tl_app : ∀ (l : List Int) {u : B}, Tl u → Tl (nums l ++ u)
  | [], _, h => h
  | _ :: _, _, _ => .inr ⟨_, rfl⟩
theorem num_step {n : Int} {l : List Int} {u : B} (hn : may n) (hu : Tl u) : number (lnOf (nums (n :: l) ++ u)) = (n, lnOf (nums l ++ u)) := by
  have := number_ok hn (tl_app l hu)
  simpa [nums] using this
theorem num_step1 {n : Int} {l : List Int} (hn : may n) : number (lnOf (nums (n :: l))) = (n, lnOf (nums l)) := by
  have := num_step (l := l) hn (u := []) (.inl rfl)
  simpa using this
theorem now_ne {m : Int} (h : may m) : (lnOf (nums [m])).rest ≠ wNow := by
  have hd := itoa_dig h
  have e : (lnOf (nums [m])).rest = itoa m := by simp [lnOf, nums]
  rw [e]
  intro e2
  have := hd 110 (by rw [e2]; decide)
  revert this; decide
theorem act_ok {a : A} {s : B} (h : Canon a s) : ∃ f t, s = f ++ t ∧ 32 ∉ f ∧ Tl t ∧ (act (lnOf t) f).1 = a ∧ (act (lnOf t) f).2.no = false ∧ (act (lnOf t) f).2.more = false := by
  cases h with
  | tick r n m1 m2 =>
    refine ⟨wTick, nums [r, n], rfl, by decide, tl_nums _, ?_⟩
    simp only [act, ↓reduceIte, num_step1 m1, num_step1 m2]
    refine ⟨?_, ?_, ?_⟩ <;> first | rfl | trivial
  | start r n m1 m2 =>
    refine ⟨wStart, nums [r, n], rfl, by decide, tl_nums _, ?_⟩
    simp only [act, if_neg (show ¬ wStart = wTick by decide), ↓reduceIte, num_step1 m1, num_step1 m2]
    refine ⟨?_, ?_, ?_⟩ <;> first | rfl | trivial
  | deliver m m1 =>
    refine ⟨wDeliver, nums [m], rfl, by decide, tl_nums _, ?_⟩
    simp only [act, if_neg (show ¬ wDeliver = wTick by decide), if_neg (show ¬ wDeliver = wStart by decide), ↓reduceIte, num_step1 m1]
    refine ⟨?_, ?_, ?_⟩ <;> first | rfl | trivial
  | drop m m1 =>
    refine ⟨wDrop, nums [m], rfl, by decide, tl_nums _, ?_⟩
    simp only [act, if_neg (show ¬ wDrop = wTick by decide), if_neg (show ¬ wDrop = wStart by decide), if_neg (show ¬ wDrop = wDeliver by decide), ↓reduceIte, num_step1 m1]
    refine ⟨?_, ?_, ?_⟩ <;> first | rfl | trivial
  | double m m1 =>
    refine ⟨wDouble, nums [m], rfl, by decide, tl_nums _, ?_⟩
    simp only [act, if_neg (show ¬ wDouble = wTick by decide), if_neg (show ¬ wDouble = wStart by decide), if_neg (show ¬ wDouble = wDeliver by decide), if_neg (show ¬ wDouble = wDrop by decide), ↓reduceIte, num_step1 m1]
    refine ⟨?_, ?_, ?_⟩ <;> first | rfl | trivial
  | retry m m1 =>
    refine ⟨wRetry, nums [m], rfl, by decide, tl_nums _, ?_⟩
    simp only [act, if_neg (show ¬ wRetry = wTick by decide), if_neg (show ¬ wRetry = wStart by decide), if_neg (show ¬ wRetry = wDeliver by decide), if_neg (show ¬ wRetry = wDrop by decide), if_neg (show ¬ wRetry = wDouble by decide), ↓reduceIte, num_step1 m1]
    refine ⟨?_, ?_, ?_⟩ <;> first | rfl | trivial
  | submit c r t m1 m2 =>
    have ht : Tl (32 :: t) := .inr ⟨t, rfl⟩
    refine ⟨wSubmit, nums [c, r] ++ 32 :: t, rfl, by decide, tl_app _ ht, ?_⟩
    simp only [act, if_neg (show ¬ wSubmit = wTick by decide), if_neg (show ¬ wSubmit = wStart by decide), if_neg (show ¬ wSubmit = wDeliver by decide), if_neg (show ¬ wSubmit = wDrop by decide), if_neg (show ¬ wSubmit = wDouble by decide), if_neg (show ¬ wSubmit = wRetry by decide), ↓reduceIte, num_step m1 ht, num_step m2 ht]
    refine ⟨?_, ?_, ?_⟩ <;> first | rfl | trivial
  | now r n m1 m2 =>
    have ht : Tl (32 :: wNow) := .inr ⟨wNow, rfl⟩
    refine ⟨wCrash, nums [r, n] ++ 32 :: wNow, rfl, by decide, tl_app _ ht, ?_⟩
    simp only [act, if_neg (show ¬ wCrash = wTick by decide), if_neg (show ¬ wCrash = wStart by decide), if_neg (show ¬ wCrash = wDeliver by decide), if_neg (show ¬ wCrash = wDrop by decide), if_neg (show ¬ wCrash = wDouble by decide), if_neg (show ¬ wCrash = wRetry by decide), if_neg (show ¬ wCrash = wSubmit by decide), ↓reduceIte, num_step m1 ht, num_step m2 ht]
    rw [if_pos ⟨rfl, rfl⟩]
    refine ⟨?_, ?_, ?_⟩ <;> first | rfl | trivial
  | crash r n m m1 m2 m3 =>
    refine ⟨wCrash, nums [r, n, m], rfl, by decide, tl_nums _, ?_⟩
    simp only [act, if_neg (show ¬ wCrash = wTick by decide), if_neg (show ¬ wCrash = wStart by decide), if_neg (show ¬ wCrash = wDeliver by decide), if_neg (show ¬ wCrash = wDrop by decide), if_neg (show ¬ wCrash = wDouble by decide), if_neg (show ¬ wCrash = wRetry by decide), if_neg (show ¬ wCrash = wSubmit by decide), ↓reduceIte, num_step1 m1, num_step1 m2, num_step1 m3]
    rw [if_neg (fun h => now_ne m3 h.2)]
    refine ⟨?_, ?_, ?_⟩ <;> first | rfl | trivial
theorem parse_ok {a : A} {s : B} (h : Canon a s) (hl : lineOK s) : parse s = some a := by
  obtain ⟨f, t, rfl, hf, ht, h1, h2, h3⟩ := act_ok h
  unfold parse
  rw [if_pos hl, first_ok hf ht]
  simp only [h1, h2, h3, Bool.or_self, Bool.false_eq_true, ↓reduceIte]
theorem parse_iff {a : A} {s : B} : parse s = some a ↔ lineOK s ∧ Canon a s := ⟨parse_inv, fun h => parse_ok h.2 h.1⟩

/- ---------------------------------------------------------------- the reference -/
def words : Nat → B → List B
  | 0, l => [l]
  | k + 1, l => if (cut l).2.2 then (cut l).1 :: words k (cut l).2.1 else [l]
def refnum (l : B) : Int := (l.take 9).foldl (fun n c => if 48 ≤ c.toNat ∧ c.toNat ≤ 57 then 10 * n + ((c.toNat : Int) - 48) else n) 0
def gu (ws : List B) (i : Nat) : Int := match ws[i]? with | some w => refnum w | none => 0
def guess (s : B) : A :=
  let ws := words 3 s
  let f := (ws[0]?).getD []
  if f = wTick then ⟨1, gu ws 1, gu ws 2, 0, 0, []⟩
  else if f = wStart then ⟨8, gu ws 1, gu ws 2, 0, 0, []⟩
  else if f = wDeliver then ⟨2, 0, 0, gu ws 1, 0, []⟩
  else if f = wDrop then ⟨3, 0, 0, gu ws 1, 0, []⟩
  else if f = wDouble then ⟨4, 0, 0, gu ws 1, 0, []⟩
  else if f = wRetry then ⟨6, 0, 0, 0, gu ws 1, []⟩
  else if f = wSubmit then (if ws.length = 4 then ⟨5, gu ws 2, 0, 0, gu ws 1, (ws[3]?).getD []⟩ else ⟨0, 0, 0, 0, 0, []⟩)
  else if f = wCrash then ⟨7, gu ws 1, gu ws 2, if ws.length = 4 ∧ ws[3]? = some wNow then -1 else gu ws 3, 0, []⟩
  else ⟨0, 0, 0, 0, 0, []⟩
def fields (a : A) : Prop := may a.r ∧ may a.n ∧ may a.c ∧ (may a.m ∨ a.m = -1 ∧ a.k = 7)
instance (a : A) : Decidable (fields a) := by unfold fields; infer_instance
def text (a : A) : B :=
  if a.k = 1 then wTick ++ nums [a.r, a.n]
  else if a.k = 8 then wStart ++ nums [a.r, a.n]
  else if a.k = 2 then wDeliver ++ nums [a.m]
  else if a.k = 3 then wDrop ++ nums [a.m]
  else if a.k = 4 then wDouble ++ nums [a.m]
  else if a.k = 5 then wSubmit ++ (nums [a.c, a.r] ++ 32 :: a.t)
  else if a.k = 6 then wRetry ++ nums [a.c]
  else if a.k = 7 then if a.m < 0 then wCrash ++ (nums [a.r, a.n] ++ 32 :: wNow) else wCrash ++ nums [a.r, a.n, a.m]
  else []
def rparse (s : B) : Option A := if lineOK s then if (guess s).k = 0 ∨ ¬ fields (guess s) ∨ text (guess s) ≠ s then none else some (guess s) else none
def print (a : A) : Option B := if parse (text a) = some a then some (text a) else none
def rprint (a : A) : Option B := if fields a then if rparse (text a) = some a then some (text a) else none else none
theorem m0 : may 0 := by decide
theorem canon_text {a : A} {s : B} (h : Canon a s) : text a = s ∧ fields a ∧ a.k ≠ 0 := by
  cases h with
  | tick r n m1 m2 => exact ⟨rfl, ⟨m1, m2, m0, .inl m0⟩, by simp⟩
  | start r n m1 m2 => exact ⟨rfl, ⟨m1, m2, m0, .inl m0⟩, by simp⟩
  | deliver m m1 => exact ⟨rfl, ⟨m0, m0, m0, .inl m1⟩, by simp⟩
  | drop m m1 => exact ⟨rfl, ⟨m0, m0, m0, .inl m1⟩, by simp⟩
  | double m m1 => exact ⟨rfl, ⟨m0, m0, m0, .inl m1⟩, by simp⟩
  | retry c m1 => exact ⟨rfl, ⟨m0, m0, m1, .inl m0⟩, by simp⟩
  | submit c r t m1 m2 => exact ⟨rfl, ⟨m2, m0, m1, .inl m0⟩, by simp⟩
  | now r n m1 m2 => exact ⟨rfl, ⟨m1, m2, m0, .inr ⟨rfl, rfl⟩⟩, by simp⟩
  | crash r n m m1 m2 m3 =>
    refine ⟨?_, ⟨m1, m2, m0, .inl m3⟩, by simp⟩
    have : ¬ m < 0 := by have := m3.1; omega
    simp [text, this]
theorem guess_canon {s : B} (hf : fields (guess s)) (hk : (guess s).k ≠ 0) : Canon (guess s) (text (guess s)) := by
  unfold guess at hf hk ⊢
  generalize words 3 s = ws at hf hk ⊢
  simp only at hf hk ⊢
  generalize (ws[0]?).getD [] = f at hf hk ⊢
  by_cases h1 : f = wTick
  · simp only [if_pos h1] at hf hk ⊢; exact .tick _ _ hf.1 hf.2.1
  simp only [if_neg h1] at hf hk ⊢
  by_cases h2 : f = wStart
  · simp only [if_pos h2] at hf hk ⊢; exact .start _ _ hf.1 hf.2.1
  simp only [if_neg h2] at hf hk ⊢
  have one : ∀ {m k : Int}, k ≠ 7 → (may m ∨ m = -1 ∧ k = 7) → may m := by
    intro m k hk h; rcases h with h | h
    · exact h
    · exact absurd h.2 hk
  by_cases h3 : f = wDeliver
  · simp only [if_pos h3] at hf hk ⊢; exact .deliver _ (one (by simp) hf.2.2.2)
  simp only [if_neg h3] at hf hk ⊢
  by_cases h4 : f = wDrop
  · simp only [if_pos h4] at hf hk ⊢; exact .drop _ (one (by simp) hf.2.2.2)
  simp only [if_neg h4] at hf hk ⊢
  by_cases h5 : f = wDouble
  · simp only [if_pos h5] at hf hk ⊢; exact .double _ (one (by simp) hf.2.2.2)
  simp only [if_neg h5] at hf hk ⊢
  by_cases h6 : f = wRetry
  · simp only [if_pos h6] at hf hk ⊢; exact .retry _ hf.2.2.1
  simp only [if_neg h6] at hf hk ⊢
  by_cases h7 : f = wSubmit
  · simp only [if_pos h7] at hf hk ⊢
    by_cases h8 : ws.length = 4
    · simp only [if_pos h8] at hf hk ⊢; exact .submit _ _ _ hf.2.2.1 hf.1
    · simp only [if_neg h8] at hk; exact absurd rfl hk
  simp only [if_neg h7] at hf hk ⊢
  by_cases h8 : f = wCrash
  · simp only [if_pos h8] at hf hk ⊢
    generalize (if ws.length = 4 ∧ ws[3]? = some wNow then (-1 : Int) else gu ws 3) = m at hf hk ⊢
    rcases hf.2.2.2 with hm | hm
    · have e := (canon_text (.crash _ _ _ hf.1 hf.2.1 hm)).1
      rw [e]; exact .crash _ _ _ hf.1 hf.2.1 hm
    · obtain rfl : m = -1 := hm.1
      exact .now _ _ hf.1 hf.2.1
  simp only [if_neg h8] at hk
  exact absurd rfl hk
/- a number's digits say it -/
def dstep (n : Int) (c : UInt8) : Int := if 48 ≤ c.toNat ∧ c.toNat ≤ 57 then 10 * n + ((c.toNat : Int) - 48) else n
theorem fold_dec : ∀ (u : Nat), (decDigits u).foldl dstep 0 = u := by
  intro u
  induction u using Nat.strongRecOn with
  | ind u ih =>
    rw [decDigits]
    split
    · next h =>
      simp only [List.foldl_cons, List.foldl_nil, dstep]
      rw [digit_toNat h, if_pos (by omega)]; omega
    · next h =>
      rw [List.foldl_append, ih _ (by omega)]
      simp only [List.foldl_cons, List.foldl_nil, dstep]
      rw [digit_toNat (Nat.mod_lt _ (by omega)), if_pos (by omega)]; omega
theorem refnum_itoa {n : Int} (h : may n) : refnum (itoa n) = n := by
  obtain ⟨u, rfl, hu, e⟩ := itoa_may h
  unfold refnum
  have : (decDigits u).length ≤ 7 := by
    rw [decDigits_length]
    by_cases h6 : u < 10 ^ 7
    · exact nDigits_le 7 u (by omega) h6
    · exfalso; have : (10 : Nat) ^ 7 = 10000000 := by decide
      omega
  rw [e, List.take_of_length_le (by omega)]
  exact fold_dec u
theorem cut_f (f t : B) (hf : 32 ∉ f) : cut (f ++ 32 :: t) = (f, t, true) := cut_hit f t hf
theorem words_hit {k : Nat} {f t : B} (hf : 32 ∉ f) : words (k + 1) (f ++ 32 :: t) = f :: words k t := by
  simp [words, cut_hit f t hf]
theorem words_miss {k : Nat} {f : B} (hf : 32 ∉ f) : words k f = [f] := by
  cases k with
  | zero => rfl
  | succ k => simp [words, cut_miss f hf]
theorem itoa_32 {n : Int} (h : may n) : 32 ∉ itoa n := itoa_no h (by decide)
theorem words1 {f : B} {a : Int} (hf : 32 ∉ f) (ha : may a) : words 3 (f ++ nums [a]) = [f, itoa a] := by
  simp only [nums, List.append_nil]
  rw [words_hit hf, words_miss (itoa_32 ha)]
theorem words2 {f : B} {a b : Int} (hf : 32 ∉ f) (ha : may a) (hb : may b) : words 3 (f ++ nums [a, b]) = [f, itoa a, itoa b] := by
  simp only [nums, List.append_nil]
  rw [words_hit hf, words_hit (itoa_32 ha), words_miss (itoa_32 hb)]
theorem words3 {f t : B} {a b : Int} (hf : 32 ∉ f) (ha : may a) (hb : may b) : words 3 (f ++ (nums [a, b] ++ 32 :: t)) = [f, itoa a, itoa b, t] := by
  simp only [nums, List.append_nil, List.cons_append, List.append_assoc]
  rw [words_hit hf, words_hit (itoa_32 ha), words_hit (itoa_32 hb)]
  rfl
theorem itoa_now {m : Int} (h : may m) : itoa m ≠ wNow := by
  intro e2
  have := itoa_dig h 110 (by rw [e2]; decide)
  revert this; decide
theorem guess_text {a : A} {s : B} (h : Canon a s) : guess s = a := by
  cases h with
  | tick r n m1 m2 => unfold guess; rw [words2 (by decide) m1 m2]; simp [gu, refnum_itoa, m1, m2]
  | start r n m1 m2 => unfold guess; rw [words2 (by decide) m1 m2]; simp [gu, refnum_itoa, m1, m2, show ¬ wStart = wTick by decide]
  | deliver m m1 => unfold guess; rw [words1 (by decide) m1]; simp [gu, refnum_itoa, m1, show ¬ wDeliver = wTick by decide, show ¬ wDeliver = wStart by decide]
  | drop m m1 => unfold guess; rw [words1 (by decide) m1]; simp [gu, refnum_itoa, m1, show ¬ wDrop = wTick by decide, show ¬ wDrop = wStart by decide, show ¬ wDrop = wDeliver by decide]
  | double m m1 => unfold guess; rw [words1 (by decide) m1]; simp [gu, refnum_itoa, m1, show ¬ wDouble = wTick by decide, show ¬ wDouble = wStart by decide, show ¬ wDouble = wDeliver by decide, show ¬ wDouble = wDrop by decide]
  | retry c m1 => unfold guess; rw [words1 (by decide) m1]; simp [gu, refnum_itoa, m1, show ¬ wRetry = wTick by decide, show ¬ wRetry = wStart by decide, show ¬ wRetry = wDeliver by decide, show ¬ wRetry = wDrop by decide, show ¬ wRetry = wDouble by decide]
  | submit c r t m1 m2 => unfold guess; rw [words3 (by decide) m1 m2]; simp [gu, refnum_itoa, m1, m2, show ¬ wSubmit = wTick by decide, show ¬ wSubmit = wStart by decide, show ¬ wSubmit = wDeliver by decide, show ¬ wSubmit = wDrop by decide, show ¬ wSubmit = wDouble by decide, show ¬ wSubmit = wRetry by decide]
  | now r n m1 m2 => unfold guess; rw [words3 (by decide) m1 m2]; simp [gu, refnum_itoa, m1, m2, show ¬ wCrash = wTick by decide, show ¬ wCrash = wStart by decide, show ¬ wCrash = wDeliver by decide, show ¬ wCrash = wDrop by decide, show ¬ wCrash = wDouble by decide, show ¬ wCrash = wRetry by decide, show ¬ wCrash = wSubmit by decide]
  | crash r n m m1 m2 m3 =>
    unfold guess
    have e : nums [r, n, m] = nums [r, n] ++ 32 :: itoa m := by simp [nums]
    rw [e, words3 (by decide) m1 m2]
    simp [gu, refnum_itoa, m1, m2, m3, itoa_now m3, show ¬ wCrash = wTick by decide, show ¬ wCrash = wStart by decide, show ¬ wCrash = wDeliver by decide, show ¬ wCrash = wDrop by decide, show ¬ wCrash = wDouble by decide, show ¬ wCrash = wRetry by decide, show ¬ wCrash = wSubmit by decide]
theorem rparse_iff {a : A} {s : B} : rparse s = some a ↔ lineOK s ∧ Canon a s := by
  constructor
  · intro h
    unfold rparse at h
    split at h
    · next hl =>
      split at h
      · cases h
      · next hc =>
        simp only [not_or, Decidable.not_not] at hc
        obtain rfl := Option.some.inj h
        have := guess_canon hc.2.1 hc.1
        rw [hc.2.2] at this
        exact ⟨hl, this⟩
    · cases h
  · rintro ⟨hl, hc⟩
    obtain ⟨h1, h2, h3⟩ := canon_text hc
    unfold rparse
    rw [if_pos hl, guess_text hc, if_neg (by simp [h1, h2, h3])]
theorem parse_eq (s : B) : parse s = rparse s := by
  cases h : rparse s with
  | some a => exact parse_iff.2 (rparse_iff.1 h)
  | none =>
    cases h2 : parse s with
    | none => rfl
    | some a => rw [rparse_iff.2 (parse_iff.1 h2)] at h; cases h
theorem print_eq (a : A) : print a = rprint a := by
  unfold print rprint
  rw [parse_eq]
  by_cases hf : fields a
  · rw [if_pos hf]
  · rw [if_neg hf, if_neg]
    intro h
    exact hf (canon_text (rparse_iff.1 h).2).2.1
theorem print_parse {a : A} {s : B} (h : parse s = some a) : print a = some s := by
  have hc := (parse_iff.1 h).2
  unfold print
  rw [(canon_text hc).1, if_pos h]
theorem parse_print {a : A} {s : B} (h : print a = some s) : parse s = some a := by
  unfold print at h
  split at h
  · next h2 => rw [← Option.some.inj h]; exact h2
  · cases h
end Go.Abs.Desk

namespace Go.Abs.Tryd
open Go Go.Abs
def glob1 : List AV := [.ifc]
def glob2 : List AV := [.ifc]
def glob3 : List AV := [.int .u64 1, .int .u64 10, .int .u64 100, .int .u64 1000, .int .u64 10000, .int .u64 100000, .int .u64 1000000, .int .u64 10000000, .int .u64 100000000, .int .u64 1000000000, .int .u64 10000000000, .int .u64 100000000000, .int .u64 1000000000000, .int .u64 10000000000000, .int .u64 100000000000000, .int .u64 1000000000000000, .int .u64 10000000000000000, .int .u64 100000000000000000, .int .u64 1000000000000000000, .int .u64 10000000000000000000]
instance : Globs := ⟨[(1, glob1), (2, glob2), (3, glob3)]⟩
def z24 : List AV := [(.int .i64 0), (.int .i64 0), (.int .i64 0), (.int .i64 0), (.int .i64 0), (.str ⟨#[]⟩)]
def z36 : List AV := [(.str ⟨#[]⟩), (.bool false), (.bool false)]
def z49 : List AV := [(.int .i64 0), (.int .i64 0), (.int .i64 0), (.int .i64 0)]

/-- estreat/estreatlaw21.DeskParses: parameters string -/
def c3 : AC :=
  (.seq (.reg false [
    { dst := some 2, op := .mov (.c (.bool false)) }])
  ((.seq ((.seq (.reg false [
    { dst := some 9, op := .mov (.t 0) },
    { dst := some 10, op := .lenS (.t 9) },
    { dst := some 11, op := .bin .gtr (.t 10) (.c (.int .i64 262144)) }])
  (.cond (.t 11) ((.seq (.reg false [
    { dst := some 2, op := .mov (.c (.bool true)) }])
  (.ret))) (.skip))))
  (.keep [0] [] ((.seq (.reg false [
    { dst := some 13, op := .mov (.t 0) },
    { dst := some 14, op := .call 15000 5 [(.t 13)] },
    { dst := some 12, op := .mov (.t 14) },
    { dst := some 15, op := .ext 0 (.t 12) },
    { dst := some 16, op := .ext 1 (.t 12) },
    { dst := some 3, op := .alloc 3 z24 },
    { dst := none, op := .store 6 (.t 3) (.t 15) },
    { dst := some 4, op := .mov (.t 16) }])
  (.keep [0, 3, 4] [3] ((.seq (.reg false [
    { dst := some 18, op := .mov (.t 0) },
    { dst := some 19, op := .call 20000 6 [(.t 18)] },
    { dst := some 17, op := .mov (.t 19) },
    { dst := some 20, op := .ext 0 (.t 17) },
    { dst := some 21, op := .ext 1 (.t 17) },
    { dst := some 5, op := .alloc 5 z24 },
    { dst := none, op := .store 6 (.t 5) (.t 20) },
    { dst := some 6, op := .mov (.t 21) }])
  (.keep [0, 3, 4, 5, 6] [3, 5] ((.seq ((.seq (.reg false [
    { dst := some 22, op := .mov (.t 4) },
    { dst := some 23, op := .mov (.t 6) },
    { dst := some 24, op := .bin .neq (.t 22) (.t 23) },
    { dst := some 25, op := .mov (.t 24) },
    { dst := some 26, op := .load (some 6) (.t 3), guard := some (25, false) },
    { dst := some 27, op := .load (some 6) (.t 5), guard := some (25, false) },
    { dst := some 28, op := .eqa true [0, 0, 0, 0, 0, 2] (.t 26) (.t 27), guard := some (25, false) },
    { dst := some 29, op := .pick (.t 25) (.c (.bool true)) (.t 28) }])
  (.cond (.t 29) ((.seq (.reg false [
    { dst := some 2, op := .mov (.c (.bool false)) }])
  (.ret))) (.skip))))
  (.keep [0, 3, 4] [3] ((.seq ((.seq (.reg false [
    { dst := some 30, op := .mov (.t 4) },
    { dst := some 31, op := .bin .neq (.t 30) (.c (.int .i64 0)) }])
  (.cond (.t 31) ((.seq (.reg false [
    { dst := some 32, op := .call 33000 7 [] },
    { dst := some 2, op := .mov (.t 32) }])
  (.ret))) (.skip))))
  (.keep [0, 3] [3] ((.seq (.reg false [
    { dst := some 34, op := .load (some 6) (.t 3) },
    { dst := some 35, op := .call 36000 8 [(.t 34)] },
    { dst := some 33, op := .mov (.t 35) },
    { dst := some 36, op := .ext 0 (.t 33) },
    { dst := some 37, op := .ext 1 (.t 33) },
    { dst := some 7, op := .mov (.t 36) },
    { dst := some 8, op := .mov (.t 37) }])
  (.keep [0, 7, 8] [] ((.seq (.reg false [
    { dst := some 38, op := .call 39000 7 [] },
    { dst := some 39, op := .mov (.t 38) },
    { dst := some 40, op := .mov (.t 8), guard := some (39, true) },
    { dst := some 41, op := .bin .eql (.t 40) (.c (.int .i64 0)), guard := some (39, true) },
    { dst := some 42, op := .pick (.t 39) (.t 41) (.c (.bool false)) },
    { dst := some 43, op := .mov (.t 42) },
    { dst := some 44, op := .mov (.t 7), guard := some (43, true) },
    { dst := some 45, op := .mov (.t 0), guard := some (43, true) },
    { dst := some 46, op := .bin .eql (.t 44) (.t 45), guard := some (43, true) },
    { dst := some 47, op := .pick (.t 43) (.t 46) (.c (.bool false)) },
    { dst := some 2, op := .mov (.t 47) }])
  (.ret))))))))))))))))))))))
/-- with its results -/
def a3 : AFun := ⟨c3, [(2, none)], 48⟩

/-- estreat/estreatlaw21.DeskPrints: parameters api.Act -/
def c4 : AC :=
  (.seq (.reg false [
    { dst := some 1, op := .box 1 (.t 0) },
    { dst := some 2, op := .mov (.c (.bool false)) }])
  ((.seq ((.seq (.reg false [
    { dst := some 9, op := .fad 5 (.t 1) },
    { dst := some 10, op := .load none (.t 9) },
    { dst := some 11, op := .lenS (.t 10) },
    { dst := some 12, op := .bin .gtr (.t 11) (.c (.int .i64 262144)) }])
  (.cond (.t 12) ((.seq (.reg false [
    { dst := some 2, op := .mov (.c (.bool true)) }])
  (.ret))) (.skip))))
  (.keep [1] [1] ((.seq (.reg false [
    { dst := some 14, op := .load (some 6) (.t 1) },
    { dst := some 15, op := .call 16000 8 [(.t 14)] },
    { dst := some 13, op := .mov (.t 15) },
    { dst := some 16, op := .ext 0 (.t 13) },
    { dst := some 17, op := .ext 1 (.t 13) },
    { dst := some 3, op := .mov (.t 16) },
    { dst := some 4, op := .mov (.t 17) }])
  (.keep [1, 3, 4] [1] ((.seq (.reg false [
    { dst := some 19, op := .load (some 6) (.t 1) },
    { dst := some 20, op := .call 21000 9 [(.t 19)] },
    { dst := some 18, op := .mov (.t 20) },
    { dst := some 21, op := .ext 0 (.t 18) },
    { dst := some 22, op := .ext 1 (.t 18) },
    { dst := some 5, op := .mov (.t 21) },
    { dst := some 6, op := .mov (.t 22) }])
  (.keep [1, 3, 4, 5, 6] [1] ((.seq ((.seq (.reg false [
    { dst := some 23, op := .mov (.t 4) },
    { dst := some 24, op := .mov (.t 6) },
    { dst := some 25, op := .bin .neq (.t 23) (.t 24) },
    { dst := some 26, op := .mov (.t 25) },
    { dst := some 27, op := .mov (.t 3), guard := some (26, false) },
    { dst := some 28, op := .mov (.t 5), guard := some (26, false) },
    { dst := some 29, op := .bin .neq (.t 27) (.t 28), guard := some (26, false) },
    { dst := some 30, op := .pick (.t 26) (.c (.bool true)) (.t 29) }])
  (.cond (.t 30) ((.seq (.reg false [
    { dst := some 2, op := .mov (.c (.bool false)) }])
  (.ret))) (.skip))))
  (.keep [1, 3, 4] [1] ((.seq ((.seq (.reg false [
    { dst := some 31, op := .mov (.t 4) },
    { dst := some 32, op := .bin .neq (.t 31) (.c (.int .i64 0)) }])
  (.cond (.t 32) ((.seq (.reg false [
    { dst := some 33, op := .call 34000 7 [] },
    { dst := some 2, op := .mov (.t 33) }])
  (.ret))) (.skip))))
  (.keep [1, 3] [1] ((.seq (.reg false [
    { dst := some 35, op := .mov (.t 3) },
    { dst := some 36, op := .call 37000 5 [(.t 35)] },
    { dst := some 34, op := .mov (.t 36) },
    { dst := some 37, op := .ext 0 (.t 34) },
    { dst := some 38, op := .ext 1 (.t 34) },
    { dst := some 7, op := .alloc 7 z24 },
    { dst := none, op := .store 6 (.t 7) (.t 37) },
    { dst := some 8, op := .mov (.t 38) }])
  (.keep [1, 7, 8] [1, 7] ((.seq (.reg false [
    { dst := some 39, op := .call 40000 7 [] },
    { dst := some 40, op := .mov (.t 39) },
    { dst := some 41, op := .mov (.t 8), guard := some (40, true) },
    { dst := some 42, op := .bin .eql (.t 41) (.c (.int .i64 0)), guard := some (40, true) },
    { dst := some 43, op := .pick (.t 40) (.t 42) (.c (.bool false)) },
    { dst := some 44, op := .mov (.t 43) },
    { dst := some 45, op := .load (some 6) (.t 1), guard := some (44, true) },
    { dst := some 46, op := .load (some 6) (.t 7), guard := some (44, true) },
    { dst := some 47, op := .eqa false [0, 0, 0, 0, 0, 2] (.t 45) (.t 46), guard := some (44, true) },
    { dst := some 48, op := .pick (.t 44) (.t 47) (.c (.bool false)) },
    { dst := some 2, op := .mov (.t 48) }])
  (.ret))))))))))))))))))))))
/-- with its results -/
def a4 : AFun := ⟨c4, [(2, none)], 49⟩

/-- estreat/desk.Parse: parameters string -/
def c5 : AC :=
  (.seq (.reg false [
    { dst := some 2, op := .alloc 2 z24 },
    { dst := some 3, op := .mov (.c (.int .i64 0)) }])
  ((.seq ((.seq (.reg false [
    { dst := some 6, op := .mov (.t 0) },
    { dst := some 7, op := .lenS (.t 6) },
    { dst := some 8, op := .bin .gtr (.t 7) (.c (.int .i64 300)) },
    { dst := some 9, op := .mov (.t 8) },
    { dst := some 10, op := .mov (.t 0), guard := some (9, false) },
    { dst := some 11, op := .call 12000 10 [(.t 10), (.c (.str ⟨#[10]⟩))], guard := some (9, false) },
    { dst := some 12, op := .pick (.t 9) (.c (.bool true)) (.t 11) }])
  (.cond (.t 12) ((.seq (.reg false [
    { dst := some 13, op := .build z24 [] },
    { dst := none, op := .store 6 (.t 2) (.t 13) },
    { dst := some 3, op := .mov (.c (.int .i64 200)) }])
  (.ret))) (.skip))))
  (.keep [0, 2] [2] ((.seq (.reg false [
    { dst := some 14, op := .mov (.t 0) },
    { dst := some 15, op := .build z36 [(0, 1, (.t 14)), (1, 1, (.c (.bool true)))] },
    { dst := some 16, op := .box 16 (.t 15) },
    { dst := some 4, op := .mov (.t 16) }])
  (.keep [2, 4] [2, 16] ((.seq (.reg false [
    { dst := some 17, op := .mov (.t 4) },
    { dst := some 18, op := .mov (.t 4) },
    { dst := some 19, op := .call 20000 12 [(.t 18)] },
    { dst := some 20, op := .call 21000 11 [(.t 17), (.t 19)] },
    { dst := some 5, op := .alloc 5 z24 },
    { dst := none, op := .store 6 (.t 5) (.t 20) }])
  (.keep [2, 4, 5] [2, 5, 16] ((.seq ((.seq (.reg false [
    { dst := some 21, op := .mov (.t 4) },
    { dst := some 22, op := .nilck (.t 21) },
    { dst := some 23, op := .fad 2 (.t 22) },
    { dst := some 24, op := .load none (.t 23) },
    { dst := some 25, op := .mov (.t 24) },
    { dst := some 26, op := .mov (.t 4), guard := some (25, false) },
    { dst := some 27, op := .nilck (.t 26), guard := some (25, false) },
    { dst := some 28, op := .fad 1 (.t 27), guard := some (25, false) },
    { dst := some 29, op := .load none (.t 28), guard := some (25, false) },
    { dst := some 30, op := .pick (.t 25) (.c (.bool true)) (.t 29) }])
  (.cond (.t 30) ((.seq (.reg false [
    { dst := some 31, op := .build z24 [] },
    { dst := none, op := .store 6 (.t 2) (.t 31) },
    { dst := some 3, op := .mov (.c (.int .i64 200)) }])
  (.ret))) (.skip))))
  (.keep [2, 5] [2, 5] ((.seq (.reg false [
    { dst := some 32, op := .load (some 6) (.t 5) },
    { dst := none, op := .store 6 (.t 2) (.t 32) },
    { dst := some 3, op := .mov (.c (.int .i64 0)) }])
  (.ret))))))))))))))))
/-- with its results -/
def a5 : AFun := ⟨c5, [(2, some (some 6)), (3, none)], 33⟩

/-- estreat/estreatref21.Parse: parameters string -/
def c6 : AC :=
  (.seq (.reg false [
    { dst := some 2, op := .alloc 2 z24 },
    { dst := some 3, op := .mov (.c (.int .i64 0)) }])
  ((.seq ((.seq (.reg false [
    { dst := some 5, op := .mov (.t 0) },
    { dst := some 6, op := .call 7000 13 [(.t 5)] },
    { dst := some 7, op := .un .not (.t 6) }])
  (.cond (.t 7) ((.seq (.reg false [
    { dst := some 8, op := .build z24 [] },
    { dst := none, op := .store 6 (.t 2) (.t 8) },
    { dst := some 3, op := .mov (.c (.int .i64 200)) }])
  (.ret))) (.skip))))
  (.keep [0, 2] [2] ((.seq (.reg false [
    { dst := some 9, op := .mov (.t 0) },
    { dst := some 10, op := .call 11000 14 [(.t 9)] },
    { dst := some 4, op := .alloc 4 z24 },
    { dst := none, op := .store 6 (.t 4) (.t 10) }])
  (.keep [0, 2, 4] [2, 4] ((.seq ((.seq (.reg false [
    { dst := some 11, op := .fad 0 (.t 4) },
    { dst := some 12, op := .load none (.t 11) },
    { dst := some 13, op := .bin .eql (.t 12) (.c (.int .i64 0)) },
    { dst := some 14, op := .mov (.t 13) },
    { dst := some 15, op := .load (some 6) (.t 4), guard := some (14, false) },
    { dst := some 16, op := .call 17000 15 [(.t 15)], guard := some (14, false) },
    { dst := some 17, op := .un .not (.t 16), guard := some (14, false) },
    { dst := some 18, op := .pick (.t 14) (.c (.bool true)) (.t 17) },
    { dst := some 19, op := .mov (.t 18) },
    { dst := some 20, op := .load (some 6) (.t 4), guard := some (19, false) },
    { dst := some 21, op := .call 22000 16 [(.t 20)], guard := some (19, false) },
    { dst := some 22, op := .mov (.t 0), guard := some (19, false) },
    { dst := some 23, op := .bin .neq (.t 21) (.t 22), guard := some (19, false) },
    { dst := some 24, op := .pick (.t 19) (.c (.bool true)) (.t 23) }])
  (.cond (.t 24) ((.seq (.reg false [
    { dst := some 25, op := .build z24 [] },
    { dst := none, op := .store 6 (.t 2) (.t 25) },
    { dst := some 3, op := .mov (.c (.int .i64 200)) }])
  (.ret))) (.skip))))
  (.keep [2, 4] [2, 4] ((.seq (.reg false [
    { dst := some 26, op := .load (some 6) (.t 4) },
    { dst := none, op := .store 6 (.t 2) (.t 26) },
    { dst := some 3, op := .mov (.c (.int .i64 0)) }])
  (.ret)))))))))))))
/-- with its results -/
def a6 : AFun := ⟨c6, [(2, some (some 6)), (3, none)], 27⟩

/-- estreat/estreatlaw21.reads: parameters  -/
def c7 : AC :=
  (.seq (.reg false [
    { dst := some 0, op := .mov (.c (.bool false)) }])
  ((.seq (.reg false [
    { dst := some 8, op := .call 9000 5 [(.c (.str ⟨#[115, 117, 98, 109, 105, 116, 32, 49, 32, 50, 32, 97, 32, 98]⟩))] },
    { dst := some 7, op := .mov (.t 8) },
    { dst := some 9, op := .ext 0 (.t 7) },
    { dst := some 10, op := .ext 1 (.t 7) },
    { dst := some 1, op := .alloc 1 z24 },
    { dst := none, op := .store 6 (.t 1) (.t 9) },
    { dst := some 2, op := .mov (.t 10) }])
  (.keep [1, 2] [1] ((.seq (.reg false [
    { dst := some 12, op := .call 13000 5 [(.c (.str ⟨#[116, 105, 99, 107, 32, 48, 49, 32, 49]⟩))] },
    { dst := some 11, op := .mov (.t 12) },
    { dst := some 13, op := .ext 0 (.t 11) },
    { dst := some 14, op := .ext 1 (.t 11) },
    { dst := some 3, op := .alloc 3 z24 },
    { dst := none, op := .store 6 (.t 3) (.t 13) },
    { dst := some 4, op := .mov (.t 14) }])
  (.keep [1, 2, 4] [1] ((.seq (.reg false [
    { dst := some 16, op := .build z24 [(0, 1, (.c (.int .i64 7))), (1, 1, (.c (.int .i64 2))), (2, 1, (.c (.int .i64 3))), (3, 1, (.c (.int .i64 (-1))))] },
    { dst := some 17, op := .call 18000 8 [(.t 16)] },
    { dst := some 15, op := .mov (.t 17) },
    { dst := some 18, op := .ext 0 (.t 15) },
    { dst := some 19, op := .ext 1 (.t 15) },
    { dst := some 5, op := .mov (.t 18) },
    { dst := some 6, op := .mov (.t 19) }])
  (.keep [1, 2, 4, 5, 6] [1] ((.seq (.reg false [
    { dst := some 20, op := .mov (.t 2) },
    { dst := some 21, op := .bin .eql (.t 20) (.c (.int .i64 0)) },
    { dst := some 22, op := .mov (.t 21) },
    { dst := some 23, op := .fad 4 (.t 1), guard := some (22, true) },
    { dst := some 24, op := .load none (.t 23), guard := some (22, true) },
    { dst := some 25, op := .bin .eql (.t 24) (.c (.int .i64 1)), guard := some (22, true) },
    { dst := some 26, op := .pick (.t 22) (.t 25) (.c (.bool false)) },
    { dst := some 27, op := .mov (.t 26) },
    { dst := some 28, op := .fad 1 (.t 1), guard := some (27, true) },
    { dst := some 29, op := .load none (.t 28), guard := some (27, true) },
    { dst := some 30, op := .bin .eql (.t 29) (.c (.int .i64 2)), guard := some (27, true) },
    { dst := some 31, op := .pick (.t 27) (.t 30) (.c (.bool false)) },
    { dst := some 32, op := .mov (.t 31) },
    { dst := some 33, op := .fad 5 (.t 1), guard := some (32, true) },
    { dst := some 34, op := .load none (.t 33), guard := some (32, true) },
    { dst := some 35, op := .bin .eql (.t 34) (.c (.str ⟨#[97, 32, 98]⟩)), guard := some (32, true) },
    { dst := some 36, op := .pick (.t 32) (.t 35) (.c (.bool false)) },
    { dst := some 37, op := .mov (.t 36) },
    { dst := some 38, op := .mov (.t 4), guard := some (37, true) },
    { dst := some 39, op := .bin .eql (.t 38) (.c (.int .i64 200)), guard := some (37, true) },
    { dst := some 40, op := .pick (.t 37) (.t 39) (.c (.bool false)) },
    { dst := some 41, op := .mov (.t 40) },
    { dst := some 42, op := .mov (.t 6), guard := some (41, true) },
    { dst := some 43, op := .bin .eql (.t 42) (.c (.int .i64 0)), guard := some (41, true) },
    { dst := some 44, op := .pick (.t 41) (.t 43) (.c (.bool false)) },
    { dst := some 45, op := .mov (.t 44) },
    { dst := some 46, op := .mov (.t 5), guard := some (45, true) },
    { dst := some 47, op := .bin .eql (.t 46) (.c (.str ⟨#[99, 114, 97, 115, 104, 32, 50, 32, 51, 32, 110, 111, 119]⟩)), guard := some (45, true) },
    { dst := some 48, op := .pick (.t 45) (.t 47) (.c (.bool false)) },
    { dst := some 0, op := .mov (.t 48) }])
  (.ret)))))))))))))
/-- with its results -/
def a7 : AFun := ⟨c7, [(0, none)], 49⟩

/-- estreat/desk.Print: parameters api.Act -/
def c8 : AC :=
  (.seq (.reg false [
    { dst := some 1, op := .box 1 (.t 0) },
    { dst := some 2, op := .mov (.c (.str ⟨#[]⟩)) },
    { dst := some 3, op := .mov (.c (.int .i64 0)) }])
  ((.seq (.reg false [
    { dst := some 7, op := .load (some 6) (.t 1) },
    { dst := some 8, op := .call 9000 17 [(.t 7)] },
    { dst := some 4, op := .mov (.t 8) }])
  ((.seq ((.seq (.reg false [
    { dst := some 10, op := .mov (.t 4) },
    { dst := some 11, op := .call 12000 5 [(.t 10)] },
    { dst := some 9, op := .mov (.t 11) },
    { dst := some 12, op := .ext 0 (.t 9) },
    { dst := some 13, op := .ext 1 (.t 9) },
    { dst := some 5, op := .alloc 5 z24 },
    { dst := none, op := .store 6 (.t 5) (.t 12) },
    { dst := some 6, op := .mov (.t 13) }])
  (.keep [1, 4, 5, 6] [1, 5] ((.seq (.reg false [
    { dst := some 14, op := .mov (.t 6) },
    { dst := some 15, op := .bin .neq (.t 14) (.c (.int .i64 0)) },
    { dst := some 16, op := .mov (.t 15) },
    { dst := some 17, op := .load (some 6) (.t 1), guard := some (16, false) },
    { dst := some 18, op := .load (some 6) (.t 5), guard := some (16, false) },
    { dst := some 19, op := .eqa true [0, 0, 0, 0, 0, 2] (.t 17) (.t 18), guard := some (16, false) },
    { dst := some 20, op := .pick (.t 16) (.c (.bool true)) (.t 19) }])
  (.cond (.t 20) ((.seq (.reg false [
    { dst := some 2, op := .mov (.c (.str ⟨#[]⟩)) },
    { dst := some 3, op := .mov (.c (.int .i64 200)) }])
  (.ret))) (.skip)))))))
  (.keep [4] [] ((.seq (.reg false [
    { dst := some 21, op := .mov (.t 4) },
    { dst := some 2, op := .mov (.t 21) },
    { dst := some 3, op := .mov (.c (.int .i64 0)) }])
  (.ret)))))))))
/-- with its results -/
def a8 : AFun := ⟨c8, [(2, none), (3, none)], 22⟩

/-- estreat/estreatref21.Print: parameters api.Act -/
def c9 : AC :=
  (.seq (.reg false [
    { dst := some 1, op := .box 1 (.t 0) },
    { dst := some 2, op := .mov (.c (.str ⟨#[]⟩)) },
    { dst := some 3, op := .mov (.c (.int .i64 0)) }])
  ((.seq ((.seq (.reg false [
    { dst := some 7, op := .load (some 6) (.t 1) },
    { dst := some 8, op := .call 9000 15 [(.t 7)] },
    { dst := some 9, op := .un .not (.t 8) }])
  (.cond (.t 9) ((.seq (.reg false [
    { dst := some 2, op := .mov (.c (.str ⟨#[]⟩)) },
    { dst := some 3, op := .mov (.c (.int .i64 200)) }])
  (.ret))) (.skip))))
  (.keep [1] [1] ((.seq (.reg false [
    { dst := some 10, op := .load (some 6) (.t 1) },
    { dst := some 11, op := .call 12000 16 [(.t 10)] },
    { dst := some 4, op := .mov (.t 11) }])
  ((.seq (.reg false [
    { dst := some 13, op := .mov (.t 4) },
    { dst := some 14, op := .call 15000 6 [(.t 13)] },
    { dst := some 12, op := .mov (.t 14) },
    { dst := some 15, op := .ext 0 (.t 12) },
    { dst := some 16, op := .ext 1 (.t 12) },
    { dst := some 5, op := .alloc 5 z24 },
    { dst := none, op := .store 6 (.t 5) (.t 15) },
    { dst := some 6, op := .mov (.t 16) }])
  (.keep [1, 4, 5, 6] [1, 5] ((.seq ((.seq (.reg false [
    { dst := some 17, op := .mov (.t 6) },
    { dst := some 18, op := .bin .neq (.t 17) (.c (.int .i64 0)) },
    { dst := some 19, op := .mov (.t 18) },
    { dst := some 20, op := .load (some 6) (.t 1), guard := some (19, false) },
    { dst := some 21, op := .load (some 6) (.t 5), guard := some (19, false) },
    { dst := some 22, op := .eqa true [0, 0, 0, 0, 0, 2] (.t 20) (.t 21), guard := some (19, false) },
    { dst := some 23, op := .pick (.t 19) (.c (.bool true)) (.t 22) }])
  (.cond (.t 23) ((.seq (.reg false [
    { dst := some 2, op := .mov (.c (.str ⟨#[]⟩)) },
    { dst := some 3, op := .mov (.c (.int .i64 200)) }])
  (.ret))) (.skip))))
  (.keep [4] [] ((.seq (.reg false [
    { dst := some 24, op := .mov (.t 4) },
    { dst := some 2, op := .mov (.t 24) },
    { dst := some 3, op := .mov (.c (.int .i64 0)) }])
  (.ret)))))))))))))))
/-- with its results -/
def a9 : AFun := ⟨c9, [(2, none), (3, none)], 25⟩

/-- strings.Contains: parameters string string -/
def c10 : AC :=
  (.seq (.reg false [
    { dst := some 4, op := .mov (.c (.bool false)) }])
  ((.seq (.reg false [
    { dst := some 5, op := .mov (.t 0) },
    { dst := some 6, op := .mov (.t 1) },
    { dst := some 7, op := .call 8000 18 [(.t 5), (.t 6)] },
    { dst := some 8, op := .bin .geq (.t 7) (.c (.int .i64 0)) },
    { dst := some 4, op := .mov (.t 8) }])
  (.ret))))
/-- with its results -/
def a10 : AFun := ⟨c10, [(4, none)], 9⟩

/-- (*estreat/desk.line).act: parameters *desk.line string -/
def c11 : AC :=
  (.seq (.reg false [
    { dst := some 2, op := .box 2 (.t 0) },
    { dst := some 4, op := .alloc 4 z24 }])
  ((.seq (.reg false [
    { dst := some 5, op := .alloc 5 z24 }])
  ((.seq (.reg false [
    { dst := some 7, op := .mkf 19 [(.t 2)] },
    { dst := some 6, op := .mov (.t 7) }])
  ((.seq ((.seq (.reg false [
    { dst := some 8, op := .mov (.t 1) }])
  (.block 0 ((.seq (.reg false [
    { dst := some 13, op := .bin .eql (.t 8) (.c (.str ⟨#[116, 105, 99, 107]⟩)) },
    { dst := some 12, op := .mov (.t 13) }])
  (.cond (.t 12) ((.seq (.reg false [
    { dst := some 14, op := .fad 0 (.t 5) },
    { dst := none, op := .store 1 (.t 14) (.c (.int .i64 1)) }])
  (.reg false [
    { dst := some 15, op := .mov (.t 6) },
    { dst := some 16, op := .fad 1 (.t 5) },
    { dst := some 17, op := .fad 2 (.t 5) },
    { dst := some 18, op := .bslv 18 .nilP 2 [(0, (.t 16)), (1, (.t 17))] },
    { dst := some 19, op := .inlv (.t 15) [(.t 18)] }]))) ((.seq (.reg false [
    { dst := some 21, op := .bin .eql (.t 8) (.c (.str ⟨#[115, 116, 97, 114, 116]⟩)) },
    { dst := some 20, op := .mov (.t 21) }])
  (.cond (.t 20) ((.seq (.reg false [
    { dst := some 22, op := .fad 0 (.t 5) },
    { dst := none, op := .store 1 (.t 22) (.c (.int .i64 8)) }])
  (.reg false [
    { dst := some 23, op := .mov (.t 6) },
    { dst := some 24, op := .fad 1 (.t 5) },
    { dst := some 25, op := .fad 2 (.t 5) },
    { dst := some 26, op := .bslv 26 .nilP 2 [(0, (.t 24)), (1, (.t 25))] },
    { dst := some 27, op := .inlv (.t 23) [(.t 26)] }]))) ((.seq (.reg false [
    { dst := some 29, op := .bin .eql (.t 8) (.c (.str ⟨#[100, 101, 108, 105, 118, 101, 114]⟩)) },
    { dst := some 28, op := .mov (.t 29) }])
  (.cond (.t 28) ((.seq (.reg false [
    { dst := some 30, op := .fad 0 (.t 5) },
    { dst := none, op := .store 1 (.t 30) (.c (.int .i64 2)) }])
  (.reg false [
    { dst := some 31, op := .mov (.t 6) },
    { dst := some 32, op := .fad 3 (.t 5) },
    { dst := some 33, op := .bslv 33 .nilP 1 [(0, (.t 32))] },
    { dst := some 34, op := .inlv (.t 31) [(.t 33)] }]))) ((.seq (.reg false [
    { dst := some 36, op := .bin .eql (.t 8) (.c (.str ⟨#[100, 114, 111, 112]⟩)) },
    { dst := some 35, op := .mov (.t 36) }])
  (.cond (.t 35) ((.seq (.reg false [
    { dst := some 37, op := .fad 0 (.t 5) },
    { dst := none, op := .store 1 (.t 37) (.c (.int .i64 3)) }])
  (.reg false [
    { dst := some 38, op := .mov (.t 6) },
    { dst := some 39, op := .fad 3 (.t 5) },
    { dst := some 40, op := .bslv 40 .nilP 1 [(0, (.t 39))] },
    { dst := some 41, op := .inlv (.t 38) [(.t 40)] }]))) ((.seq (.reg false [
    { dst := some 43, op := .bin .eql (.t 8) (.c (.str ⟨#[100, 111, 117, 98, 108, 101]⟩)) },
    { dst := some 42, op := .mov (.t 43) }])
  (.cond (.t 42) ((.seq (.reg false [
    { dst := some 44, op := .fad 0 (.t 5) },
    { dst := none, op := .store 1 (.t 44) (.c (.int .i64 4)) }])
  (.reg false [
    { dst := some 45, op := .mov (.t 6) },
    { dst := some 46, op := .fad 3 (.t 5) },
    { dst := some 47, op := .bslv 47 .nilP 1 [(0, (.t 46))] },
    { dst := some 48, op := .inlv (.t 45) [(.t 47)] }]))) ((.seq (.reg false [
    { dst := some 50, op := .bin .eql (.t 8) (.c (.str ⟨#[114, 101, 116, 114, 121]⟩)) },
    { dst := some 49, op := .mov (.t 50) }])
  (.cond (.t 49) ((.seq (.reg false [
    { dst := some 51, op := .fad 0 (.t 5) },
    { dst := none, op := .store 1 (.t 51) (.c (.int .i64 6)) }])
  (.reg false [
    { dst := some 52, op := .mov (.t 6) },
    { dst := some 53, op := .fad 4 (.t 5) },
    { dst := some 54, op := .bslv 54 .nilP 1 [(0, (.t 53))] },
    { dst := some 55, op := .inlv (.t 52) [(.t 54)] }]))) ((.seq (.reg false [
    { dst := some 57, op := .bin .eql (.t 8) (.c (.str ⟨#[115, 117, 98, 109, 105, 116]⟩)) },
    { dst := some 56, op := .mov (.t 57) }])
  (.cond (.t 56) ((.seq (.reg false [
    { dst := some 58, op := .fad 0 (.t 5) },
    { dst := none, op := .store 1 (.t 58) (.c (.int .i64 5)) }])
  ((.seq (.reg false [
    { dst := some 59, op := .mov (.t 6) },
    { dst := some 60, op := .fad 4 (.t 5) },
    { dst := some 61, op := .fad 1 (.t 5) },
    { dst := some 62, op := .bslv 62 .nilP 2 [(0, (.t 60)), (1, (.t 61))] },
    { dst := some 63, op := .inlv (.t 59) [(.t 62)] }])
  (.keep [2, 4, 5] [2, 4, 5, 100000] ((.seq (.reg true [
    { dst := some 64, op := .load none (.t 2), rs := [2], tn := [2], mn := [100000] },
    { dst := some 65, op := .load none (.t 2), rs := [2], tn := [2], mn := [100000] },
    { dst := some 66, op := .nilck (.t 65), rs := [65], an := [1], mn := [100000] },
    { dst := some 67, op := .fad 0 (.t 66), rs := [66], an := [2], mn := [100000] },
    { dst := some 68, op := .load none (.t 67), rs := [67], tn := [100000], an := [3] },
    { dst := some 69, op := .load none (.t 2), rs := [2], tn := [2], mn := [100000] },
    { dst := some 70, op := .nilck (.t 69), rs := [69], an := [5], mn := [100000] },
    { dst := some 71, op := .fad 2 (.t 70), rs := [70], an := [6], mn := [100000] },
    { dst := some 72, op := .load none (.t 71), rs := [71], tn := [100000], an := [7] },
    { dst := some 73, op := .mov (.t 72), rs := [72], an := [8] },
    { dst := some 74, op := .load none (.t 2), guard := some (73, false), rs := [2, 73], tn := [2], an := [9], mn := [100000] },
    { dst := some 75, op := .nilck (.t 74), guard := some (73, false), rs := [73, 74], an := [9, 10], mn := [100000] },
    { dst := some 76, op := .fad 1 (.t 75), guard := some (73, false), rs := [73, 75], an := [9, 11], mn := [100000] },
    { dst := some 77, op := .load none (.t 76), guard := some (73, false), rs := [73, 76], tn := [100000], an := [9, 12] },
    { dst := some 78, op := .un .not (.t 77), guard := some (73, false), rs := [73, 77], an := [9, 13] },
    { dst := some 79, op := .pick (.t 73) (.c (.bool true)) (.t 78), rs := [73, 78], an := [9, 14] },
    { dst := some 80, op := .fad 5 (.t 5), rs := [5], mn := [5] },
    { dst := none, op := .store 1 (.t 80) (.t 68), rs := [68, 80], tn := [5], wn := [5], an := [4, 16] },
    { dst := some 81, op := .nilck (.t 64), rs := [64], an := [0], mn := [100000] },
    { dst := some 82, op := .fad 2 (.t 81), rs := [81], an := [18], mn := [100000] },
    { dst := none, op := .store 1 (.t 82) (.t 79), rs := [79, 82], tn := [100000], wn := [100000], an := [4, 8, 13, 15, 19] }])
  (.keep [2, 4, 5] [2, 4, 5, 100000] (.reg false [
    { dst := some 83, op := .load none (.t 2) },
    { dst := some 84, op := .nilck (.t 83) },
    { dst := some 85, op := .fad 1 (.t 84) },
    { dst := none, op := .store 1 (.t 85) (.c (.bool false)) }]))))))))) ((.seq (.reg false [
    { dst := some 87, op := .bin .eql (.t 8) (.c (.str ⟨#[99, 114, 97, 115, 104]⟩)) },
    { dst := some 86, op := .mov (.t 87) }])
  (.cond (.t 86) ((.seq (.reg false [
    { dst := some 88, op := .fad 0 (.t 5) },
    { dst := none, op := .store 1 (.t 88) (.c (.int .i64 7)) }])
  ((.seq (.reg false [
    { dst := some 89, op := .mov (.t 6) },
    { dst := some 90, op := .fad 1 (.t 5) },
    { dst := some 91, op := .fad 2 (.t 5) },
    { dst := some 92, op := .bslv 92 .nilP 2 [(0, (.t 90)), (1, (.t 91))] },
    { dst := some 93, op := .inlv (.t 89) [(.t 92)] }])
  (.keep [2, 4, 5, 6] [2, 4, 5, 100000] ((.seq (.reg false [
    { dst := some 94, op := .load none (.t 2) },
    { dst := some 95, op := .nilck (.t 94) },
    { dst := some 96, op := .fad 1 (.t 95) },
    { dst := some 97, op := .load none (.t 96) },
    { dst := some 98, op := .mov (.t 97) },
    { dst := some 99, op := .load none (.t 2), guard := some (98, true) },
    { dst := some 100, op := .nilck (.t 99), guard := some (98, true) },
    { dst := some 101, op := .fad 0 (.t 100), guard := some (98, true) },
    { dst := some 102, op := .load none (.t 101), guard := some (98, true) },
    { dst := some 103, op := .bin .eql (.t 102) (.c (.str ⟨#[110, 111, 119]⟩)), guard := some (98, true) },
    { dst := some 104, op := .pick (.t 98) (.t 103) (.c (.bool false)) }])
  (.cond (.t 104) (.reg true [
    { dst := some 105, op := .load none (.t 2), rs := [2], tn := [2], mn := [100000] },
    { dst := some 106, op := .fad 3 (.t 5), rs := [5], mn := [5] },
    { dst := none, op := .store 1 (.t 106) (.c (.int .i64 (-1))), rs := [106], tn := [5], wn := [5], an := [1] },
    { dst := some 107, op := .nilck (.t 105), rs := [105], an := [0], mn := [100000] },
    { dst := some 108, op := .fad 1 (.t 107), rs := [107], an := [3], mn := [100000] },
    { dst := none, op := .store 1 (.t 108) (.c (.bool false)), rs := [108], tn := [100000], wn := [100000], an := [4] }]) (.reg false [
    { dst := some 109, op := .mov (.t 6) },
    { dst := some 110, op := .fad 3 (.t 5) },
    { dst := some 111, op := .bslv 111 .nilP 1 [(0, (.t 110))] },
    { dst := some 112, op := .inlv (.t 109) [(.t 111)] }]))))))))) (.reg false [
    { dst := some 9, op := .load none (.t 2) },
    { dst := some 10, op := .nilck (.t 9) },
    { dst := some 11, op := .fad 2 (.t 10) },
    { dst := none, op := .store 1 (.t 11) (.c (.bool true)) }]))))))))))))))))))))))))))))
  (.keep [4, 5] [4, 5, 100000] ((.seq (.reg false [
    { dst := some 113, op := .load (some 6) (.t 5) },
    { dst := none, op := .store 6 (.t 4) (.t 113) }])
  (.ret)))))))))))
/-- with its results -/
def a11 : AFun := ⟨c11, [(4, some (some 6))], 114⟩

/-- (*estreat/desk.line).word: parameters *desk.line -/
def c12 : AC :=
  (.seq (.reg false [
    { dst := some 2, op := .mov (.c (.str ⟨#[]⟩)) }])
  ((.seq ((.seq (.reg false [
    { dst := some 4, op := .mov (.t 0) },
    { dst := some 5, op := .nilck (.t 4) },
    { dst := some 6, op := .fad 1 (.t 5) },
    { dst := some 7, op := .load none (.t 6) },
    { dst := some 8, op := .un .not (.t 7) }])
  (.cond (.t 8) ((.seq (.reg false [
    { dst := some 9, op := .mov (.t 0) },
    { dst := some 10, op := .nilck (.t 9) },
    { dst := some 11, op := .fad 2 (.t 10) },
    { dst := none, op := .store 1 (.t 11) (.c (.bool true)) }])
  (.keep [0] [100000] ((.seq (.reg false [
    { dst := some 2, op := .mov (.c (.str ⟨#[]⟩)) }])
  (.ret)))))) (.skip))))
  (.keep [0] [100000] ((.seq (.reg false [
    { dst := some 3, op := .mov (.c (.str ⟨#[]⟩)) }])
  ((.seq (.reg false [
    { dst := some 13, op := .mov (.t 0) },
    { dst := some 14, op := .mov (.t 0) },
    { dst := some 15, op := .mov (.t 0) },
    { dst := some 16, op := .nilck (.t 15) },
    { dst := some 17, op := .fad 0 (.t 16) },
    { dst := some 18, op := .load none (.t 17) },
    { dst := some 19, op := .call 20000 21 [(.t 18), (.c (.str ⟨#[32]⟩))] },
    { dst := some 12, op := .mov (.t 19) },
    { dst := some 20, op := .ext 0 (.t 12) },
    { dst := some 21, op := .ext 1 (.t 12) },
    { dst := some 22, op := .ext 2 (.t 12) },
    { dst := some 3, op := .mov (.t 20) },
    { dst := some 23, op := .nilck (.t 13) },
    { dst := some 24, op := .fad 0 (.t 23) },
    { dst := none, op := .store 1 (.t 24) (.t 21) },
    { dst := some 25, op := .nilck (.t 14) },
    { dst := some 26, op := .fad 1 (.t 25) },
    { dst := none, op := .store 1 (.t 26) (.t 22) }])
  (.keep [3] [100000] ((.seq (.reg false [
    { dst := some 27, op := .mov (.t 3) },
    { dst := some 2, op := .mov (.t 27) }])
  (.ret))))))))))))
/-- with its results -/
def a12 : AFun := ⟨c12, [(2, none)], 28⟩

def b13_0 : AC :=
  (.seq ((.seq (.reg false [
    { dst := some 4, op := .mov (.t 3) },
    { dst := some 5, op := .mov (.t 0) },
    { dst := some 6, op := .lenS (.t 5) },
    { dst := some 7, op := .bin .lss (.t 4) (.t 6) }])
  (.cond (.t 7) (.skip) (.exit 0))))
  (.keep [0, 3] [] ((.seq (.block 1 ((.seq (.reg false [
    { dst := some 10, op := .mov (.t 0) },
    { dst := some 11, op := .mov (.t 3) },
    { dst := some 12, op := .idxs (.t 10) (.t 11) },
    { dst := some 13, op := .bin .eql (.t 12) (.c (.int .u8 10)) }])
  (.cond (.t 13) ((.seq (.reg false [
    { dst := some 2, op := .mov (.c (.bool false)) }])
  (.ret))) (.skip)))))
  (.keep [0, 3] [] (.reg false [
    { dst := some 8, op := .mov (.t 3) },
    { dst := some 9, op := .bin .add (.t 8) (.c (.int .i64 1)) },
    { dst := some 3, op := .mov (.t 9) }]))))))
/-- estreat/estreatref21.line: parameters string -/
def c13 : AC :=
  (.seq (.reg false [
    { dst := some 2, op := .mov (.c (.bool false)) }])
  ((.seq ((.seq (.reg false [
    { dst := some 3, op := .mov (.c (.int .i64 0)) }])
  (.block 0 (.loop [0, 3] [] b13_0))))
  (.keep [0] [] ((.seq (.reg false [
    { dst := some 14, op := .mov (.t 0) },
    { dst := some 15, op := .lenS (.t 14) },
    { dst := some 16, op := .bin .leq (.t 15) (.c (.int .i64 300)) },
    { dst := some 2, op := .mov (.t 16) }])
  (.ret)))))))
/-- with its results -/
def a13 : AFun := ⟨c13, [(2, none)], 17⟩

def b14_0 : AC :=
  (.seq ((.seq (.reg false [
    { dst := some 8, op := .mov (.t 5) },
    { dst := some 9, op := .mov (.t 3) },
    { dst := some 10, op := .len (.t 9) },
    { dst := some 11, op := .bin .lss (.t 8) (.t 10) },
    { dst := some 12, op := .mov (.t 11) },
    { dst := some 13, op := .mov (.t 5), guard := some (12, true) },
    { dst := some 14, op := .bin .lss (.t 13) (.c (.int .i64 4)), guard := some (12, true) },
    { dst := some 15, op := .pick (.t 12) (.t 14) (.c (.bool false)) }])
  (.cond (.t 15) (.skip) (.exit 0))))
  (.keep [2, 3, 4, 5] [2, 4, 8000] ((.seq (.block 1 (.reg false [
    { dst := some 18, op := .mov (.t 5) },
    { dst := some 19, op := .mov (.t 3) },
    { dst := some 20, op := .mov (.t 5) },
    { dst := some 21, op := .iad 1 (.t 19) (.t 20) },
    { dst := some 22, op := .load none (.t 21) },
    { dst := some 23, op := .call 24000 23 [(.t 22)] },
    { dst := some 24, op := .iada 4 1 (.t 4) (.t 18) },
    { dst := none, op := .store 1 (.t 24) (.t 23) }]))
  (.keep [2, 3, 4, 5] [2, 4, 8000] (.reg false [
    { dst := some 16, op := .mov (.t 5) },
    { dst := some 17, op := .bin .add (.t 16) (.c (.int .i64 1)) },
    { dst := some 5, op := .mov (.t 17) }]))))))
/-- estreat/estreatref21.guess: parameters string -/
def c14 : AC :=
  (.seq (.reg false [
    { dst := some 2, op := .alloc 2 z24 }])
  ((.seq (.reg false [
    { dst := some 6, op := .mov (.t 0) },
    { dst := some 7, op := .call 8000 22 [(.t 6), (.c (.int .i64 4))] },
    { dst := some 3, op := .mov (.t 7) }])
  ((.seq (.reg false [
    { dst := some 4, op := .alloc 4 z49 }])
  ((.seq ((.seq (.reg false [
    { dst := some 5, op := .mov (.c (.int .i64 0)) }])
  (.block 0 (.loop [2, 3, 4, 5] [2, 4, 8000] b14_0))))
  (.keep [2, 3, 4] [2, 4, 8000] ((.seq ((.seq (.reg false [
    { dst := some 25, op := .mov (.t 3) },
    { dst := some 26, op := .iad 1 (.t 25) (.c (.int .i64 0)) },
    { dst := some 27, op := .load none (.t 26) }])
  (.block 2 ((.seq (.reg false [
    { dst := some 29, op := .bin .eql (.t 27) (.c (.str ⟨#[116, 105, 99, 107]⟩)) },
    { dst := some 28, op := .mov (.t 29) }])
  (.cond (.t 28) ((.seq (.reg false [
    { dst := some 30, op := .iada 4 1 (.t 4) (.c (.int .i64 1)) },
    { dst := some 31, op := .load none (.t 30) },
    { dst := some 32, op := .iada 4 1 (.t 4) (.c (.int .i64 2)) },
    { dst := some 33, op := .load none (.t 32) },
    { dst := some 34, op := .build z24 [(0, 1, (.c (.int .i64 1))), (1, 1, (.t 31)), (2, 1, (.t 33))] },
    { dst := none, op := .store 6 (.t 2) (.t 34) }])
  (.ret))) ((.seq (.reg false [
    { dst := some 36, op := .bin .eql (.t 27) (.c (.str ⟨#[115, 116, 97, 114, 116]⟩)) },
    { dst := some 35, op := .mov (.t 36) }])
  (.cond (.t 35) ((.seq (.reg false [
    { dst := some 37, op := .iada 4 1 (.t 4) (.c (.int .i64 1)) },
    { dst := some 38, op := .load none (.t 37) },
    { dst := some 39, op := .iada 4 1 (.t 4) (.c (.int .i64 2)) },
    { dst := some 40, op := .load none (.t 39) },
    { dst := some 41, op := .build z24 [(0, 1, (.c (.int .i64 8))), (1, 1, (.t 38)), (2, 1, (.t 40))] },
    { dst := none, op := .store 6 (.t 2) (.t 41) }])
  (.ret))) ((.seq (.reg false [
    { dst := some 43, op := .bin .eql (.t 27) (.c (.str ⟨#[100, 101, 108, 105, 118, 101, 114]⟩)) },
    { dst := some 42, op := .mov (.t 43) }])
  (.cond (.t 42) ((.seq (.reg false [
    { dst := some 44, op := .iada 4 1 (.t 4) (.c (.int .i64 1)) },
    { dst := some 45, op := .load none (.t 44) },
    { dst := some 46, op := .build z24 [(0, 1, (.c (.int .i64 2))), (3, 1, (.t 45))] },
    { dst := none, op := .store 6 (.t 2) (.t 46) }])
  (.ret))) ((.seq (.reg false [
    { dst := some 48, op := .bin .eql (.t 27) (.c (.str ⟨#[100, 114, 111, 112]⟩)) },
    { dst := some 47, op := .mov (.t 48) }])
  (.cond (.t 47) ((.seq (.reg false [
    { dst := some 49, op := .iada 4 1 (.t 4) (.c (.int .i64 1)) },
    { dst := some 50, op := .load none (.t 49) },
    { dst := some 51, op := .build z24 [(0, 1, (.c (.int .i64 3))), (3, 1, (.t 50))] },
    { dst := none, op := .store 6 (.t 2) (.t 51) }])
  (.ret))) ((.seq (.reg false [
    { dst := some 53, op := .bin .eql (.t 27) (.c (.str ⟨#[100, 111, 117, 98, 108, 101]⟩)) },
    { dst := some 52, op := .mov (.t 53) }])
  (.cond (.t 52) ((.seq (.reg false [
    { dst := some 54, op := .iada 4 1 (.t 4) (.c (.int .i64 1)) },
    { dst := some 55, op := .load none (.t 54) },
    { dst := some 56, op := .build z24 [(0, 1, (.c (.int .i64 4))), (3, 1, (.t 55))] },
    { dst := none, op := .store 6 (.t 2) (.t 56) }])
  (.ret))) ((.seq (.reg false [
    { dst := some 58, op := .bin .eql (.t 27) (.c (.str ⟨#[114, 101, 116, 114, 121]⟩)) },
    { dst := some 57, op := .mov (.t 58) }])
  (.cond (.t 57) ((.seq (.reg false [
    { dst := some 59, op := .iada 4 1 (.t 4) (.c (.int .i64 1)) },
    { dst := some 60, op := .load none (.t 59) },
    { dst := some 61, op := .build z24 [(0, 1, (.c (.int .i64 6))), (4, 1, (.t 60))] },
    { dst := none, op := .store 6 (.t 2) (.t 61) }])
  (.ret))) ((.seq (.reg false [
    { dst := some 63, op := .bin .eql (.t 27) (.c (.str ⟨#[115, 117, 98, 109, 105, 116]⟩)) },
    { dst := some 62, op := .mov (.t 63) }])
  (.cond (.t 62) ((.seq (.reg false [
    { dst := some 64, op := .mov (.t 3) },
    { dst := some 65, op := .len (.t 64) },
    { dst := some 66, op := .bin .eql (.t 65) (.c (.int .i64 4)) }])
  (.cond (.t 66) ((.seq (.reg true [
    { dst := some 67, op := .iada 4 1 (.t 4) (.c (.int .i64 1)), rs := [4], tn := [4] },
    { dst := some 68, op := .load none (.t 67), rs := [67], tn := [4], an := [0] },
    { dst := some 69, op := .iada 4 1 (.t 4) (.c (.int .i64 2)), rs := [4], tn := [4] },
    { dst := some 70, op := .load none (.t 69), rs := [69], tn := [4], an := [2] },
    { dst := some 71, op := .mov (.t 3), rs := [3], mn := [8000] },
    { dst := some 72, op := .iad 1 (.t 71) (.c (.int .i64 3)), rs := [71], tn := [8000], an := [4] },
    { dst := some 73, op := .load none (.t 72), rs := [72], tn := [8000], an := [5] },
    { dst := some 74, op := .build z24 [(0, 1, (.c (.int .i64 5))), (4, 1, (.t 68)), (1, 1, (.t 70)), (5, 1, (.t 73))], rs := [68, 70, 73], an := [1, 3, 6] },
    { dst := none, op := .store 6 (.t 2) (.t 74), rs := [2, 74], tn := [2], wn := [2], an := [7] }])
  (.ret))) (.skip)))) ((.seq (.reg false [
    { dst := some 76, op := .bin .eql (.t 27) (.c (.str ⟨#[99, 114, 97, 115, 104]⟩)) },
    { dst := some 75, op := .mov (.t 76) }])
  (.cond (.t 75) ((.seq ((.seq (.reg false [
    { dst := some 77, op := .mov (.t 3) },
    { dst := some 78, op := .len (.t 77) },
    { dst := some 79, op := .bin .eql (.t 78) (.c (.int .i64 4)) },
    { dst := some 80, op := .mov (.t 79) },
    { dst := some 81, op := .mov (.t 3), guard := some (80, true) },
    { dst := some 82, op := .iad 1 (.t 81) (.c (.int .i64 3)), guard := some (80, true) },
    { dst := some 83, op := .load none (.t 82), guard := some (80, true) },
    { dst := some 84, op := .bin .eql (.t 83) (.c (.str ⟨#[110, 111, 119]⟩)), guard := some (80, true) },
    { dst := some 85, op := .pick (.t 80) (.t 84) (.c (.bool false)) }])
  (.cond (.t 85) (.reg false [
    { dst := some 86, op := .iada 4 1 (.t 4) (.c (.int .i64 3)) },
    { dst := none, op := .store 1 (.t 86) (.c (.int .i64 (-1))) }]) (.skip))))
  (.keep [2, 4] [2, 4] ((.seq (.reg false [
    { dst := some 87, op := .iada 4 1 (.t 4) (.c (.int .i64 1)) },
    { dst := some 88, op := .load none (.t 87) },
    { dst := some 89, op := .iada 4 1 (.t 4) (.c (.int .i64 2)) },
    { dst := some 90, op := .load none (.t 89) },
    { dst := some 91, op := .iada 4 1 (.t 4) (.c (.int .i64 3)) },
    { dst := some 92, op := .load none (.t 91) },
    { dst := some 93, op := .build z24 [(0, 1, (.c (.int .i64 7))), (1, 1, (.t 88)), (2, 1, (.t 90)), (3, 1, (.t 92))] },
    { dst := none, op := .store 6 (.t 2) (.t 93) }])
  (.ret)))))) (.skip))))))))))))))))))))))))))))
  (.keep [2] [2] ((.seq (.reg false [
    { dst := some 94, op := .build z24 [] },
    { dst := none, op := .store 6 (.t 2) (.t 94) }])
  (.ret))))))))))))))
/-- with its results -/
def a14 : AFun := ⟨c14, [(2, some (some 6))], 95⟩

/-- estreat/estreatref21.fields: parameters api.Act -/
def c15 : AC :=
  (.seq (.reg false [
    { dst := some 1, op := .box 1 (.t 0) },
    { dst := some 2, op := .mov (.c (.bool false)) }])
  ((.seq (.reg false [
    { dst := some 3, op := .fad 1 (.t 1) },
    { dst := some 4, op := .load none (.t 3) },
    { dst := some 5, op := .call 6000 24 [(.t 4)] },
    { dst := some 6, op := .mov (.t 5) },
    { dst := some 7, op := .fad 2 (.t 1), guard := some (6, true) },
    { dst := some 8, op := .load none (.t 7), guard := some (6, true) },
    { dst := some 9, op := .call 10000 24 [(.t 8)], guard := some (6, true) },
    { dst := some 10, op := .pick (.t 6) (.t 9) (.c (.bool false)) },
    { dst := some 11, op := .mov (.t 10) },
    { dst := some 12, op := .fad 4 (.t 1), guard := some (11, true) },
    { dst := some 13, op := .load none (.t 12), guard := some (11, true) },
    { dst := some 14, op := .call 15000 24 [(.t 13)], guard := some (11, true) },
    { dst := some 15, op := .pick (.t 11) (.t 14) (.c (.bool false)) },
    { dst := some 16, op := .mov (.t 15) },
    { dst := some 17, op := .fad 3 (.t 1), guard := some (16, true) },
    { dst := some 18, op := .load none (.t 17), guard := some (16, true) },
    { dst := some 19, op := .call 20000 24 [(.t 18)], guard := some (16, true) },
    { dst := some 20, op := .mov (.t 19), guard := some (16, true) },
    { dst := some 21, op := .fad 3 (.t 1), guard := some (20, false) },
    { dst := some 22, op := .load none (.t 21), guard := some (20, false) },
    { dst := some 23, op := .bin .eql (.t 22) (.c (.int .i64 (-1))), guard := some (20, false) },
    { dst := some 24, op := .mov (.t 23), guard := some (20, false) },
    { dst := some 25, op := .fad 0 (.t 1), guard := some (24, true) },
    { dst := some 26, op := .load none (.t 25), guard := some (24, true) },
    { dst := some 27, op := .bin .eql (.t 26) (.c (.int .i64 7)), guard := some (24, true) },
    { dst := some 28, op := .pick (.t 24) (.t 27) (.c (.bool false)), guard := some (20, false) },
    { dst := some 29, op := .pick (.t 20) (.c (.bool true)) (.t 28), guard := some (16, true) },
    { dst := some 30, op := .pick (.t 16) (.t 29) (.c (.bool false)) },
    { dst := some 2, op := .mov (.t 30) }])
  (.ret))))
/-- with its results -/
def a15 : AFun := ⟨c15, [(2, none)], 31⟩

/-- estreat/estreatref21.text: parameters api.Act -/
def c16 : AC :=
  (.seq (.reg false [
    { dst := some 1, op := .box 1 (.t 0) },
    { dst := some 2, op := .mov (.c (.str ⟨#[]⟩)) }])
  ((.seq ((.seq (.reg false [
    { dst := some 3, op := .fad 0 (.t 1) },
    { dst := some 4, op := .load none (.t 3) }])
  (.block 0 ((.seq (.reg false [
    { dst := some 6, op := .bin .eql (.t 4) (.c (.int .i64 1)) },
    { dst := some 5, op := .mov (.t 6) }])
  (.cond (.t 5) ((.seq (.reg false [
    { dst := some 7, op := .fad 1 (.t 1) },
    { dst := some 8, op := .load none (.t 7) },
    { dst := some 9, op := .fad 2 (.t 1) },
    { dst := some 10, op := .load none (.t 9) },
    { dst := some 11, op := .bslice 11 1 [(.int .i64 0)] 2 [(0, (.t 8)), (1, (.t 10))] },
    { dst := some 12, op := .call 13000 25 [(.t 11)] },
    { dst := some 13, op := .bin .add (.c (.str ⟨#[116, 105, 99, 107]⟩)) (.t 12) },
    { dst := some 2, op := .mov (.t 13) }])
  (.ret))) ((.seq (.reg false [
    { dst := some 15, op := .bin .eql (.t 4) (.c (.int .i64 8)) },
    { dst := some 14, op := .mov (.t 15) }])
  (.cond (.t 14) ((.seq (.reg false [
    { dst := some 16, op := .fad 1 (.t 1) },
    { dst := some 17, op := .load none (.t 16) },
    { dst := some 18, op := .fad 2 (.t 1) },
    { dst := some 19, op := .load none (.t 18) },
    { dst := some 20, op := .bslice 20 1 [(.int .i64 0)] 2 [(0, (.t 17)), (1, (.t 19))] },
    { dst := some 21, op := .call 22000 25 [(.t 20)] },
    { dst := some 22, op := .bin .add (.c (.str ⟨#[115, 116, 97, 114, 116]⟩)) (.t 21) },
    { dst := some 2, op := .mov (.t 22) }])
  (.ret))) ((.seq (.reg false [
    { dst := some 24, op := .bin .eql (.t 4) (.c (.int .i64 2)) },
    { dst := some 23, op := .mov (.t 24) }])
  (.cond (.t 23) ((.seq (.reg false [
    { dst := some 25, op := .fad 3 (.t 1) },
    { dst := some 26, op := .load none (.t 25) },
    { dst := some 27, op := .bslice 27 1 [(.int .i64 0)] 1 [(0, (.t 26))] },
    { dst := some 28, op := .call 29000 25 [(.t 27)] },
    { dst := some 29, op := .bin .add (.c (.str ⟨#[100, 101, 108, 105, 118, 101, 114]⟩)) (.t 28) },
    { dst := some 2, op := .mov (.t 29) }])
  (.ret))) ((.seq (.reg false [
    { dst := some 31, op := .bin .eql (.t 4) (.c (.int .i64 3)) },
    { dst := some 30, op := .mov (.t 31) }])
  (.cond (.t 30) ((.seq (.reg false [
    { dst := some 32, op := .fad 3 (.t 1) },
    { dst := some 33, op := .load none (.t 32) },
    { dst := some 34, op := .bslice 34 1 [(.int .i64 0)] 1 [(0, (.t 33))] },
    { dst := some 35, op := .call 36000 25 [(.t 34)] },
    { dst := some 36, op := .bin .add (.c (.str ⟨#[100, 114, 111, 112]⟩)) (.t 35) },
    { dst := some 2, op := .mov (.t 36) }])
  (.ret))) ((.seq (.reg false [
    { dst := some 38, op := .bin .eql (.t 4) (.c (.int .i64 4)) },
    { dst := some 37, op := .mov (.t 38) }])
  (.cond (.t 37) ((.seq (.reg false [
    { dst := some 39, op := .fad 3 (.t 1) },
    { dst := some 40, op := .load none (.t 39) },
    { dst := some 41, op := .bslice 41 1 [(.int .i64 0)] 1 [(0, (.t 40))] },
    { dst := some 42, op := .call 43000 25 [(.t 41)] },
    { dst := some 43, op := .bin .add (.c (.str ⟨#[100, 111, 117, 98, 108, 101]⟩)) (.t 42) },
    { dst := some 2, op := .mov (.t 43) }])
  (.ret))) ((.seq (.reg false [
    { dst := some 45, op := .bin .eql (.t 4) (.c (.int .i64 5)) },
    { dst := some 44, op := .mov (.t 45) }])
  (.cond (.t 44) ((.seq (.reg true [
    { dst := some 46, op := .fad 4 (.t 1), rs := [1], mn := [1] },
    { dst := some 47, op := .load none (.t 46), rs := [46], tn := [1], an := [0] },
    { dst := some 48, op := .fad 1 (.t 1), rs := [1], mn := [1] },
    { dst := some 49, op := .load none (.t 48), rs := [48], tn := [1], an := [2] },
    { dst := some 50, op := .bslice 50 1 [(.int .i64 0)] 2 [(0, (.t 47)), (1, (.t 49))], rs := [47, 49], tn := [50], wn := [50], an := [1, 3] },
    { dst := some 51, op := .call 52000 25 [(.t 50)], rs := [50], tn := [50], an := [4] },
    { dst := some 52, op := .bin .add (.c (.str ⟨#[115, 117, 98, 109, 105, 116]⟩)) (.t 51), rs := [51], an := [5] },
    { dst := some 53, op := .bin .add (.t 52) (.c (.str ⟨#[32]⟩)), rs := [52], an := [6] },
    { dst := some 54, op := .fad 5 (.t 1), rs := [1], mn := [1] },
    { dst := some 55, op := .load none (.t 54), rs := [54], tn := [1], an := [8] },
    { dst := some 56, op := .bin .add (.t 53) (.t 55), rs := [53, 55], an := [7, 9] },
    { dst := some 2, op := .mov (.t 56), rs := [56], an := [10] }])
  (.ret))) ((.seq (.reg false [
    { dst := some 58, op := .bin .eql (.t 4) (.c (.int .i64 6)) },
    { dst := some 57, op := .mov (.t 58) }])
  (.cond (.t 57) ((.seq (.reg false [
    { dst := some 59, op := .fad 4 (.t 1) },
    { dst := some 60, op := .load none (.t 59) },
    { dst := some 61, op := .bslice 61 1 [(.int .i64 0)] 1 [(0, (.t 60))] },
    { dst := some 62, op := .call 63000 25 [(.t 61)] },
    { dst := some 63, op := .bin .add (.c (.str ⟨#[114, 101, 116, 114, 121]⟩)) (.t 62) },
    { dst := some 2, op := .mov (.t 63) }])
  (.ret))) ((.seq (.reg false [
    { dst := some 65, op := .bin .eql (.t 4) (.c (.int .i64 7)) },
    { dst := some 64, op := .mov (.t 65) }])
  (.cond (.t 64) ((.seq ((.seq (.reg false [
    { dst := some 66, op := .fad 3 (.t 1) },
    { dst := some 67, op := .load none (.t 66) },
    { dst := some 68, op := .bin .lss (.t 67) (.c (.int .i64 0)) }])
  (.cond (.t 68) ((.seq (.reg false [
    { dst := some 69, op := .fad 1 (.t 1) },
    { dst := some 70, op := .load none (.t 69) },
    { dst := some 71, op := .fad 2 (.t 1) },
    { dst := some 72, op := .load none (.t 71) },
    { dst := some 73, op := .bslice 73 1 [(.int .i64 0)] 2 [(0, (.t 70)), (1, (.t 72))] },
    { dst := some 74, op := .call 75000 25 [(.t 73)] },
    { dst := some 75, op := .bin .add (.c (.str ⟨#[99, 114, 97, 115, 104]⟩)) (.t 74) },
    { dst := some 76, op := .bin .add (.t 75) (.c (.str ⟨#[32, 110, 111, 119]⟩)) },
    { dst := some 2, op := .mov (.t 76) }])
  (.ret))) (.skip))))
  (.keep [1] [1] ((.seq (.reg false [
    { dst := some 77, op := .fad 1 (.t 1) },
    { dst := some 78, op := .load none (.t 77) },
    { dst := some 79, op := .fad 2 (.t 1) },
    { dst := some 80, op := .load none (.t 79) },
    { dst := some 81, op := .fad 3 (.t 1) },
    { dst := some 82, op := .load none (.t 81) },
    { dst := some 83, op := .bslice 83 1 [(.int .i64 0)] 3 [(0, (.t 78)), (1, (.t 80)), (2, (.t 82))] },
    { dst := some 84, op := .call 85000 25 [(.t 83)] },
    { dst := some 85, op := .bin .add (.c (.str ⟨#[99, 114, 97, 115, 104]⟩)) (.t 84) },
    { dst := some 2, op := .mov (.t 85) }])
  (.ret)))))) (.skip))))))))))))))))))))))))))))
  (.keep [] [] ((.seq (.reg false [
    { dst := some 2, op := .mov (.c (.str ⟨#[]⟩)) }])
  (.ret)))))))
/-- with its results -/
def a16 : AFun := ⟨c16, [(2, none)], 86⟩

/-- estreat/desk.spelt: parameters api.Act -/
def c17 : AC :=
  (.seq (.reg false [
    { dst := some 1, op := .box 1 (.t 0) },
    { dst := some 2, op := .mov (.c (.str ⟨#[]⟩)) }])
  ((.seq ((.seq (.reg false [
    { dst := some 3, op := .fad 0 (.t 1) },
    { dst := some 4, op := .load none (.t 3) }])
  (.block 0 ((.seq (.reg false [
    { dst := some 6, op := .bin .eql (.t 4) (.c (.int .i64 1)) },
    { dst := some 5, op := .mov (.t 6) }])
  (.cond (.t 5) ((.seq (.reg false [
    { dst := some 7, op := .fad 1 (.t 1) },
    { dst := some 8, op := .load none (.t 7) },
    { dst := some 9, op := .fad 2 (.t 1) },
    { dst := some 10, op := .load none (.t 9) },
    { dst := some 11, op := .bslice 11 1 [(.int .i64 0)] 2 [(0, (.t 8)), (1, (.t 10))] },
    { dst := some 12, op := .call 13000 26 [(.c (.str ⟨#[116, 105, 99, 107]⟩)), (.t 11)] },
    { dst := some 2, op := .mov (.t 12) }])
  (.ret))) ((.seq (.reg false [
    { dst := some 14, op := .bin .eql (.t 4) (.c (.int .i64 8)) },
    { dst := some 13, op := .mov (.t 14) }])
  (.cond (.t 13) ((.seq (.reg false [
    { dst := some 15, op := .fad 1 (.t 1) },
    { dst := some 16, op := .load none (.t 15) },
    { dst := some 17, op := .fad 2 (.t 1) },
    { dst := some 18, op := .load none (.t 17) },
    { dst := some 19, op := .bslice 19 1 [(.int .i64 0)] 2 [(0, (.t 16)), (1, (.t 18))] },
    { dst := some 20, op := .call 21000 26 [(.c (.str ⟨#[115, 116, 97, 114, 116]⟩)), (.t 19)] },
    { dst := some 2, op := .mov (.t 20) }])
  (.ret))) ((.seq (.reg false [
    { dst := some 22, op := .bin .eql (.t 4) (.c (.int .i64 2)) },
    { dst := some 21, op := .mov (.t 22) }])
  (.cond (.t 21) ((.seq (.reg false [
    { dst := some 23, op := .fad 3 (.t 1) },
    { dst := some 24, op := .load none (.t 23) },
    { dst := some 25, op := .bslice 25 1 [(.int .i64 0)] 1 [(0, (.t 24))] },
    { dst := some 26, op := .call 27000 26 [(.c (.str ⟨#[100, 101, 108, 105, 118, 101, 114]⟩)), (.t 25)] },
    { dst := some 2, op := .mov (.t 26) }])
  (.ret))) ((.seq (.reg false [
    { dst := some 28, op := .bin .eql (.t 4) (.c (.int .i64 3)) },
    { dst := some 27, op := .mov (.t 28) }])
  (.cond (.t 27) ((.seq (.reg false [
    { dst := some 29, op := .fad 3 (.t 1) },
    { dst := some 30, op := .load none (.t 29) },
    { dst := some 31, op := .bslice 31 1 [(.int .i64 0)] 1 [(0, (.t 30))] },
    { dst := some 32, op := .call 33000 26 [(.c (.str ⟨#[100, 114, 111, 112]⟩)), (.t 31)] },
    { dst := some 2, op := .mov (.t 32) }])
  (.ret))) ((.seq (.reg false [
    { dst := some 34, op := .bin .eql (.t 4) (.c (.int .i64 4)) },
    { dst := some 33, op := .mov (.t 34) }])
  (.cond (.t 33) ((.seq (.reg false [
    { dst := some 35, op := .fad 3 (.t 1) },
    { dst := some 36, op := .load none (.t 35) },
    { dst := some 37, op := .bslice 37 1 [(.int .i64 0)] 1 [(0, (.t 36))] },
    { dst := some 38, op := .call 39000 26 [(.c (.str ⟨#[100, 111, 117, 98, 108, 101]⟩)), (.t 37)] },
    { dst := some 2, op := .mov (.t 38) }])
  (.ret))) ((.seq (.reg false [
    { dst := some 40, op := .bin .eql (.t 4) (.c (.int .i64 6)) },
    { dst := some 39, op := .mov (.t 40) }])
  (.cond (.t 39) ((.seq (.reg false [
    { dst := some 41, op := .fad 4 (.t 1) },
    { dst := some 42, op := .load none (.t 41) },
    { dst := some 43, op := .bslice 43 1 [(.int .i64 0)] 1 [(0, (.t 42))] },
    { dst := some 44, op := .call 45000 26 [(.c (.str ⟨#[114, 101, 116, 114, 121]⟩)), (.t 43)] },
    { dst := some 2, op := .mov (.t 44) }])
  (.ret))) ((.seq (.reg false [
    { dst := some 46, op := .bin .eql (.t 4) (.c (.int .i64 5)) },
    { dst := some 45, op := .mov (.t 46) }])
  (.cond (.t 45) ((.seq (.reg true [
    { dst := some 47, op := .fad 4 (.t 1), rs := [1], mn := [1] },
    { dst := some 48, op := .load none (.t 47), rs := [47], tn := [1], an := [0] },
    { dst := some 49, op := .fad 1 (.t 1), rs := [1], mn := [1] },
    { dst := some 50, op := .load none (.t 49), rs := [49], tn := [1], an := [2] },
    { dst := some 51, op := .bslice 51 1 [(.int .i64 0)] 2 [(0, (.t 48)), (1, (.t 50))], rs := [48, 50], tn := [51], wn := [51], an := [1, 3] },
    { dst := some 52, op := .call 53000 26 [(.c (.str ⟨#[115, 117, 98, 109, 105, 116]⟩)), (.t 51)], rs := [51], tn := [51], an := [4] },
    { dst := some 53, op := .bin .add (.t 52) (.c (.str ⟨#[32]⟩)), rs := [52], an := [5] },
    { dst := some 54, op := .fad 5 (.t 1), rs := [1], mn := [1] },
    { dst := some 55, op := .load none (.t 54), rs := [54], tn := [1], an := [7] },
    { dst := some 56, op := .bin .add (.t 53) (.t 55), rs := [53, 55], an := [6, 8] },
    { dst := some 2, op := .mov (.t 56), rs := [56], an := [9] }])
  (.ret))) ((.seq (.reg false [
    { dst := some 58, op := .bin .eql (.t 4) (.c (.int .i64 7)) },
    { dst := some 57, op := .mov (.t 58) }])
  (.cond (.t 57) ((.seq ((.seq (.reg false [
    { dst := some 59, op := .fad 3 (.t 1) },
    { dst := some 60, op := .load none (.t 59) },
    { dst := some 61, op := .bin .lss (.t 60) (.c (.int .i64 0)) }])
  (.cond (.t 61) ((.seq (.reg false [
    { dst := some 62, op := .fad 1 (.t 1) },
    { dst := some 63, op := .load none (.t 62) },
    { dst := some 64, op := .fad 2 (.t 1) },
    { dst := some 65, op := .load none (.t 64) },
    { dst := some 66, op := .bslice 66 1 [(.int .i64 0)] 2 [(0, (.t 63)), (1, (.t 65))] },
    { dst := some 67, op := .call 68000 26 [(.c (.str ⟨#[99, 114, 97, 115, 104]⟩)), (.t 66)] },
    { dst := some 68, op := .bin .add (.t 67) (.c (.str ⟨#[32, 110, 111, 119]⟩)) },
    { dst := some 2, op := .mov (.t 68) }])
  (.ret))) (.skip))))
  (.keep [1] [1] ((.seq (.reg false [
    { dst := some 69, op := .fad 1 (.t 1) },
    { dst := some 70, op := .load none (.t 69) },
    { dst := some 71, op := .fad 2 (.t 1) },
    { dst := some 72, op := .load none (.t 71) },
    { dst := some 73, op := .fad 3 (.t 1) },
    { dst := some 74, op := .load none (.t 73) },
    { dst := some 75, op := .bslice 75 1 [(.int .i64 0)] 3 [(0, (.t 70)), (1, (.t 72)), (2, (.t 74))] },
    { dst := some 76, op := .call 77000 26 [(.c (.str ⟨#[99, 114, 97, 115, 104]⟩)), (.t 75)] },
    { dst := some 2, op := .mov (.t 76) }])
  (.ret)))))) (.skip))))))))))))))))))))))))))))
  (.keep [] [] ((.seq (.reg false [
    { dst := some 2, op := .mov (.c (.str ⟨#[]⟩)) }])
  (.ret)))))))
/-- with its results -/
def a17 : AFun := ⟨c17, [(2, none)], 77⟩

/-- strings.Index: parameters string string -/
def c18 : AC :=
  (.seq (.reg false [
    { dst := some 4, op := .mov (.c (.int .i64 0)) }])
  ((.seq (.reg false [
    { dst := some 5, op := .mov (.t 0) },
    { dst := some 6, op := .mov (.t 1) },
    { dst := some 7, op := .call 8000 27 [(.t 5), (.t 6)] },
    { dst := some 4, op := .mov (.t 7) }])
  (.ret))))
/-- with its results -/
def a18 : AFun := ⟨c18, [(4, none)], 8⟩

def b19_0 : AC :=
  (.seq (.reg false [
    { dst := some 8, op := .bin .lss (.t 7) (.t 6) }])
  ((.seq (.cond (.t 8) (.skip) (.exit 0))
  ((.seq (.block 1 ((.seq (.reg false [
    { dst := some 9, op := .iad 1 (.t 5) (.t 7) },
    { dst := some 10, op := .load none (.t 9) },
    { dst := some 4, op := .mov (.t 10) }])
  (.reg false [
    { dst := some 11, op := .mov (.t 4) },
    { dst := some 12, op := .load none (.t 1) },
    { dst := some 13, op := .call 14000 20 [(.t 12)] },
    { dst := some 14, op := .nilck (.t 11) },
    { dst := none, op := .store 1 (.t 14) (.t 13) }]))))
  (.keep [1, 5, 6, 7] [100000, 100200] (.reg false [
    { dst := some 15, op := .bin .add (.t 7) (.c (.int .i64 1)) },
    { dst := some 7, op := .mov (.t 15) }])))))))
/-- (*estreat/desk.line).act$1: parameters []*int -/
def c19 : AC :=
  (.seq (.reg false [
    { dst := some 5, op := .mov (.t 0) },
    { dst := some 6, op := .len (.t 5) },
    { dst := some 7, op := .mov (.c (.int .i64 0)) }])
  (.block 0 (.loop [1, 5, 6, 7] [100000, 100200] b19_0)))
/-- with its results -/
def a19 : AFun := ⟨c19, [], 16⟩

/-- (*estreat/desk.line).number: parameters *desk.line -/
def c20 : AC :=
  (.seq (.reg false [
    { dst := some 2, op := .mov (.c (.int .i64 0)) }])
  ((.seq (.reg false [
    { dst := some 6, op := .mov (.t 0) },
    { dst := some 7, op := .call 8000 12 [(.t 6)] },
    { dst := some 3, op := .mov (.t 7) }])
  ((.seq (.reg false [
    { dst := some 9, op := .mov (.t 3) },
    { dst := some 10, op := .call 11000 28 [(.t 9)] },
    { dst := some 8, op := .mov (.t 10) },
    { dst := some 11, op := .ext 0 (.t 8) },
    { dst := some 12, op := .ext 1 (.t 8) },
    { dst := some 4, op := .mov (.t 11) },
    { dst := some 5, op := .mov (.t 12) }])
  (.keep [0, 3, 4, 5] [100000] ((.seq ((.seq (.reg false [
    { dst := some 13, op := .mov (.t 5) },
    { dst := some 14, op := .isnil true 4 (.t 13) },
    { dst := some 15, op := .mov (.t 14) },
    { dst := some 16, op := .mov (.t 3), guard := some (15, false) },
    { dst := some 17, op := .lenS (.t 16), guard := some (15, false) },
    { dst := some 18, op := .bin .gtr (.t 17) (.c (.int .i64 7)), guard := some (15, false) },
    { dst := some 19, op := .pick (.t 15) (.c (.bool true)) (.t 18) },
    { dst := some 20, op := .mov (.t 19) },
    { dst := some 21, op := .mov (.t 4), guard := some (20, false) },
    { dst := some 22, op := .bin .lss (.t 21) (.c (.int .i64 0)), guard := some (20, false) },
    { dst := some 23, op := .pick (.t 20) (.c (.bool true)) (.t 22) },
    { dst := some 24, op := .mov (.t 23) },
    { dst := some 25, op := .mov (.t 4), guard := some (24, false) },
    { dst := some 26, op := .bin .gtr (.t 25) (.c (.int .i64 1000000)), guard := some (24, false) },
    { dst := some 27, op := .pick (.t 24) (.c (.bool true)) (.t 26) },
    { dst := some 28, op := .mov (.t 27) },
    { dst := some 29, op := .mov (.t 4), guard := some (28, false) },
    { dst := some 30, op := .call 31000 29 [(.t 29)], guard := some (28, false) },
    { dst := some 31, op := .mov (.t 3), guard := some (28, false) },
    { dst := some 32, op := .bin .neq (.t 30) (.t 31), guard := some (28, false) },
    { dst := some 33, op := .pick (.t 28) (.c (.bool true)) (.t 32) }])
  (.cond (.t 33) ((.seq (.reg false [
    { dst := some 34, op := .mov (.t 0) },
    { dst := some 35, op := .nilck (.t 34) },
    { dst := some 36, op := .fad 2 (.t 35) },
    { dst := none, op := .store 1 (.t 36) (.c (.bool true)) }])
  (.keep [4] [100000] ((.seq (.reg false [
    { dst := some 2, op := .mov (.c (.int .i64 0)) }])
  (.ret)))))) (.skip))))
  (.keep [4] [100000] ((.seq (.reg false [
    { dst := some 37, op := .mov (.t 4) },
    { dst := some 2, op := .mov (.t 37) }])
  (.ret))))))))))))
/-- with its results -/
def a20 : AFun := ⟨c20, [(2, none)], 38⟩

/-- strings.Cut: parameters string string -/
def c21 : AC :=
  (.seq (.reg false [
    { dst := some 4, op := .mov (.c (.str ⟨#[]⟩)) },
    { dst := some 5, op := .mov (.c (.str ⟨#[]⟩)) },
    { dst := some 6, op := .mov (.c (.bool false)) }])
  ((.seq (.reg false [
    { dst := some 7, op := .mov (.t 0) },
    { dst := some 8, op := .mov (.t 1) },
    { dst := some 9, op := .call 10000 30 [(.t 7), (.t 8)] },
    { dst := some 10, op := .ext 0 (.t 9) },
    { dst := some 11, op := .ext 1 (.t 9) },
    { dst := some 12, op := .ext 2 (.t 9) },
    { dst := some 4, op := .mov (.t 10) },
    { dst := some 5, op := .mov (.t 11) },
    { dst := some 6, op := .mov (.t 12) }])
  (.ret))))
/-- with its results -/
def a21 : AFun := ⟨c21, [(4, none), (5, none), (6, none)], 13⟩

def b22_0 : AC :=
  (.seq ((.seq (.reg false [
    { dst := some 8, op := .mov (.t 7) },
    { dst := some 9, op := .mov (.t 0) },
    { dst := some 10, op := .lenS (.t 9) },
    { dst := some 11, op := .bin .leq (.t 8) (.t 10) }])
  (.cond (.t 11) (.skip) (.exit 0))))
  (.keep [0, 1, 5, 6, 7] [37] ((.seq (.block 1 ((.seq (.reg false [
    { dst := some 14, op := .mov (.t 7) },
    { dst := some 15, op := .mov (.t 0) },
    { dst := some 16, op := .lenS (.t 15) },
    { dst := some 17, op := .bin .eql (.t 14) (.t 16) },
    { dst := some 18, op := .mov (.t 17) },
    { dst := some 19, op := .mov (.t 0), guard := some (18, false) },
    { dst := some 20, op := .mov (.t 7), guard := some (18, false) },
    { dst := some 21, op := .idxs (.t 19) (.t 20), guard := some (18, false) },
    { dst := some 22, op := .bin .eql (.t 21) (.c (.int .u8 32)), guard := some (18, false) },
    { dst := some 23, op := .mov (.t 22), guard := some (18, false) },
    { dst := some 24, op := .mov (.t 5), guard := some (23, true) },
    { dst := some 25, op := .len (.t 24), guard := some (23, true) },
    { dst := some 26, op := .mov (.t 1), guard := some (23, true) },
    { dst := some 27, op := .bin .sub (.t 26) (.c (.int .i64 1)), guard := some (23, true) },
    { dst := some 28, op := .bin .lss (.t 25) (.t 27), guard := some (23, true) },
    { dst := some 29, op := .pick (.t 23) (.t 28) (.c (.bool false)), guard := some (18, false) },
    { dst := some 30, op := .pick (.t 18) (.c (.bool true)) (.t 29) }])
  (.cond (.t 30) ((.seq (.reg false [
    { dst := some 31, op := .mov (.t 5) },
    { dst := some 32, op := .mov (.t 0) },
    { dst := some 33, op := .mov (.t 6) },
    { dst := some 34, op := .mov (.t 7) },
    { dst := some 35, op := .slcS (.t 32) (some (.t 33)) (some (.t 34)) },
    { dst := some 36, op := .bslice 36 1 [(.str ⟨#[]⟩)] 1 [(0, (.t 35))] },
    { dst := some 37, op := .app 37 1 16 (.t 31) (.t 36) },
    { dst := some 5, op := .mov (.t 37) }])
  (.keep [0, 1, 5, 6, 7] [37] (.reg false [
    { dst := some 38, op := .mov (.t 7) },
    { dst := some 39, op := .bin .add (.t 38) (.c (.int .i64 1)) },
    { dst := some 6, op := .mov (.t 39) }])))) (.skip)))))
  (.keep [0, 1, 5, 6, 7] [37] (.reg false [
    { dst := some 12, op := .mov (.t 7) },
    { dst := some 13, op := .bin .add (.t 12) (.c (.int .i64 1)) },
    { dst := some 7, op := .mov (.t 13) }]))))))
/-- estreat/estreatref21.Words: parameters string int -/
def c22 : AC :=
  (.seq (.reg false [
    { dst := some 4, op := .mov (.c .nilS) }])
  ((.seq (.reg false [
    { dst := some 5, op := .mov (.c .nilS) }])
  ((.seq (.reg false [
    { dst := some 6, op := .mov (.c (.int .i64 0)) }])
  ((.seq ((.seq (.reg false [
    { dst := some 7, op := .mov (.c (.int .i64 0)) }])
  (.block 0 (.loop [0, 1, 5, 6, 7] [37] b22_0))))
  (.keep [5] [37] ((.seq (.reg false [
    { dst := some 40, op := .mov (.t 5) },
    { dst := some 4, op := .mov (.t 40) }])
  (.ret)))))))))))
/-- with its results -/
def a22 : AFun := ⟨c22, [(4, none)], 41⟩

def b23_0 : AC :=
  (.seq ((.seq (.reg false [
    { dst := some 5, op := .mov (.t 4) },
    { dst := some 6, op := .mov (.t 0) },
    { dst := some 7, op := .lenS (.t 6) },
    { dst := some 8, op := .bin .lss (.t 5) (.t 7) },
    { dst := some 9, op := .mov (.t 8) },
    { dst := some 10, op := .mov (.t 4), guard := some (9, true) },
    { dst := some 11, op := .bin .lss (.t 10) (.c (.int .i64 9)), guard := some (9, true) },
    { dst := some 12, op := .pick (.t 9) (.t 11) (.c (.bool false)) }])
  (.cond (.t 12) (.skip) (.exit 0))))
  (.keep [0, 3, 4] [] ((.seq (.block 1 ((.seq (.reg false [
    { dst := some 15, op := .mov (.t 0) },
    { dst := some 16, op := .mov (.t 4) },
    { dst := some 17, op := .idxs (.t 15) (.t 16) },
    { dst := some 18, op := .bin .geq (.t 17) (.c (.int .u8 48)) },
    { dst := some 19, op := .mov (.t 18) },
    { dst := some 20, op := .mov (.t 0), guard := some (19, true) },
    { dst := some 21, op := .mov (.t 4), guard := some (19, true) },
    { dst := some 22, op := .idxs (.t 20) (.t 21), guard := some (19, true) },
    { dst := some 23, op := .bin .leq (.t 22) (.c (.int .u8 57)), guard := some (19, true) },
    { dst := some 24, op := .pick (.t 19) (.t 23) (.c (.bool false)) }])
  (.cond (.t 24) (.reg false [
    { dst := some 25, op := .mov (.t 3) },
    { dst := some 26, op := .bin .mul (.c (.int .i64 10)) (.t 25) },
    { dst := some 27, op := .mov (.t 0) },
    { dst := some 28, op := .mov (.t 4) },
    { dst := some 29, op := .idxs (.t 27) (.t 28) },
    { dst := some 30, op := .bin .sub (.t 29) (.c (.int .u8 48)) },
    { dst := some 31, op := .conv .i64 (.t 30) },
    { dst := some 32, op := .bin .add (.t 26) (.t 31) },
    { dst := some 3, op := .mov (.t 32) }]) (.skip)))))
  (.keep [0, 3, 4] [] (.reg false [
    { dst := some 13, op := .mov (.t 4) },
    { dst := some 14, op := .bin .add (.t 13) (.c (.int .i64 1)) },
    { dst := some 4, op := .mov (.t 14) }]))))))
/-- estreat/estreatref21.number: parameters string -/
def c23 : AC :=
  (.seq (.reg false [
    { dst := some 2, op := .mov (.c (.int .i64 0)) }])
  ((.seq (.reg false [
    { dst := some 3, op := .mov (.c (.int .i64 0)) }])
  ((.seq ((.seq (.reg false [
    { dst := some 4, op := .mov (.c (.int .i64 0)) }])
  (.block 0 (.loop [0, 3, 4] [] b23_0))))
  (.keep [3] [] ((.seq (.reg false [
    { dst := some 33, op := .mov (.t 3) },
    { dst := some 2, op := .mov (.t 33) }])
  (.ret)))))))))
/-- with its results -/
def a23 : AFun := ⟨c23, [(2, none)], 34⟩

/-- estreat/estreatref21.may: parameters int -/
def c24 : AC :=
  (.seq (.reg false [
    { dst := some 2, op := .mov (.c (.bool false)) }])
  ((.seq (.reg false [
    { dst := some 3, op := .mov (.t 0) },
    { dst := some 4, op := .bin .geq (.t 3) (.c (.int .i64 0)) },
    { dst := some 5, op := .mov (.t 4) },
    { dst := some 6, op := .mov (.t 0), guard := some (5, true) },
    { dst := some 7, op := .bin .leq (.t 6) (.c (.int .i64 1000000)), guard := some (5, true) },
    { dst := some 8, op := .pick (.t 5) (.t 7) (.c (.bool false)) },
    { dst := some 2, op := .mov (.t 8) }])
  (.ret))))
/-- with its results -/
def a24 : AFun := ⟨c24, [(2, none)], 9⟩

def b25_0 : AC :=
  (.seq ((.seq (.reg false [
    { dst := some 5, op := .mov (.t 4) },
    { dst := some 6, op := .mov (.t 0) },
    { dst := some 7, op := .len (.t 6) },
    { dst := some 8, op := .bin .lss (.t 5) (.t 7) }])
  (.cond (.t 8) (.skip) (.exit 0))))
  (.keep [0, 3, 4] [100000] ((.seq (.block 1 (.reg false [
    { dst := some 11, op := .mov (.t 3) },
    { dst := some 12, op := .bin .add (.t 11) (.c (.str ⟨#[32]⟩)) },
    { dst := some 13, op := .mov (.t 0) },
    { dst := some 14, op := .mov (.t 4) },
    { dst := some 15, op := .iad 1 (.t 13) (.t 14) },
    { dst := some 16, op := .load none (.t 15) },
    { dst := some 17, op := .call 18000 31 [(.t 16)] },
    { dst := some 18, op := .bin .add (.t 12) (.t 17) },
    { dst := some 3, op := .mov (.t 18) }]))
  (.keep [0, 3, 4] [100000] (.reg false [
    { dst := some 9, op := .mov (.t 4) },
    { dst := some 10, op := .bin .add (.t 9) (.c (.int .i64 1)) },
    { dst := some 4, op := .mov (.t 10) }]))))))
/-- estreat/estreatref21.numbers: parameters []int -/
def c25 : AC :=
  (.seq (.reg false [
    { dst := some 2, op := .mov (.c (.str ⟨#[]⟩)) }])
  ((.seq (.reg false [
    { dst := some 3, op := .mov (.c (.str ⟨#[]⟩)) }])
  ((.seq ((.seq (.reg false [
    { dst := some 4, op := .mov (.c (.int .i64 0)) }])
  (.block 0 (.loop [0, 3, 4] [100000] b25_0))))
  (.keep [3] [] ((.seq (.reg false [
    { dst := some 19, op := .mov (.t 3) },
    { dst := some 2, op := .mov (.t 19) }])
  (.ret)))))))))
/-- with its results -/
def a25 : AFun := ⟨c25, [(2, none)], 20⟩

def b26_0 : AC :=
  (.seq (.reg false [
    { dst := some 10, op := .bin .lss (.t 9) (.t 8) }])
  ((.seq (.cond (.t 10) (.skip) (.exit 0))
  ((.seq (.block 1 ((.seq (.reg false [
    { dst := some 11, op := .iad 1 (.t 7) (.t 9) },
    { dst := some 12, op := .load none (.t 11) },
    { dst := some 6, op := .mov (.t 12) }])
  (.reg false [
    { dst := some 13, op := .mov (.t 0) },
    { dst := some 14, op := .mov (.t 6) },
    { dst := some 15, op := .call 16000 29 [(.t 14)] },
    { dst := some 16, op := .bin .add (.c (.str ⟨#[32]⟩)) (.t 15) },
    { dst := some 17, op := .bin .add (.t 13) (.t 16) },
    { dst := some 0, op := .mov (.t 17) }]))))
  (.keep [0, 7, 8, 9] [100200] (.reg false [
    { dst := some 18, op := .bin .add (.t 9) (.c (.int .i64 1)) },
    { dst := some 9, op := .mov (.t 18) }])))))))
/-- estreat/desk.join: parameters string []int -/
def c26 : AC :=
  (.seq (.reg false [
    { dst := some 4, op := .mov (.c (.str ⟨#[]⟩)) }])
  ((.seq ((.seq (.reg false [
    { dst := some 7, op := .mov (.t 1) },
    { dst := some 8, op := .len (.t 7) },
    { dst := some 9, op := .mov (.c (.int .i64 0)) }])
  (.block 0 (.loop [0, 7, 8, 9] [100200] b26_0))))
  (.keep [0] [] ((.seq (.reg false [
    { dst := some 19, op := .mov (.t 0) },
    { dst := some 4, op := .mov (.t 19) }])
  (.ret)))))))
/-- with its results -/
def a26 : AFun := ⟨c26, [(4, none)], 20⟩

/-- internal/stringslite.Cut: parameters string string -/
def c30 : AC :=
  (.seq (.reg false [
    { dst := some 4, op := .mov (.c (.str ⟨#[]⟩)) },
    { dst := some 5, op := .mov (.c (.str ⟨#[]⟩)) },
    { dst := some 6, op := .mov (.c (.bool false)) }])
  ((.seq ((.seq (.reg false [
    { dst := some 8, op := .mov (.t 0) },
    { dst := some 9, op := .mov (.t 1) },
    { dst := some 10, op := .call 11000 27 [(.t 8), (.t 9)] },
    { dst := some 7, op := .mov (.t 10) }])
  (.keep [0, 1, 7] [] ((.seq (.reg false [
    { dst := some 11, op := .mov (.t 7) },
    { dst := some 12, op := .bin .geq (.t 11) (.c (.int .i64 0)) }])
  (.cond (.t 12) ((.seq (.reg true [
    { dst := some 13, op := .mov (.t 0), rs := [0] },
    { dst := some 14, op := .mov (.t 7), rs := [7] },
    { dst := some 15, op := .slcS (.t 13) none (some (.t 14)), rs := [13, 14], an := [0, 1] },
    { dst := some 16, op := .mov (.t 0), rs := [0] },
    { dst := some 17, op := .mov (.t 7), rs := [7] },
    { dst := some 18, op := .mov (.t 1), rs := [1] },
    { dst := some 19, op := .lenS (.t 18), rs := [18], an := [5] },
    { dst := some 20, op := .bin .add (.t 17) (.t 19), rs := [17, 19], an := [4, 6] },
    { dst := some 21, op := .slcS (.t 16) (some (.t 20)) none, rs := [16, 20], an := [3, 7] },
    { dst := some 4, op := .mov (.t 15), rs := [15], an := [2] },
    { dst := some 5, op := .mov (.t 21), rs := [21], an := [8] },
    { dst := some 6, op := .mov (.c (.bool true)) }])
  (.ret))) (.skip)))))))
  (.keep [0] [] ((.seq (.reg false [
    { dst := some 22, op := .mov (.t 0) },
    { dst := some 4, op := .mov (.t 22) },
    { dst := some 5, op := .mov (.c (.str ⟨#[]⟩)) },
    { dst := some 6, op := .mov (.c (.bool false)) }])
  (.ret)))))))
/-- with its results -/
def a30 : AFun := ⟨c30, [(4, none), (5, none), (6, none)], 23⟩

/-- estreat/estreatref21.Number: parameters int -/
def c31 : AC :=
  (.seq (.reg false [
    { dst := some 2, op := .mov (.c (.str ⟨#[]⟩)) }])
  ((.seq ((.seq (.reg false [
    { dst := some 4, op := .mov (.t 0) },
    { dst := some 5, op := .bin .lss (.t 4) (.c (.int .i64 10)) }])
  (.cond (.t 5) ((.seq (.reg false [
    { dst := some 6, op := .mov (.t 0) },
    { dst := some 7, op := .mov (.t 0) },
    { dst := some 8, op := .bin .add (.t 7) (.c (.int .i64 1)) },
    { dst := some 9, op := .slcS (.c (.str ⟨#[48, 49, 50, 51, 52, 53, 54, 55, 56, 57]⟩)) (some (.t 6)) (some (.t 8)) },
    { dst := some 2, op := .mov (.t 9) }])
  (.ret))) (.skip))))
  (.keep [0] [] ((.seq (.reg false [
    { dst := some 10, op := .mov (.t 0) },
    { dst := some 11, op := .bin .quo (.t 10) (.c (.int .i64 10)) },
    { dst := some 12, op := .call 13000 31 [(.t 11)] },
    { dst := some 3, op := .mov (.t 12) }])
  (.keep [0, 3] [] ((.seq (.reg false [
    { dst := some 13, op := .mov (.t 3) },
    { dst := some 14, op := .mov (.t 0) },
    { dst := some 15, op := .bin .rem (.t 14) (.c (.int .i64 10)) },
    { dst := some 16, op := .mov (.t 0) },
    { dst := some 17, op := .bin .rem (.t 16) (.c (.int .i64 10)) },
    { dst := some 18, op := .bin .add (.t 17) (.c (.int .i64 1)) },
    { dst := some 19, op := .slcS (.c (.str ⟨#[48, 49, 50, 51, 52, 53, 54, 55, 56, 57]⟩)) (some (.t 15)) (some (.t 18)) },
    { dst := some 20, op := .bin .add (.t 13) (.t 19) },
    { dst := some 2, op := .mov (.t 20) }])
  (.ret))))))))))
/-- with its results -/
def a31 : AFun := ⟨c31, [(2, none)], 21⟩

def kh19i_0 : List Nat := [2, 4, 5, 18, 26, 33, 40, 47, 54, 62, 92, 111, 100000]
def b19i_0 : AC :=
  (.seq (.reg false [
    { dst := some 8, op := .bin .lss (.t 7) (.t 6) }])
  ((.seq (.cond (.t 8) (.skip) (.exit 0))
  ((.seq (.block 1 ((.seq (.reg false [
    { dst := some 9, op := .iad 1 (.t 5) (.t 7) },
    { dst := some 10, op := .load none (.t 9) },
    { dst := some 4, op := .mov (.t 10) }])
  (.reg false [
    { dst := some 11, op := .mov (.t 4) },
    { dst := some 12, op := .load none (.t 1) },
    { dst := some 13, op := .call 3190014000 20 [(.t 12)] },
    { dst := some 14, op := .nilck (.t 11) },
    { dst := none, op := .store 1 (.t 14) (.t 13) }]))))
  (.keep [1, 5, 6, 7] kh19i_0 (.reg false [
    { dst := some 15, op := .bin .add (.t 7) (.c (.int .i64 1)) },
    { dst := some 7, op := .mov (.t 15) }])))))))
/-- (*estreat/desk.line).act$1: parameters []*int -/
def c19i : AC :=
  (.seq (.reg false [
    { dst := some 5, op := .mov (.t 0) },
    { dst := some 6, op := .len (.t 5) },
    { dst := some 7, op := .mov (.c (.int .i64 0)) }])
  (.block 0 (.loop [1, 5, 6, 7] kh19i_0 b19i_0)))
/-- with its results -/
def a19i : AFun := ⟨c19i, [], 16⟩

end Go.Abs.Tryd

namespace Go.Abs
open Go
variable [Globs]
theorem fvx_int {G w k n cv fp} (h : FVal G w (.int k n) cv fp) : cv = .int k n ∧ fp = [] := by
  cases h with | cell h => cases h with | bare _ _ hb H => cases H; exact ⟨rfl, rfl⟩
theorem fvx_str {G w s cv fp} (h : FVal G w (.str s) cv fp) : cv = .string s ∧ fp = [] := by
  cases h with | cell h => cases h with | bare _ _ hb H => cases H; exact ⟨rfl, rfl⟩
theorem ints_inv {G : Gh} {h : AH} {c : Nat} {w : World} (k : IntKind) : ∀ (L : List Int) {vs : List Value}, LRel G h c w (ints k L) vs → vs = L.map fun x => Value.int k x
  | [], vs, H => H.nil_inv
  | x :: r, vs, H => by
    have H' : LRel G h c w (.int k x :: ints k r) vs := H
    obtain ⟨v, vs', rfl, h1, h2⟩ := H'.cons_inv
    cases h1
    rw [ints_inv k r h2]; rfl
/-- what the border asks at the end of a call that only adds to the memory -/
theorem x_close {P : Program} {f : Nat} {bs : List AV} {r : AV} {R0 R1 : Nat → Prop} {w : World} {cargs : List Value}
    (hbs : ∀ G w', FPvs G w' bs cargs [] []) (hold : ∀ b, R0 b ∨ R1 b → b < w.heap.size)
    (C : Calls P f ⟨cargs⟩ w fun e w' => ∃ cv, e = .returned cv ∧ RowKit.Below w.heap.size w w' ∧ ∀ G w', FRes G w' r cv []) :
    Calls P f ⟨cargs⟩ w fun e w' => ∃ cv R0' fpr fpp, e = .returned cv ∧ w.heap.size ≤ w'.heap.size ∧ w'.os = w.os ∧ w'.tape = w.tape ∧ w'.output = w.output ∧
      (∀ b, b < w.heap.size → b ∉ ([] : List Nat) → w'.heap[b]? = w.heap[b]?) ∧ (∀ b, R0 b → R0' b) ∧ (∀ b, R0' b → (R0 b ∨ b ∈ ([] : List Nat) ∨ w.heap.size ≤ b) ∧ b < w'.heap.size) ∧
      FRes (Gh.only R0' fun _ => False) w' r cv fpr ∧ FPvs (Gh.only R0' fun _ => False) w' bs cargs [] fpp ∧ (fpr ++ fpp).Nodup ∧ (∀ b ∈ fpr ++ fpp, (b ∈ ([] : List Nat) ∨ w.heap.size ≤ b) ∧ ¬ R0' b) := by
  refine C.mono ?_
  rintro e w' ⟨cv, rfl, B, H⟩
  refine ⟨cv, R0, [], [], rfl, B.size, B.os, B.tape, B.output, fun b hb _ => B.block b hb, fun b h => h, fun b h => ⟨.inl h, Nat.lt_of_lt_of_le (hold b (.inl h)) B.size⟩, H _ _, hbs _ _, by simp, by simp⟩
theorem fr_int {G : Gh} {w : World} (k : IntKind) (n : Int) : FVal G w (.int k n) (.int k n) [] := .cell (.bare _ _ rfl (.int k n))
theorem fr_str {G : Gh} {w : World} (s : ByteArray) : FVal G w (.str s) (.string s) [] := .cell (.bare _ _ rfl (.str s))
theorem fr_nilI {G : Gh} {w : World} : FVal G w .nilI .nilIface [] := .cell (.bare _ _ rfl .nilI)
theorem fr_ifc {G : Gh} {w : World} (t : TypeId) (v : Value) : FVal G w .ifc (.iface t v) [] := .cell (.bare _ _ rfl (.ifc t v))
end Go.Abs
namespace Go.Abs.Tryd
open Go Go.Abs Go.Proofs Go.Shelf Go.RowKit Go.Sort
set_option maxRecDepth 100000
/-- the numbers of the library's functions, types, variables in this program -/
def lib_ren : Ren := ⟨(fun x => match x with | 129 => 57 | 171 => 29 | 172 => 28 | 205 => 49 | 217 => 32 | 219 => 27 | 224 => 34 | 225 => 33 | 243 => 38 | 244 => 36 | 245 => 37 | 246 => 46 | 247 => 41 | 266 => 39 | 267 => 35 | 279 => 42 | 280 => 43 | 281 => 44 | 282 => 45 | 283 => 50 | 284 => 51 | 285 => 52 | 286 => 53 | 287 => 47 | 314 => 40 | 316 => 48 | 317 => 56 | 318 => 58 | 319 => 59 | 320 => 60 | 321 => 54 | 322 => 55 | 337 => 61 | 338 => 62 | n => n),
  (fun x => match x with | 0 => 0 | 2 => 2 | 3 => 3 | 4 => 4 | 5 => 5 | 9 => 9 | 15 => 15 | 16 => 16 | 17 => 17 | 18 => 18 | 19 => 19 | 20 => 20 | 21 => 21 | 37 => 68 | 46 => 62 | 51 => 64 | 53 => 75 | 75 => 56 | 76 => 57 | 80 => 38 | 85 => 69 | 127 => 88 | 143 => 89 | 145 => 91 | 146 => 65 | 167 => 67 | 168 => 71 | 171 => 82 | 173 => 85 | 175 => 76 | 210 => 80 | 212 => 93 | 213 => 94 | 232 => 97 | 233 => 98 | n => n),
  (fun x => match x with | 1 => 0 | 15 => 1 | 16 => 2 | 17 => 3 | 18 => 4 | 19 => 5 | n => n)⟩
set_option maxRecDepth 100000 in
theorem lib_Lays_n219 : Lays.n219 Tryd.prog lib_ren where
  mixed := by kernel_rfl
  f217 := Tryd.func32.trans (congrArg some (by kernel_rfl))
  f219 := Tryd.func27.trans (congrArg some (by kernel_rfl))
  f224 := Tryd.func34.trans (congrArg some (by kernel_rfl))
  f225 := Tryd.func33.trans (congrArg some (by kernel_rfl))
  f266 := Tryd.func39.trans (congrArg some (by kernel_rfl))
  f267 := Tryd.func35.trans (congrArg some (by kernel_rfl))
  f314 := Tryd.func40.trans (congrArg some (by kernel_rfl))
  t3 := Tryd.underlying3
  a3 := Tryd.isAgg3
  z3 := Tryd.sizeOf3
  v3 := Tryd.zeroValue3
  t4 := Tryd.underlying4
  a4 := Tryd.isAgg4
  z4 := Tryd.sizeOf4
  v4 := Tryd.zeroValue4
  t5 := Tryd.underlying5
  a5 := Tryd.isAgg5
  z5 := Tryd.sizeOf5
  v5 := Tryd.zeroValue5
  t9 := Tryd.underlying9
  a9 := Tryd.isAgg9
  z9 := Tryd.sizeOf9
  v9 := Tryd.zeroValue9
  t46 := Tryd.underlying62
  a46 := Tryd.isAgg62
  z46 := Tryd.sizeOf62
  v46 := Tryd.zeroValue62
  t51 := Tryd.underlying64
  a51 := Tryd.isAgg64
  z51 := Tryd.sizeOf64
  v51 := Tryd.zeroValue64
  t146 := Tryd.underlying65
  a146 := Tryd.isAgg65
  z146 := Tryd.sizeOf65
  v146 := Tryd.zeroValue65
  g1 := by kernel_rfl
set_option maxRecDepth 100000 in
theorem lib_LaysM_n171 : LaysM.n171 Tryd.prog lib_ren where
  mixed := by kernel_rfl
  f129 := Tryd.func57.trans (congrArg some (by kernel_rfl))
  f171 := Tryd.func29.trans (congrArg some (by kernel_rfl))
  f243 := Tryd.func38.trans (congrArg some (by kernel_rfl))
  f246 := Tryd.func46.trans (congrArg some (by kernel_rfl))
  f283 := Tryd.func50.trans (congrArg some (by kernel_rfl))
  f284 := Tryd.func51.trans (congrArg some (by kernel_rfl))
  f285 := Tryd.func52.trans (congrArg some (by kernel_rfl))
  f286 := Tryd.func53.trans (congrArg some (by kernel_rfl))
  f317 := Tryd.func56.trans (congrArg some (by kernel_rfl))
  f318 := Tryd.func58.trans (congrArg some (by kernel_rfl))
  f319 := Tryd.func59.trans (congrArg some (by kernel_rfl))
  f320 := Tryd.func60.trans (congrArg some (by kernel_rfl))
  f337 := Tryd.func61.trans (congrArg some (by kernel_rfl))
  f338 := Tryd.func62.trans (congrArg some (by kernel_rfl))
  t0 := Tryd.underlying0
  a0 := Tryd.isAgg0
  z0 := Tryd.sizeOf0
  v0 := Tryd.zeroValue0
  t2 := Tryd.underlying2
  a2 := Tryd.isAgg2
  z2 := Tryd.sizeOf2
  v2 := Tryd.zeroValue2
  t3 := Tryd.underlying3
  a3 := Tryd.isAgg3
  z3 := Tryd.sizeOf3
  v3 := Tryd.zeroValue3
  t4 := Tryd.underlying4
  a4 := Tryd.isAgg4
  z4 := Tryd.sizeOf4
  v4 := Tryd.zeroValue4
  t5 := Tryd.underlying5
  a5 := Tryd.isAgg5
  z5 := Tryd.sizeOf5
  v5 := Tryd.zeroValue5
  t9 := Tryd.underlying9
  a9 := Tryd.isAgg9
  z9 := Tryd.sizeOf9
  v9 := Tryd.zeroValue9
  t20 := Tryd.underlying20
  a20 := Tryd.isAgg20
  z20 := Tryd.sizeOf20
  v20 := Tryd.zeroValue20
  t37 := Tryd.underlying68
  a37 := Tryd.isAgg68
  z37 := Tryd.sizeOf68
  v37 := Tryd.zeroValue68
  t46 := Tryd.underlying62
  a46 := Tryd.isAgg62
  z46 := Tryd.sizeOf62
  v46 := Tryd.zeroValue62
  t51 := Tryd.underlying64
  a51 := Tryd.isAgg64
  z51 := Tryd.sizeOf64
  v51 := Tryd.zeroValue64
  t53 := Tryd.underlying75
  a53 := Tryd.isAgg75
  z53 := Tryd.sizeOf75
  v53 := Tryd.zeroValue75
  t171 := Tryd.underlying82
  a171 := Tryd.isAgg82
  z171 := Tryd.sizeOf82
  v171 := Tryd.zeroValue82
  t173 := Tryd.underlying85
  a173 := Tryd.isAgg85
  z173 := Tryd.sizeOf85
  v173 := Tryd.zeroValue85
  t212 := Tryd.underlying93
  a212 := Tryd.isAgg93
  z212 := Tryd.sizeOf93
  v212 := Tryd.zeroValue93
  t213 := Tryd.underlying94
  a213 := Tryd.isAgg94
  z213 := Tryd.sizeOf94
  t232 := Tryd.underlying97
  a232 := Tryd.isAgg97
  z232 := Tryd.sizeOf97
  v232 := Tryd.zeroValue97
  t233 := Tryd.underlying98
  a233 := Tryd.isAgg98
  z233 := Tryd.sizeOf98
  v233 := Tryd.zeroValue98
  g17 := by kernel_rfl
  g18 := by kernel_rfl
  g19 := by kernel_rfl
  i0 := by kernel_rfl
  i2 := by kernel_rfl
  i3 := by kernel_rfl
  i4 := by kernel_rfl
  i5 := by kernel_rfl
  i9 := by kernel_rfl
  i20 := by kernel_rfl
  i37 := by kernel_rfl
  i46 := by kernel_rfl
  i51 := by kernel_rfl
  i53 := by kernel_rfl
  i171 := by kernel_rfl
  i173 := by kernel_rfl
  i212 := by kernel_rfl
  i232 := by kernel_rfl
  i233 := by kernel_rfl
  m17 := by kernel_rfl
  m18 := by kernel_rfl
  m19 := by kernel_rfl
set_option maxRecDepth 100000 in
theorem lib_LaysC_n172 : LaysC.n172 Tryd.prog lib_ren where
  mixed := by kernel_rfl
  f129 := Tryd.func57.trans (congrArg some (by kernel_rfl))
  f171 := Tryd.func29.trans (congrArg some (by kernel_rfl))
  f172 := Tryd.func28.trans (congrArg some (by kernel_rfl))
  f205 := Tryd.func49.trans (congrArg some (by kernel_rfl))
  f243 := Tryd.func38.trans (congrArg some (by kernel_rfl))
  f244 := Tryd.func36.trans (congrArg some (by kernel_rfl))
  f245 := Tryd.func37.trans (congrArg some (by kernel_rfl))
  f246 := Tryd.func46.trans (congrArg some (by kernel_rfl))
  f247 := Tryd.func41.trans (congrArg some (by kernel_rfl))
  f279 := Tryd.func42.trans (congrArg some (by kernel_rfl))
  f280 := Tryd.func43.trans (congrArg some (by kernel_rfl))
  f281 := Tryd.func44.trans (congrArg some (by kernel_rfl))
  f282 := Tryd.func45.trans (congrArg some (by kernel_rfl))
  f283 := Tryd.func50.trans (congrArg some (by kernel_rfl))
  f284 := Tryd.func51.trans (congrArg some (by kernel_rfl))
  f285 := Tryd.func52.trans (congrArg some (by kernel_rfl))
  f286 := Tryd.func53.trans (congrArg some (by kernel_rfl))
  f287 := Tryd.func47.trans (congrArg some (by kernel_rfl))
  f316 := Tryd.func48.trans (congrArg some (by kernel_rfl))
  f317 := Tryd.func56.trans (congrArg some (by kernel_rfl))
  f318 := Tryd.func58.trans (congrArg some (by kernel_rfl))
  f319 := Tryd.func59.trans (congrArg some (by kernel_rfl))
  f320 := Tryd.func60.trans (congrArg some (by kernel_rfl))
  f321 := Tryd.func54.trans (congrArg some (by kernel_rfl))
  f322 := Tryd.func55.trans (congrArg some (by kernel_rfl))
  f337 := Tryd.func61.trans (congrArg some (by kernel_rfl))
  f338 := Tryd.func62.trans (congrArg some (by kernel_rfl))
  t0 := Tryd.underlying0
  a0 := Tryd.isAgg0
  z0 := Tryd.sizeOf0
  v0 := Tryd.zeroValue0
  t2 := Tryd.underlying2
  a2 := Tryd.isAgg2
  z2 := Tryd.sizeOf2
  v2 := Tryd.zeroValue2
  t3 := Tryd.underlying3
  a3 := Tryd.isAgg3
  z3 := Tryd.sizeOf3
  v3 := Tryd.zeroValue3
  t4 := Tryd.underlying4
  a4 := Tryd.isAgg4
  z4 := Tryd.sizeOf4
  v4 := Tryd.zeroValue4
  t5 := Tryd.underlying5
  a5 := Tryd.isAgg5
  z5 := Tryd.sizeOf5
  v5 := Tryd.zeroValue5
  t9 := Tryd.underlying9
  a9 := Tryd.isAgg9
  z9 := Tryd.sizeOf9
  v9 := Tryd.zeroValue9
  t20 := Tryd.underlying20
  a20 := Tryd.isAgg20
  z20 := Tryd.sizeOf20
  v20 := Tryd.zeroValue20
  t21 := Tryd.underlying21
  a21 := Tryd.isAgg21
  z21 := Tryd.sizeOf21
  v21 := Tryd.zeroValue21
  t37 := Tryd.underlying68
  a37 := Tryd.isAgg68
  z37 := Tryd.sizeOf68
  v37 := Tryd.zeroValue68
  t46 := Tryd.underlying62
  a46 := Tryd.isAgg62
  z46 := Tryd.sizeOf62
  v46 := Tryd.zeroValue62
  t51 := Tryd.underlying64
  a51 := Tryd.isAgg64
  z51 := Tryd.sizeOf64
  v51 := Tryd.zeroValue64
  t53 := Tryd.underlying75
  a53 := Tryd.isAgg75
  z53 := Tryd.sizeOf75
  v53 := Tryd.zeroValue75
  t75 := Tryd.underlying56
  a75 := Tryd.isAgg56
  z75 := Tryd.sizeOf56
  v75 := Tryd.zeroValue56
  t76 := Tryd.underlying57
  a76 := Tryd.isAgg57
  z76 := Tryd.sizeOf57
  v76 := Tryd.zeroValue57
  t85 := Tryd.underlying69
  a85 := Tryd.isAgg69
  z85 := Tryd.sizeOf69
  v85 := Tryd.zeroValue69
  t127 := Tryd.underlying88
  a127 := Tryd.isAgg88
  z127 := Tryd.sizeOf88
  v127 := Tryd.zeroValue88
  t143 := Tryd.underlying89
  a143 := Tryd.isAgg89
  z143 := Tryd.sizeOf89
  v143 := Tryd.zeroValue89
  t145 := Tryd.underlying91
  a145 := Tryd.isAgg91
  z145 := Tryd.sizeOf91
  v145 := Tryd.zeroValue91
  t167 := Tryd.underlying67
  a167 := Tryd.isAgg67
  z167 := Tryd.sizeOf67
  v167 := Tryd.zeroValue67
  t168 := Tryd.underlying71
  a168 := Tryd.isAgg71
  z168 := Tryd.sizeOf71
  v168 := Tryd.zeroValue71
  t171 := Tryd.underlying82
  a171 := Tryd.isAgg82
  z171 := Tryd.sizeOf82
  v171 := Tryd.zeroValue82
  t173 := Tryd.underlying85
  a173 := Tryd.isAgg85
  z173 := Tryd.sizeOf85
  v173 := Tryd.zeroValue85
  t175 := Tryd.underlying76
  a175 := Tryd.isAgg76
  z175 := Tryd.sizeOf76
  v175 := Tryd.zeroValue76
  t210 := Tryd.underlying80
  a210 := Tryd.isAgg80
  z210 := Tryd.sizeOf80
  v210 := Tryd.zeroValue80
  t212 := Tryd.underlying93
  a212 := Tryd.isAgg93
  z212 := Tryd.sizeOf93
  v212 := Tryd.zeroValue93
  t213 := Tryd.underlying94
  a213 := Tryd.isAgg94
  z213 := Tryd.sizeOf94
  t232 := Tryd.underlying97
  a232 := Tryd.isAgg97
  z232 := Tryd.sizeOf97
  v232 := Tryd.zeroValue97
  t233 := Tryd.underlying98
  a233 := Tryd.isAgg98
  z233 := Tryd.sizeOf98
  v233 := Tryd.zeroValue98
  g15 := by kernel_rfl
  g16 := by kernel_rfl
  g17 := by kernel_rfl
  g18 := by kernel_rfl
  g19 := by kernel_rfl
  t80 := Tryd.underlying38
  a80 := Tryd.isAgg38
  z80 := Tryd.sizeOf38
  v80 := Tryd.zeroValue38
  i0 := by kernel_rfl
  i2 := by kernel_rfl
  i3 := by kernel_rfl
  i4 := by kernel_rfl
  i5 := by kernel_rfl
  i9 := by kernel_rfl
  i20 := by kernel_rfl
  i21 := by kernel_rfl
  i37 := by kernel_rfl
  i46 := by kernel_rfl
  i51 := by kernel_rfl
  i53 := by kernel_rfl
  i75 := by kernel_rfl
  i76 := by kernel_rfl
  i80 := by kernel_rfl
  i85 := by kernel_rfl
  i127 := by kernel_rfl
  i143 := by kernel_rfl
  i145 := by kernel_rfl
  i167 := by kernel_rfl
  i168 := by kernel_rfl
  i171 := by kernel_rfl
  i173 := by kernel_rfl
  i175 := by kernel_rfl
  i210 := by kernel_rfl
  i212 := by kernel_rfl
  i232 := by kernel_rfl
  i233 := by kernel_rfl
  m15 := by kernel_rfl
  m16 := by kernel_rfl
  m17 := by kernel_rfl
  m18 := by kernel_rfl
  m19 := by kernel_rfl
  c0 := by kernel_rfl
  c2 := by kernel_rfl
  c3 := by kernel_rfl
  c4 := by kernel_rfl
  c5 := by kernel_rfl
  c9 := by kernel_rfl
  c20 := by kernel_rfl
  c21 := by kernel_rfl
  c37 := by kernel_rfl
  c46 := by kernel_rfl
  c51 := by kernel_rfl
  c53 := by kernel_rfl
  c75 := by kernel_rfl
  c76 := by kernel_rfl
  c80 := by kernel_rfl
  c85 := by kernel_rfl
  c127 := by kernel_rfl
  c143 := by kernel_rfl
  c145 := by kernel_rfl
  c167 := by kernel_rfl
  c168 := by kernel_rfl
  c171 := by kernel_rfl
  c173 := by kernel_rfl
  c175 := by kernel_rfl
  c210 := by kernel_rfl
  c212 := by kernel_rfl
  c213 := by kernel_rfl
  c232 := by kernel_rfl
  c233 := by kernel_rfl
/-- strings.Index, where the substring is one byte -/
def F27 : CallF := fun
  | [.str s, .str ⟨⟨[c]⟩⟩] => some (.int .i64 (Lib.indexByte s.data.toList c), [])
  | _ => none
/-- strconv.Atoi -/
def F28 : CallF := fun
  | [.str s] => if s.size ≤ 281474976710656 then match Lib.atoiAll s.data.toList with
    | .ok v => some (.tup [.int .i64 v, .nilI], [])
    | .range => some (.tup [.int .i64 (Lib.atoiSat s.data.toList), .ifc], [])
    | _ => some (.tup [.int .i64 0, .ifc], []) else none
  | _ => none
/-- strconv.Itoa -/
def F29 : CallF := fun
  | [.int .i64 n] => if -9223372036854775808 ≤ n ∧ n ≤ 9223372036854775807 then some (.str ⟨(Lib.itoa n).toArray⟩, []) else none
  | _ => none
theorem ref27 : Refines Tryd.prog 27 F27 := by
  intro bs r ps he R0 R1 w cargs fp hgl FV hnd hfp hold
  unfold F27 at he
  split at he
  · next s c =>
    simp only [Option.some.injEq, Prod.mk.injEq] at he
    obtain ⟨rfl, rfl⟩ := he
    cases FV with
    | cons h1 t =>
      cases t with
      | cons h2 t =>
        cases t
        obtain ⟨rfl, rfl⟩ := fvx_str h1
        obtain ⟨rfl, rfl⟩ := fvx_str h2
        simp only [List.nil_append, List.append_nil] at hfp ⊢
        refine x_close (fun G w' => .skip (by intro _ h; cases h) (.skip (by intro _ h; cases h) .nil)) hold ?_
        refine (Any.stringslite_Index_one lib_Lays_n219 s c w).mono ?_
        rintro e w' ⟨rfl, rfl⟩
        exact ⟨_, rfl, Below.refl _ _, fun _ _ => .val (fr_int _ _)⟩
  · cases he
theorem ref29 : Refines Tryd.prog 29 F29 := by
  intro bs r ps he R0 R1 w cargs fp hgl FV hnd hfp hold
  unfold F29 at he
  split at he
  · next n =>
    split at he
    · next hn =>
      simp only [Option.some.injEq, Prod.mk.injEq] at he
      obtain ⟨rfl, rfl⟩ := he
      cases FV with
      | cons h1 t =>
        cases t
        obtain ⟨rfl, rfl⟩ := fvx_int h1
        simp only [List.nil_append, List.append_nil] at hfp ⊢
        refine x_close (fun G w' => .skip (by intro _ h; cases h) .nil) hold ?_
        obtain ⟨_, _, vs, el, fz, h3, h4⟩ := hgl 3 glob3 rfl
        have e3 : glob3 = ints .u64 Lib.pow10Tab := by kernel_rfl
        have e4 := ints_inv .u64 Lib.pow10Tab (vs := vs) (by have := h3 (Gh.only R0 R1) [] 0 w; rw [e3] at this; exact this)
        have htab : Lib.TabIs Tryd.prog w "internal/strconv.uint64pow10" .u64 Lib.pow10Tab := by
          unfold Lib.TabIs World.var?
          rw [show Tryd.prog.globalNamed "internal/strconv.uint64pow10" = some 3 by kernel_rfl]
          simp only [Option.bind_some, h4, e4]
        refine (Any.strconv_Itoa lib_LaysM_n171 n hn.1 hn.2 w htab).mono ?_
        rintro e w' ⟨rfl, k, os, rfl⟩
        refine ⟨_, rfl, ⟨rfl, rfl, rfl, by simp [grow, World.drewN], fun b hb => ?_⟩, fun _ _ => .val (fr_str _)⟩
        simp only [grow, World.drewN]
        rw [Array.getElem?_append_left hb]
    · cases he
  · cases he
theorem ref28 : Refines Tryd.prog 28 F28 := by
  intro bs r ps he R0 R1 w cargs fp hgl FV hnd hfp hold
  unfold F28 at he
  split at he
  · next s =>
    split at he
    · next hs =>
      have hC : ∀ n gl, Globs.look n = some gl → gl = [.ifc] → ∃ t v, w.cell? ⟨n, 0, none⟩ = some (.iface t v) := by
        intro n gl hl hg
        obtain ⟨_, _, vs, el, fz, h3, h4⟩ := hgl n gl hl
        rw [hg] at h3
        obtain ⟨v, vs', rfl, h5, h6⟩ := (h3 (Gh.only R0 R1) [] 0 w).cons_inv
        cases h5 with
        | ifc t v => exact ⟨t, v, cell_of_cells h4 0 rfl⟩
      cases FV with
      | cons h1 t =>
        cases t
        obtain ⟨rfl, rfl⟩ := fvx_str h1
        simp only [List.nil_append, List.append_nil] at hfp ⊢
        split at he
        · next v hv =>
          simp only [Option.some.injEq, Prod.mk.injEq] at he
          obtain ⟨rfl, rfl⟩ := he
          refine x_close (fun G w' => .skip (by intro _ h; cases h) .nil) hold ?_
          refine (Any.strconv_Atoi_ok lib_LaysC_n172 s (by omega) v hv w).mono ?_
          rintro e w' ⟨rfl, hw⟩
          refine ⟨_, rfl, ?_, fun _ _ => .tup (.cons (fr_int _ _) (.cons fr_nilI .nil))⟩
          rcases hw with rfl | ⟨t, rfl⟩
          · exact Below.refl _ _
          · exact Lib.bytesWorld_below _ _ _
        · next hv =>
          simp only [Option.some.injEq, Prod.mk.injEq] at he
          obtain ⟨rfl, rfl⟩ := he
          refine x_close (fun G w' => .skip (by intro _ h; cases h) .nil) hold ?_
          obtain ⟨te, pe, hc⟩ := hC 2 glob2 rfl rfl
          refine (Any.strconv_Atoi_range lib_LaysC_n172 s hs hv _ w hc (.inr ⟨te, pe, rfl⟩)).mono ?_
          rintro e w' ⟨N, rfl, _, _, hb⟩
          exact ⟨_, rfl, hb, fun _ _ => .tup (.cons (fr_int _ _) (.cons (fr_ifc _ _) .nil))⟩
        · next hn1 hn2 =>
          rcases hv : Lib.atoiAll s.data.toList with v | _ | _
          · exact absurd hv (hn1 v)
          · simp only [Option.some.injEq, Prod.mk.injEq] at he
            obtain ⟨rfl, rfl⟩ := he
            refine x_close (fun G w' => .skip (by intro _ h; cases h) .nil) hold ?_
            obtain ⟨te, pe, hc⟩ := hC 1 glob1 rfl rfl
            refine (Any.strconv_Atoi_syntax lib_LaysC_n172 s hs hv _ w hc (.inr ⟨te, pe, rfl⟩)).mono ?_
            rintro e w' ⟨N, rfl, _, _, hb⟩
            exact ⟨_, rfl, hb, fun _ _ => .tup (.cons (fr_int _ _) (.cons (fr_ifc _ _) .nil))⟩
          · exact absurd hv hn2
    · cases he
  · cases he
def X : Nat → Option CallF := fun f => match f with
  | 27 => some F27
  | 28 => some F28
  | 29 => some F29
  | _ => none
theorem xok : XOK Tryd.prog X := by
  intro f F h
  unfold X at h
  split at h
  · obtain rfl := Option.some.inj h; exact ⟨by kernel_rfl, ref27⟩
  · obtain rfl := Option.some.inj h; exact ⟨by kernel_rfl, ref28⟩
  · obtain rfl := Option.some.inj h; exact ⟨by kernel_rfl, ref29⟩
  · cases h
end Go.Abs.Tryd

namespace Go.Abs.Tryd
open Go Go.Abs Go.Proofs
/-- the seat's code -/
def T : List (Nat × AFun) := [(3, a3), (4, a4), (5, a5), (6, a6), (7, a7), (8, a8), (9, a9), (10, a10), (11, a11), (12, a12), (13, a13), (14, a14), (15, a15), (16, a16), (17, a17), (18, a18), (19, a19), (20, a20), (21, a21), (22, a22), (23, a23), (24, a24), (25, a25), (26, a26), (30, a30), (31, a31)]
def T2 : List (Nat × AFun) := [(19, a19i)]
theorem tab : tabOK Tryd.prog T = true := by kernel_rfl
theorem tab2 : tabOK Tryd.prog T2 = true := by kernel_rfl
def Q (n : Nat) : Nat → Option FnF := PhiX X T T2 600000 n
def E (n f : Nat) : CallF := EvX X T T2 600000 n f
def I (n f : Nat) : InlF := IvX X T T2 600000 n f
def J (n f : Nat) : Nat → InlF → InlF := JvX X T T2 600000 n f
theorem q3 (n : Nat) : Q (n + 1) 3 = some ⟨E (n + 1) 3, I (n + 1) 3, J (n + 1) 3, InlF.none⟩ := rfl
theorem e3 (n : Nat) : E (n + 1) 3 = evFun (Q n) 600000 a3 := rfl
theorem q4 (n : Nat) : Q (n + 1) 4 = some ⟨E (n + 1) 4, I (n + 1) 4, J (n + 1) 4, InlF.none⟩ := rfl
theorem e4 (n : Nat) : E (n + 1) 4 = evFun (Q n) 600000 a4 := rfl
theorem q5 (n : Nat) : Q (n + 1) 5 = some ⟨E (n + 1) 5, I (n + 1) 5, J (n + 1) 5, InlF.none⟩ := rfl
theorem e5 (n : Nat) : E (n + 1) 5 = evFun (Q n) 600000 a5 := rfl
theorem q6 (n : Nat) : Q (n + 1) 6 = some ⟨E (n + 1) 6, I (n + 1) 6, J (n + 1) 6, InlF.none⟩ := rfl
theorem e6 (n : Nat) : E (n + 1) 6 = evFun (Q n) 600000 a6 := rfl
theorem q7 (n : Nat) : Q (n + 1) 7 = some ⟨E (n + 1) 7, I (n + 1) 7, J (n + 1) 7, InlF.none⟩ := rfl
theorem e7 (n : Nat) : E (n + 1) 7 = evFun (Q n) 600000 a7 := rfl
theorem q8 (n : Nat) : Q (n + 1) 8 = some ⟨E (n + 1) 8, I (n + 1) 8, J (n + 1) 8, InlF.none⟩ := rfl
theorem e8 (n : Nat) : E (n + 1) 8 = evFun (Q n) 600000 a8 := rfl
theorem q9 (n : Nat) : Q (n + 1) 9 = some ⟨E (n + 1) 9, I (n + 1) 9, J (n + 1) 9, InlF.none⟩ := rfl
theorem e9 (n : Nat) : E (n + 1) 9 = evFun (Q n) 600000 a9 := rfl
theorem q10 (n : Nat) : Q (n + 1) 10 = some ⟨E (n + 1) 10, I (n + 1) 10, J (n + 1) 10, InlF.none⟩ := rfl
theorem e10 (n : Nat) : E (n + 1) 10 = evFun (Q n) 600000 a10 := rfl
theorem q11 (n : Nat) : Q (n + 1) 11 = some ⟨E (n + 1) 11, I (n + 1) 11, J (n + 1) 11, InlF.none⟩ := rfl
theorem e11 (n : Nat) : E (n + 1) 11 = evFun (Q n) 600000 a11 := rfl
theorem q12 (n : Nat) : Q (n + 1) 12 = some ⟨E (n + 1) 12, I (n + 1) 12, J (n + 1) 12, InlF.none⟩ := rfl
theorem e12 (n : Nat) : E (n + 1) 12 = evFun (Q n) 600000 a12 := rfl
theorem q13 (n : Nat) : Q (n + 1) 13 = some ⟨E (n + 1) 13, I (n + 1) 13, J (n + 1) 13, InlF.none⟩ := rfl
theorem e13 (n : Nat) : E (n + 1) 13 = evFun (Q n) 600000 a13 := rfl
theorem q14 (n : Nat) : Q (n + 1) 14 = some ⟨E (n + 1) 14, I (n + 1) 14, J (n + 1) 14, InlF.none⟩ := rfl
theorem e14 (n : Nat) : E (n + 1) 14 = evFun (Q n) 600000 a14 := rfl
theorem q15 (n : Nat) : Q (n + 1) 15 = some ⟨E (n + 1) 15, I (n + 1) 15, J (n + 1) 15, InlF.none⟩ := rfl
theorem e15 (n : Nat) : E (n + 1) 15 = evFun (Q n) 600000 a15 := rfl
theorem q16 (n : Nat) : Q (n + 1) 16 = some ⟨E (n + 1) 16, I (n + 1) 16, J (n + 1) 16, InlF.none⟩ := rfl
theorem e16 (n : Nat) : E (n + 1) 16 = evFun (Q n) 600000 a16 := rfl
theorem q17 (n : Nat) : Q (n + 1) 17 = some ⟨E (n + 1) 17, I (n + 1) 17, J (n + 1) 17, InlF.none⟩ := rfl
theorem e17 (n : Nat) : E (n + 1) 17 = evFun (Q n) 600000 a17 := rfl
theorem q18 (n : Nat) : Q (n + 1) 18 = some ⟨E (n + 1) 18, I (n + 1) 18, J (n + 1) 18, InlF.none⟩ := rfl
theorem e18 (n : Nat) : E (n + 1) 18 = evFun (Q n) 600000 a18 := rfl
theorem q19 (n : Nat) : Q (n + 1) 19 = some ⟨E (n + 1) 19, I (n + 1) 19, J (n + 1) 19, InlF.none⟩ := rfl
theorem e19 (n : Nat) : E (n + 1) 19 = evFun (Q n) 600000 a19 := rfl
theorem q20 (n : Nat) : Q (n + 1) 20 = some ⟨E (n + 1) 20, I (n + 1) 20, J (n + 1) 20, InlF.none⟩ := rfl
theorem e20 (n : Nat) : E (n + 1) 20 = evFun (Q n) 600000 a20 := rfl
theorem q21 (n : Nat) : Q (n + 1) 21 = some ⟨E (n + 1) 21, I (n + 1) 21, J (n + 1) 21, InlF.none⟩ := rfl
theorem e21 (n : Nat) : E (n + 1) 21 = evFun (Q n) 600000 a21 := rfl
theorem q22 (n : Nat) : Q (n + 1) 22 = some ⟨E (n + 1) 22, I (n + 1) 22, J (n + 1) 22, InlF.none⟩ := rfl
theorem e22 (n : Nat) : E (n + 1) 22 = evFun (Q n) 600000 a22 := rfl
theorem q23 (n : Nat) : Q (n + 1) 23 = some ⟨E (n + 1) 23, I (n + 1) 23, J (n + 1) 23, InlF.none⟩ := rfl
theorem e23 (n : Nat) : E (n + 1) 23 = evFun (Q n) 600000 a23 := rfl
theorem q24 (n : Nat) : Q (n + 1) 24 = some ⟨E (n + 1) 24, I (n + 1) 24, J (n + 1) 24, InlF.none⟩ := rfl
theorem e24 (n : Nat) : E (n + 1) 24 = evFun (Q n) 600000 a24 := rfl
theorem q25 (n : Nat) : Q (n + 1) 25 = some ⟨E (n + 1) 25, I (n + 1) 25, J (n + 1) 25, InlF.none⟩ := rfl
theorem e25 (n : Nat) : E (n + 1) 25 = evFun (Q n) 600000 a25 := rfl
theorem q26 (n : Nat) : Q (n + 1) 26 = some ⟨E (n + 1) 26, I (n + 1) 26, J (n + 1) 26, InlF.none⟩ := rfl
theorem e26 (n : Nat) : E (n + 1) 26 = evFun (Q n) 600000 a26 := rfl
theorem q30 (n : Nat) : Q (n + 1) 30 = some ⟨E (n + 1) 30, I (n + 1) 30, J (n + 1) 30, InlF.none⟩ := rfl
theorem e30 (n : Nat) : E (n + 1) 30 = evFun (Q n) 600000 a30 := rfl
theorem q31 (n : Nat) : Q (n + 1) 31 = some ⟨E (n + 1) 31, I (n + 1) 31, J (n + 1) 31, InlF.none⟩ := rfl
theorem e31 (n : Nat) : E (n + 1) 31 = evFun (Q n) 600000 a31 := rfl
theorem q27 (n : Nat) : Q (n + 1) 27 = some ⟨E (n + 1) 27, I (n + 1) 27, J (n + 1) 27, InlF.none⟩ := rfl
theorem q28 (n : Nat) : Q (n + 1) 28 = some ⟨E (n + 1) 28, I (n + 1) 28, J (n + 1) 28, InlF.none⟩ := rfl
theorem q29 (n : Nat) : Q (n + 1) 29 = some ⟨E (n + 1) 29, I (n + 1) 29, J (n + 1) 29, InlF.none⟩ := rfl
theorem i19 (n : Nat) : I (n + 1) 19 = evInl (Q n) 600000 a19i := rfl
theorem j19 (n : Nat) : J (n + 1) 19 = evItr (Q n) 600000 a19i := rfl
theorem ref (n f : Nat) {F} (h : Q n f = some F) : Refines Tryd.prog f (E n f) := EvX_refines xok tab tab2 h
end Go.Abs.Tryd

namespace Go.Abs
open Go
/-- bytes as a string -/
abbrev sB (l : List UInt8) : ByteArray := ⟨l.toArray⟩
theorem sB_eta (s : ByteArray) : s = sB s.data.toList := by cases s; simp [sB]
theorem sB_mk (a : Array UInt8) : (⟨a⟩ : ByteArray) = sB a.toList := by simp [sB]
theorem sB_data (l : List UInt8) : (sB l).data.toList = l := rfl
theorem sB_size (l : List UInt8) : (sB l).size = l.length := by simp [sB, ByteArray.size]
theorem sB_list (l : List UInt8) : (sB l).toList = l := by rw [Go.Lib.toList_data]
theorem sB_app (a b : List UInt8) : sB a ++ sB b = sB (a ++ b) := by
  have h : (sB a ++ sB b).data = (sB (a ++ b)).data := by simp [sB]
  generalize sB a ++ sB b = x at h
  generalize sB (a ++ b) = y at h
  cases x; cases y; simp_all
theorem sB_ext (l : List UInt8) (i j : Nat) : (sB l).extract i j = sB ((l.take j).drop i) := by
  have h : ((sB l).extract i j).data = (sB ((l.take j).drop i)).data := by
    simp [sB, List.drop_take]
  generalize (sB l).extract i j = x at h
  generalize sB ((l.take j).drop i) = y at h
  cases x; cases y; simp_all
theorem sB_inj {a b : List UInt8} : sB a = sB b ↔ a = b := ⟨fun h => by have := congrArg (fun s : ByteArray => s.data.toList) h; exact this, fun h => by rw [h]⟩
theorem sB_add (a b : List UInt8) (h : a.length + b.length ≤ 1000000000) : astr .add (sB a) (sB b) = some (.str (sB (a ++ b))) := by
  unfold astr
  simp only [sB_size, sB_app]
  rw [if_neg]
  have : IntKind.i64.max = 9223372036854775807 := by decide
  omega
end Go.Abs
namespace Go.Abs.Tryd
open Go Go.Abs Go.Abs.Desk
set_option maxHeartbeats 16000000
set_option maxRecDepth 100000
set_option linter.unusedSimpArgs false
set_option linter.unusedVariables false
theorem x27 (n : Nat) (l : B) (c : UInt8) : E (n + 1) 27 [.str (sB l), .str (sB [c])] = some (.int .i64 (Lib.indexByte l c), []) := rfl
theorem x29 (n : Nat) (z : Int) (h0 : -9223372036854775808 ≤ z) (h1 : z ≤ 9223372036854775807) : E (n + 1) 29 [.int .i64 z] = some (.str (sB (Lib.itoa z)), []) := by
  show F29 [.int .i64 z] = _
  simp only [F29]; rw [if_pos ⟨h0, h1⟩]
theorem index18 (n : Nat) (l : B) (c : UInt8) : E (n + 2) 18 [.str (sB l), .str (sB [c])] = some (.int .i64 (Lib.indexByte l c), []) := by
  rw [e18]
  simp -implicitDefEqProofs [a18, c18, q27, x27]
theorem idx_lt : ∀ (l : B) (c : UInt8), Lib.indexByte l c < l.length := by
  intro l c
  induction l with
  | nil => simp [Lib.indexByte]
  | cons b l ih =>
    simp only [Lib.indexByte, List.length_cons]
    split
    · omega
    · split <;> omega
theorem idx_mem : ∀ (l : B) (c : UInt8), (0 ≤ Lib.indexByte l c) ↔ c ∈ l := by
  intro l c
  induction l with
  | nil => simp [Lib.indexByte]
  | cons b l ih =>
    simp only [Lib.indexByte, List.mem_cons]
    have hge := Lib.indexByte_ge l c
    by_cases h : b = c
    · simp [h]
    · rw [if_neg (by simpa using h)]
      by_cases h2 : Lib.indexByte l c = -1
      · simp [h2, Ne.symm h]
        intro hm; have := ih.2 hm; omega
      · rw [if_neg (by simpa using h2)]
        constructor
        · intro _; exact .inr (ih.1 (by omega))
        · intro hm; rcases hm with hm | hm
          · exact absurd hm.symm h
          · have := ih.2 hm; omega
theorem contains10 (n : Nat) (l : B) (c : UInt8) : E (n + 3) 10 [.str (sB l), .str (sB [c])] = some (.bool (decide (c ∈ l)), []) := by
  rw [e10]
  have h : decide (0 ≤ Lib.indexByte l c) = decide (c ∈ l) := by
    by_cases hm : c ∈ l
    · simp [hm, (idx_mem l c).2 hm]
    · simp [hm, mt (idx_mem l c).1 hm]
  simp -implicitDefEqProofs [a10, c10, q18, index18, h]
theorem cut_idx : ∀ l : B, (Lib.indexByte l 32 = -1 ∧ cut l = (l, [], false)) ∨ (∃ i : Nat, Lib.indexByte l 32 = i ∧ i < l.length ∧ cut l = (l.take i, l.drop (i + 1), true)) := by
  intro l
  induction l with
  | nil => exact .inl ⟨rfl, rfl⟩
  | cons b l ih =>
    simp only [Lib.indexByte, cut]
    by_cases h : b = 32
    · exact .inr ⟨0, by simp [h], by simp, by simp [h]⟩
    · rw [if_neg (by simpa using h), if_neg h]
      rcases ih with ⟨h1, h2⟩ | ⟨i, h1, h2, h3⟩
      · exact .inl ⟨by simp [h1], by simp [h2]⟩
      · exact .inr ⟨i + 1, by rw [h1, if_neg (by simp)]; omega, by simp; omega, by simp [h3]⟩
theorem cut30 (n : Nat) (l : B) (hl : l.length ≤ 1000000) : E (n + 2) 30 [.str (sB l), .str (sB [32])] = some (.tup [.str (sB (cut l).1), .str (sB (cut l).2.1), .bool (cut l).2.2], []) := by
  rw [e30]
  rcases cut_idx l with ⟨h1, h2⟩ | ⟨i, h1, h2, h3⟩
  · simp -implicitDefEqProofs [a30, c30, q27, x27, h1, h2]
  · have g1 : (0 : Int) ≤ (i : Int) := by omega
    have w1 : IntKind.i64.wrap ((i : Int) + 1) = (i : Int) + 1 := wrap_i64 _ (by omega) (by omega)
    have b1 : (i : Int) ≤ (l.length : Int) := by omega
    have b2 : (i : Int) + 1 ≤ (l.length : Int) := by omega
    have b3 : (0 : Int) ≤ (i : Int) + 1 := by omega
    have b4 : ((i : Int) + 1).toNat = i + 1 := by omega
    have b5 : i ≤ l.length := by omega
    have b6 : i + 1 ≤ l.length := by omega
    have t1 : (List.take i l).drop 0 = l.take i := rfl
    have t2 : (List.take l.length l).drop (i + 1) = l.drop (i + 1) := by rw [List.take_of_length_le (Nat.le_refl _)]
    simp -implicitDefEqProofs [a30, c30, q27, x27, h1, h3, g1, w1, b1, b2, b3, b4, b5, b6, sB_size, sB_ext, bound, t1, t2]
end Go.Abs.Tryd

namespace Go.Abs.Tryd
open Go Go.Abs Go.Abs.Desk
set_option maxHeartbeats 16000000
set_option maxRecDepth 100000
set_option linter.unusedSimpArgs false
set_option linter.unusedVariables false
theorem cut21 (n : Nat) (l : B) (hl : l.length ≤ 1000000) : E (n + 3) 21 [.str (sB l), .str (sB [32])] = some (.tup [.str (sB (cut l).1), .str (sB (cut l).2.1), .bool (cut l).2.2], []) := by
  rw [e21]
  have h := cut30 n l hl
  generalize cut l = q at h ⊢
  obtain ⟨q1, q2, q3⟩ := q
  simp -implicitDefEqProofs [a21, c21, q30, h]
/-- the words that are read, as cells -/
def lnV (s : Ln) : List AV := [.str (sB s.rest), .bool s.more, .bool s.no]
theorem word12 (n : Nat) (s : Ln) (hl : s.rest.length ≤ 1000000) : E (n + 4) 12 [.pv (lnV s)] = some (.str (sB (word s).1), [lnV (word s).2]) := by
  rw [e12]
  obtain ⟨r, m, no⟩ := s
  have h := cut21 n r hl
  unfold word lnV
  cases m with
  | false => simp -implicitDefEqProofs [a12, c12]
  | true =>
    simp only [↓reduceIte]
    generalize cut r = q at h ⊢
    obtain ⟨q1, q2, q3⟩ := q
    simp -implicitDefEqProofs [a12, c12, q21, h]
theorem x28_ok (n : Nat) (l : B) (v : Int) (hl : l.length ≤ 1000000) (h : Lib.atoiAll l = .ok v) : E (n + 1) 28 [.str (sB l)] = some (.tup [.int .i64 v, .nilI], []) := by
  show F28 [.str (sB l)] = _
  simp only [F28, sB_size]; rw [if_pos (by omega)]; simp only [h]
theorem x28_bad (n : Nat) (l : B) (hl : l.length ≤ 1000000) (h : ∀ v, Lib.atoiAll l ≠ .ok v) : ∃ z, E (n + 1) 28 [.str (sB l)] = some (.tup [.int .i64 z, .ifc], []) := by
  show ∃ z, F28 [.str (sB l)] = _
  simp only [F28, sB_size]; rw [if_pos (by omega)]
  rcases ha : Lib.atoiAll l with v | _ | _
  · exact absurd ha (h v)
  · exact ⟨0, rfl⟩
  · exact ⟨_, rfl⟩
theorem cut_le (l : B) : (cut l).1.length ≤ l.length ∧ (cut l).2.1.length ≤ l.length := by
  rcases cut_idx l with ⟨h1, h2⟩ | ⟨i, h1, h2, h3⟩
  · simp [h2]
  · simp [h3]; omega
theorem word_le (s : Ln) : (word s).1.length ≤ s.rest.length ∧ (word s).2.rest.length ≤ s.rest.length := by
  unfold word
  split
  · exact cut_le _
  · simp
theorem num_none {w : B} (h : ∀ v, Lib.atoiAll w ≠ .ok v) : num? w = none := by
  unfold num?
  rcases ha : Lib.atoiAll w with v | _ | _
  · exact absurd ha (h v)
  · rfl
  · rfl
theorem num_ok {w : B} {v : Int} (h : Lib.atoiAll w = .ok v) : num? w = if w.length ≤ 7 ∧ 0 ≤ v ∧ v ≤ 1000000 ∧ Lib.itoa v = w then some v else none := by
  unfold num?; rw [h]
theorem number20 (n : Nat) (s : Ln) (hl : s.rest.length ≤ 1000000) : E (n + 5) 20 [.pv (lnV s)] = some (.int .i64 (number s).1, [lnV (number s).2]) := by
  rw [e20]
  have hw := word12 n s hl
  have hle := word_le s
  unfold number
  generalize word s = p at hw hle ⊢
  obtain ⟨w, s'⟩ := p
  obtain ⟨r', m', no'⟩ := s'
  simp only at hw hle ⊢
  have hwl : w.length ≤ 1000000 := by omega
  unfold lnV at hw ⊢
  by_cases ha : ∃ v, Lib.atoiAll w = .ok v
  · obtain ⟨v, hv⟩ := ha
    obtain ⟨b0, b1⟩ := Lib.atoiAll_bounds hv
    have c1 := x28_ok (n + 3) w v hwl hv
    have c2 := x29 (n + 3) v b0 b1
    rw [num_ok hv]
    by_cases h1 : w.length ≤ 7
    · have d1 : ¬ ((7 : Int) < (w.length : Int)) := by omega
      by_cases h2 : v < 0
      · have d2 : ¬ (0 ≤ v) := by omega
        simp -implicitDefEqProofs [a20, c20, q12, q28, q29, hw, c1, c2, d1, h2, d2]
      · have d2 : 0 ≤ v := by omega
        by_cases h3 : 1000000 < v
        · have d3 : ¬ v ≤ 1000000 := by omega
          simp -implicitDefEqProofs [a20, c20, q12, q28, q29, hw, c1, c2, d1, h2, d2, h3, d3]
        · have d3 : v ≤ 1000000 := by omega
          by_cases h4 : Lib.itoa v = w
          · simp -implicitDefEqProofs [a20, c20, q12, q28, q29, hw, c1, c2, d1, h2, d2, h3, d3, h4, h1]
          · have h5 : (Lib.itoa v == w) = false := by simpa using h4
            simp -implicitDefEqProofs [a20, c20, q12, q28, q29, hw, c1, c2, d1, h2, d2, h3, d3, h4, h5, h1]
    · have d1 : (7 : Int) < (w.length : Int) := by omega
      simp -implicitDefEqProofs [a20, c20, q12, q28, q29, hw, c1, c2, d1, h1]
  · have ha' : ∀ v, Lib.atoiAll w ≠ .ok v := fun v hv => ha ⟨v, hv⟩
    obtain ⟨z, c1⟩ := x28_bad (n + 3) w hwl ha'
    rw [num_none ha']
    simp -implicitDefEqProofs [a20, c20, q12, q28, hw, c1]
end Go.Abs.Tryd

namespace Go.Abs.Tryd
open Go Go.Abs Go.Abs.Desk
set_option maxHeartbeats 16000000
set_option maxRecDepth 100000
set_option linter.unusedSimpArgs false
set_option linter.unusedVariables false
theorem num_le (s : Ln) : (number s).2.rest.length ≤ s.rest.length := by
  have := (word_le s).2
  unfold number
  split <;> exact this
theorem wr1 : IntKind.i64.wrap 1 = 1 := by decide
theorem wr2 : IntKind.i64.wrap 2 = 2 := by decide
theorem take18 (n : Nat) (s : Ln) (k : Int) (hl : s.rest.length ≤ 1000000) :
    I (n + 6) 19 [⟨2, 1, .var [.ptr 100000 0 0]⟩, ⟨4, 2, .var z24⟩, ⟨5, 3, .var [.int .i64 k, .int .i64 0, .int .i64 0, .int .i64 0, .int .i64 0, .str ⟨#[]⟩]⟩, ⟨18, 4, .var [.ptr 5 3 1, .ptr 5 3 2]⟩, ⟨100000, 0, .var (lnV s)⟩] 5 [.vsl 18 4 0 2, .ptr 2 1 0] =
      some (.tup [], [⟨2, 1, .var [.ptr 100000 0 0]⟩, ⟨4, 2, .var z24⟩, ⟨5, 3, .var [.int .i64 k, .int .i64 (number s).1, .int .i64 (number (number s).2).1, .int .i64 0, .int .i64 0, .str ⟨#[]⟩]⟩, ⟨18, 4, .var [.ptr 5 3 1, .ptr 5 3 2]⟩, ⟨100000, 0, .var (lnV (number (number s).2).2)⟩], 5) := by
  rw [i19]
  have h1 := number20 n s hl
  have h2 := number20 n (number s).2 (Nat.le_trans (num_le s) hl)
  generalize number s = p1 at h1 h2 ⊢
  obtain ⟨n1, s1⟩ := p1
  simp only at h1 h2 ⊢
  generalize number s1 = p2 at h2 ⊢
  obtain ⟨n2, s2⟩ := p2
  unfold lnV at h1 h2 ⊢
  simp -implicitDefEqProofs [evInl, a19i, c19i, kh19i_0]
  rw [iter_keep]
  simp -implicitDefEqProofs []
  rw [iter_succ]
  simp -implicitDefEqProofs [b19i_0, q20, h1, kh19i_0, wr1]
  rw [iter_succ]
  simp -implicitDefEqProofs [b19i_0, q20, h2, kh19i_0, wr1, wr2]
  rw [iter_succ]
  simp -implicitDefEqProofs [b19i_0, kh19i_0, wr1, wr2]
theorem take26 (n : Nat) (s : Ln) (k : Int) (hl : s.rest.length ≤ 1000000) :
    I (n + 6) 19 [⟨2, 1, .var [.ptr 100000 0 0]⟩, ⟨4, 2, .var z24⟩, ⟨5, 3, .var [.int .i64 k, .int .i64 0, .int .i64 0, .int .i64 0, .int .i64 0, .str ⟨#[]⟩]⟩, ⟨26, 4, .var [.ptr 5 3 1, .ptr 5 3 2]⟩, ⟨100000, 0, .var (lnV s)⟩] 5 [.vsl 26 4 0 2, .ptr 2 1 0] =
      some (.tup [], [⟨2, 1, .var [.ptr 100000 0 0]⟩, ⟨4, 2, .var z24⟩, ⟨5, 3, .var [.int .i64 k, .int .i64 (number s).1, .int .i64 (number (number s).2).1, .int .i64 0, .int .i64 0, .str ⟨#[]⟩]⟩, ⟨26, 4, .var [.ptr 5 3 1, .ptr 5 3 2]⟩, ⟨100000, 0, .var (lnV (number (number s).2).2)⟩], 5) := by
  rw [i19]
  have h1 := number20 n s hl
  have h2 := number20 n (number s).2 (Nat.le_trans (num_le s) hl)
  generalize number s = p1 at h1 h2 ⊢
  obtain ⟨n1, s1⟩ := p1
  simp only at h1 h2 ⊢
  generalize number s1 = p2 at h2 ⊢
  obtain ⟨n2, s2⟩ := p2
  unfold lnV at h1 h2 ⊢
  simp -implicitDefEqProofs [evInl, a19i, c19i, kh19i_0]
  rw [iter_keep]
  simp -implicitDefEqProofs []
  rw [iter_succ]
  simp -implicitDefEqProofs [b19i_0, q20, h1, kh19i_0, wr1]
  rw [iter_succ]
  simp -implicitDefEqProofs [b19i_0, q20, h2, kh19i_0, wr1, wr2]
  rw [iter_succ]
  simp -implicitDefEqProofs [b19i_0, kh19i_0, wr1, wr2]
theorem take33 (n : Nat) (s : Ln) (k : Int) (hl : s.rest.length ≤ 1000000) :
    I (n + 6) 19 [⟨2, 1, .var [.ptr 100000 0 0]⟩, ⟨4, 2, .var z24⟩, ⟨5, 3, .var [.int .i64 k, .int .i64 0, .int .i64 0, .int .i64 0, .int .i64 0, .str ⟨#[]⟩]⟩, ⟨33, 4, .var [.ptr 5 3 3]⟩, ⟨100000, 0, .var (lnV s)⟩] 5 [.vsl 33 4 0 1, .ptr 2 1 0] =
      some (.tup [], [⟨2, 1, .var [.ptr 100000 0 0]⟩, ⟨4, 2, .var z24⟩, ⟨5, 3, .var [.int .i64 k, .int .i64 0, .int .i64 0, .int .i64 (number s).1, .int .i64 0, .str ⟨#[]⟩]⟩, ⟨33, 4, .var [.ptr 5 3 3]⟩, ⟨100000, 0, .var (lnV (number s).2)⟩], 5) := by
  rw [i19]
  have h1 := number20 n s hl
  generalize number s = p1 at h1 ⊢
  obtain ⟨n1, s1⟩ := p1
  simp only at h1 ⊢
  unfold lnV at h1 ⊢
  simp -implicitDefEqProofs [evInl, a19i, c19i, kh19i_0]
  rw [iter_keep]
  simp -implicitDefEqProofs []
  rw [iter_succ]
  simp -implicitDefEqProofs [b19i_0, q20, h1, kh19i_0, wr1]
  rw [iter_succ]
  simp -implicitDefEqProofs [b19i_0, kh19i_0, wr1, wr2]
theorem take40 (n : Nat) (s : Ln) (k : Int) (hl : s.rest.length ≤ 1000000) :
    I (n + 6) 19 [⟨2, 1, .var [.ptr 100000 0 0]⟩, ⟨4, 2, .var z24⟩, ⟨5, 3, .var [.int .i64 k, .int .i64 0, .int .i64 0, .int .i64 0, .int .i64 0, .str ⟨#[]⟩]⟩, ⟨40, 4, .var [.ptr 5 3 3]⟩, ⟨100000, 0, .var (lnV s)⟩] 5 [.vsl 40 4 0 1, .ptr 2 1 0] =
      some (.tup [], [⟨2, 1, .var [.ptr 100000 0 0]⟩, ⟨4, 2, .var z24⟩, ⟨5, 3, .var [.int .i64 k, .int .i64 0, .int .i64 0, .int .i64 (number s).1, .int .i64 0, .str ⟨#[]⟩]⟩, ⟨40, 4, .var [.ptr 5 3 3]⟩, ⟨100000, 0, .var (lnV (number s).2)⟩], 5) := by
  rw [i19]
  have h1 := number20 n s hl
  generalize number s = p1 at h1 ⊢
  obtain ⟨n1, s1⟩ := p1
  simp only at h1 ⊢
  unfold lnV at h1 ⊢
  simp -implicitDefEqProofs [evInl, a19i, c19i, kh19i_0]
  rw [iter_keep]
  simp -implicitDefEqProofs []
  rw [iter_succ]
  simp -implicitDefEqProofs [b19i_0, q20, h1, kh19i_0, wr1]
  rw [iter_succ]
  simp -implicitDefEqProofs [b19i_0, kh19i_0, wr1, wr2]
theorem take47 (n : Nat) (s : Ln) (k : Int) (hl : s.rest.length ≤ 1000000) :
    I (n + 6) 19 [⟨2, 1, .var [.ptr 100000 0 0]⟩, ⟨4, 2, .var z24⟩, ⟨5, 3, .var [.int .i64 k, .int .i64 0, .int .i64 0, .int .i64 0, .int .i64 0, .str ⟨#[]⟩]⟩, ⟨47, 4, .var [.ptr 5 3 3]⟩, ⟨100000, 0, .var (lnV s)⟩] 5 [.vsl 47 4 0 1, .ptr 2 1 0] =
      some (.tup [], [⟨2, 1, .var [.ptr 100000 0 0]⟩, ⟨4, 2, .var z24⟩, ⟨5, 3, .var [.int .i64 k, .int .i64 0, .int .i64 0, .int .i64 (number s).1, .int .i64 0, .str ⟨#[]⟩]⟩, ⟨47, 4, .var [.ptr 5 3 3]⟩, ⟨100000, 0, .var (lnV (number s).2)⟩], 5) := by
  rw [i19]
  have h1 := number20 n s hl
  generalize number s = p1 at h1 ⊢
  obtain ⟨n1, s1⟩ := p1
  simp only at h1 ⊢
  unfold lnV at h1 ⊢
  simp -implicitDefEqProofs [evInl, a19i, c19i, kh19i_0]
  rw [iter_keep]
  simp -implicitDefEqProofs []
  rw [iter_succ]
  simp -implicitDefEqProofs [b19i_0, q20, h1, kh19i_0, wr1]
  rw [iter_succ]
  simp -implicitDefEqProofs [b19i_0, kh19i_0, wr1, wr2]
theorem take54 (n : Nat) (s : Ln) (k : Int) (hl : s.rest.length ≤ 1000000) :
    I (n + 6) 19 [⟨2, 1, .var [.ptr 100000 0 0]⟩, ⟨4, 2, .var z24⟩, ⟨5, 3, .var [.int .i64 k, .int .i64 0, .int .i64 0, .int .i64 0, .int .i64 0, .str ⟨#[]⟩]⟩, ⟨54, 4, .var [.ptr 5 3 4]⟩, ⟨100000, 0, .var (lnV s)⟩] 5 [.vsl 54 4 0 1, .ptr 2 1 0] =
      some (.tup [], [⟨2, 1, .var [.ptr 100000 0 0]⟩, ⟨4, 2, .var z24⟩, ⟨5, 3, .var [.int .i64 k, .int .i64 0, .int .i64 0, .int .i64 0, .int .i64 (number s).1, .str ⟨#[]⟩]⟩, ⟨54, 4, .var [.ptr 5 3 4]⟩, ⟨100000, 0, .var (lnV (number s).2)⟩], 5) := by
  rw [i19]
  have h1 := number20 n s hl
  generalize number s = p1 at h1 ⊢
  obtain ⟨n1, s1⟩ := p1
  simp only at h1 ⊢
  unfold lnV at h1 ⊢
  simp -implicitDefEqProofs [evInl, a19i, c19i, kh19i_0]
  rw [iter_keep]
  simp -implicitDefEqProofs []
  rw [iter_succ]
  simp -implicitDefEqProofs [b19i_0, q20, h1, kh19i_0, wr1]
  rw [iter_succ]
  simp -implicitDefEqProofs [b19i_0, kh19i_0, wr1, wr2]
theorem take62 (n : Nat) (s : Ln) (k : Int) (hl : s.rest.length ≤ 1000000) :
    I (n + 6) 19 [⟨2, 1, .var [.ptr 100000 0 0]⟩, ⟨4, 2, .var z24⟩, ⟨5, 3, .var [.int .i64 k, .int .i64 0, .int .i64 0, .int .i64 0, .int .i64 0, .str ⟨#[]⟩]⟩, ⟨62, 4, .var [.ptr 5 3 4, .ptr 5 3 1]⟩, ⟨100000, 0, .var (lnV s)⟩] 5 [.vsl 62 4 0 2, .ptr 2 1 0] =
      some (.tup [], [⟨2, 1, .var [.ptr 100000 0 0]⟩, ⟨4, 2, .var z24⟩, ⟨5, 3, .var [.int .i64 k, .int .i64 (number (number s).2).1, .int .i64 0, .int .i64 0, .int .i64 (number s).1, .str ⟨#[]⟩]⟩, ⟨62, 4, .var [.ptr 5 3 4, .ptr 5 3 1]⟩, ⟨100000, 0, .var (lnV (number (number s).2).2)⟩], 5) := by
  rw [i19]
  have h1 := number20 n s hl
  have h2 := number20 n (number s).2 (Nat.le_trans (num_le s) hl)
  generalize number s = p1 at h1 h2 ⊢
  obtain ⟨n1, s1⟩ := p1
  simp only at h1 h2 ⊢
  generalize number s1 = p2 at h2 ⊢
  obtain ⟨n2, s2⟩ := p2
  unfold lnV at h1 h2 ⊢
  simp -implicitDefEqProofs [evInl, a19i, c19i, kh19i_0]
  rw [iter_keep]
  simp -implicitDefEqProofs []
  rw [iter_succ]
  simp -implicitDefEqProofs [b19i_0, q20, h1, kh19i_0, wr1]
  rw [iter_succ]
  simp -implicitDefEqProofs [b19i_0, q20, h2, kh19i_0, wr1, wr2]
  rw [iter_succ]
  simp -implicitDefEqProofs [b19i_0, kh19i_0, wr1, wr2]
theorem take92 (n : Nat) (s : Ln) (k : Int) (hl : s.rest.length ≤ 1000000) :
    I (n + 6) 19 [⟨2, 1, .var [.ptr 100000 0 0]⟩, ⟨4, 2, .var z24⟩, ⟨5, 3, .var [.int .i64 k, .int .i64 0, .int .i64 0, .int .i64 0, .int .i64 0, .str ⟨#[]⟩]⟩, ⟨92, 4, .var [.ptr 5 3 1, .ptr 5 3 2]⟩, ⟨100000, 0, .var (lnV s)⟩] 5 [.vsl 92 4 0 2, .ptr 2 1 0] =
      some (.tup [], [⟨2, 1, .var [.ptr 100000 0 0]⟩, ⟨4, 2, .var z24⟩, ⟨5, 3, .var [.int .i64 k, .int .i64 (number s).1, .int .i64 (number (number s).2).1, .int .i64 0, .int .i64 0, .str ⟨#[]⟩]⟩, ⟨92, 4, .var [.ptr 5 3 1, .ptr 5 3 2]⟩, ⟨100000, 0, .var (lnV (number (number s).2).2)⟩], 5) := by
  rw [i19]
  have h1 := number20 n s hl
  have h2 := number20 n (number s).2 (Nat.le_trans (num_le s) hl)
  generalize number s = p1 at h1 h2 ⊢
  obtain ⟨n1, s1⟩ := p1
  simp only at h1 h2 ⊢
  generalize number s1 = p2 at h2 ⊢
  obtain ⟨n2, s2⟩ := p2
  unfold lnV at h1 h2 ⊢
  simp -implicitDefEqProofs [evInl, a19i, c19i, kh19i_0]
  rw [iter_keep]
  simp -implicitDefEqProofs []
  rw [iter_succ]
  simp -implicitDefEqProofs [b19i_0, q20, h1, kh19i_0, wr1]
  rw [iter_succ]
  simp -implicitDefEqProofs [b19i_0, q20, h2, kh19i_0, wr1, wr2]
  rw [iter_succ]
  simp -implicitDefEqProofs [b19i_0, kh19i_0, wr1, wr2]
theorem take111 (n : Nat) (s : Ln) (k : Int) (x : Int) (y : Int) (hl : s.rest.length ≤ 1000000) :
    I (n + 6) 19 [⟨2, 1, .var [.ptr 100000 0 0]⟩, ⟨4, 2, .var z24⟩, ⟨5, 3, .var [.int .i64 k, .int .i64 x, .int .i64 y, .int .i64 0, .int .i64 0, .str ⟨#[]⟩]⟩, ⟨111, 5, .var [.ptr 5 3 3]⟩, ⟨100000, 0, .var (lnV s)⟩] 6 [.vsl 111 5 0 1, .ptr 2 1 0] =
      some (.tup [], [⟨2, 1, .var [.ptr 100000 0 0]⟩, ⟨4, 2, .var z24⟩, ⟨5, 3, .var [.int .i64 k, .int .i64 x, .int .i64 y, .int .i64 (number s).1, .int .i64 0, .str ⟨#[]⟩]⟩, ⟨111, 5, .var [.ptr 5 3 3]⟩, ⟨100000, 0, .var (lnV (number s).2)⟩], 6) := by
  rw [i19]
  have h1 := number20 n s hl
  generalize number s = p1 at h1 ⊢
  obtain ⟨n1, s1⟩ := p1
  simp only at h1 ⊢
  unfold lnV at h1 ⊢
  simp -implicitDefEqProofs [evInl, a19i, c19i, kh19i_0]
  rw [iter_keep]
  simp -implicitDefEqProofs []
  rw [iter_succ]
  simp -implicitDefEqProofs [b19i_0, q20, h1, kh19i_0, wr1]
  rw [iter_succ]
  simp -implicitDefEqProofs [b19i_0, kh19i_0, wr1, wr2]
end Go.Abs.Tryd

namespace Go.Abs.Tryd
open Go Go.Abs Go.Abs.Desk
set_option maxHeartbeats 16000000
set_option maxRecDepth 100000
set_option linter.unusedSimpArgs false
set_option linter.unusedVariables false
/-- an act as cells -/
def actV (a : A) : List AV := [.int .i64 a.k, .int .i64 a.r, .int .i64 a.n, .int .i64 a.m, .int .i64 a.c, .str (sB a.t)]
theorem btTick {f : B} (h : f = wTick) : (f == ([116, 105, 99, 107] : List UInt8)) = true := by simp [h, wTick]
theorem bfTick {f : B} (h : ¬ f = wTick) : (f == ([116, 105, 99, 107] : List UInt8)) = false := by simpa [wTick] using h
theorem btStart {f : B} (h : f = wStart) : (f == ([115, 116, 97, 114, 116] : List UInt8)) = true := by simp [h, wStart]
theorem bfStart {f : B} (h : ¬ f = wStart) : (f == ([115, 116, 97, 114, 116] : List UInt8)) = false := by simpa [wStart] using h
theorem btDeliver {f : B} (h : f = wDeliver) : (f == ([100, 101, 108, 105, 118, 101, 114] : List UInt8)) = true := by simp [h, wDeliver]
theorem bfDeliver {f : B} (h : ¬ f = wDeliver) : (f == ([100, 101, 108, 105, 118, 101, 114] : List UInt8)) = false := by simpa [wDeliver] using h
theorem btDrop {f : B} (h : f = wDrop) : (f == ([100, 114, 111, 112] : List UInt8)) = true := by simp [h, wDrop]
theorem bfDrop {f : B} (h : ¬ f = wDrop) : (f == ([100, 114, 111, 112] : List UInt8)) = false := by simpa [wDrop] using h
theorem btDouble {f : B} (h : f = wDouble) : (f == ([100, 111, 117, 98, 108, 101] : List UInt8)) = true := by simp [h, wDouble]
theorem bfDouble {f : B} (h : ¬ f = wDouble) : (f == ([100, 111, 117, 98, 108, 101] : List UInt8)) = false := by simpa [wDouble] using h
theorem btRetry {f : B} (h : f = wRetry) : (f == ([114, 101, 116, 114, 121] : List UInt8)) = true := by simp [h, wRetry]
theorem bfRetry {f : B} (h : ¬ f = wRetry) : (f == ([114, 101, 116, 114, 121] : List UInt8)) = false := by simpa [wRetry] using h
theorem btSubmit {f : B} (h : f = wSubmit) : (f == ([115, 117, 98, 109, 105, 116] : List UInt8)) = true := by simp [h, wSubmit]
theorem bfSubmit {f : B} (h : ¬ f = wSubmit) : (f == ([115, 117, 98, 109, 105, 116] : List UInt8)) = false := by simpa [wSubmit] using h
theorem btCrash {f : B} (h : f = wCrash) : (f == ([99, 114, 97, 115, 104] : List UInt8)) = true := by simp [h, wCrash]
theorem bfCrash {f : B} (h : ¬ f = wCrash) : (f == ([99, 114, 97, 115, 104] : List UInt8)) = false := by simpa [wCrash] using h
theorem act11_Tick (n : Nat) (s : Ln) (f : B) (hl : s.rest.length ≤ 1000000)  (h0 : f = wTick) : E (n + 7) 11 [.pv (lnV s), .str (sB f)] = some (.agg (actV (act s f).1), [lnV (act s f).2]) := by
  rw [e11]
  have b0 := btTick h0
  have t1 := take18 n s 1 hl
  unfold act
  simp only [if_pos h0]
  generalize number s = p1 at t1 ⊢
  obtain ⟨n1, s1⟩ := p1
  simp only at t1 ⊢
  generalize number s1 = p2 at t1 ⊢
  obtain ⟨n2, s2⟩ := p2
  unfold lnV z24 at t1
  unfold lnV
  unfold actV
  simp -implicitDefEqProofs [a11, c11, z24, q19, b0, t1]
theorem act11_Start (n : Nat) (s : Ln) (f : B) (hl : s.rest.length ≤ 1000000) (h0 : ¬ f = wTick) (h1 : f = wStart) : E (n + 7) 11 [.pv (lnV s), .str (sB f)] = some (.agg (actV (act s f).1), [lnV (act s f).2]) := by
  rw [e11]
  have b0 := bfTick h0
  have b1 := btStart h1
  have t1 := take26 n s 8 hl
  unfold act
  simp only [if_neg h0, if_pos h1]
  generalize number s = p1 at t1 ⊢
  obtain ⟨n1, s1⟩ := p1
  simp only at t1 ⊢
  generalize number s1 = p2 at t1 ⊢
  obtain ⟨n2, s2⟩ := p2
  unfold lnV z24 at t1
  unfold lnV
  unfold actV
  simp -implicitDefEqProofs [a11, c11, z24, q19, b0, b1, t1]
theorem act11_Deliver (n : Nat) (s : Ln) (f : B) (hl : s.rest.length ≤ 1000000) (h0 : ¬ f = wTick) (h1 : ¬ f = wStart) (h2 : f = wDeliver) : E (n + 7) 11 [.pv (lnV s), .str (sB f)] = some (.agg (actV (act s f).1), [lnV (act s f).2]) := by
  rw [e11]
  have b0 := bfTick h0
  have b1 := bfStart h1
  have b2 := btDeliver h2
  have t1 := take33 n s 2 hl
  unfold act
  simp only [if_neg h0, if_neg h1, if_pos h2]
  generalize number s = p1 at t1 ⊢
  obtain ⟨n1, s1⟩ := p1
  unfold lnV z24 at t1
  unfold lnV
  unfold actV
  simp -implicitDefEqProofs [a11, c11, z24, q19, b0, b1, b2, t1]
theorem act11_Drop (n : Nat) (s : Ln) (f : B) (hl : s.rest.length ≤ 1000000) (h0 : ¬ f = wTick) (h1 : ¬ f = wStart) (h2 : ¬ f = wDeliver) (h3 : f = wDrop) : E (n + 7) 11 [.pv (lnV s), .str (sB f)] = some (.agg (actV (act s f).1), [lnV (act s f).2]) := by
  rw [e11]
  have b0 := bfTick h0
  have b1 := bfStart h1
  have b2 := bfDeliver h2
  have b3 := btDrop h3
  have t1 := take40 n s 3 hl
  unfold act
  simp only [if_neg h0, if_neg h1, if_neg h2, if_pos h3]
  generalize number s = p1 at t1 ⊢
  obtain ⟨n1, s1⟩ := p1
  unfold lnV z24 at t1
  unfold lnV
  unfold actV
  simp -implicitDefEqProofs [a11, c11, z24, q19, b0, b1, b2, b3, t1]
theorem act11_Double (n : Nat) (s : Ln) (f : B) (hl : s.rest.length ≤ 1000000) (h0 : ¬ f = wTick) (h1 : ¬ f = wStart) (h2 : ¬ f = wDeliver) (h3 : ¬ f = wDrop) (h4 : f = wDouble) : E (n + 7) 11 [.pv (lnV s), .str (sB f)] = some (.agg (actV (act s f).1), [lnV (act s f).2]) := by
  rw [e11]
  have b0 := bfTick h0
  have b1 := bfStart h1
  have b2 := bfDeliver h2
  have b3 := bfDrop h3
  have b4 := btDouble h4
  have t1 := take47 n s 4 hl
  unfold act
  simp only [if_neg h0, if_neg h1, if_neg h2, if_neg h3, if_pos h4]
  generalize number s = p1 at t1 ⊢
  obtain ⟨n1, s1⟩ := p1
  unfold lnV z24 at t1
  unfold lnV
  unfold actV
  simp -implicitDefEqProofs [a11, c11, z24, q19, b0, b1, b2, b3, b4, t1]
theorem act11_Retry (n : Nat) (s : Ln) (f : B) (hl : s.rest.length ≤ 1000000) (h0 : ¬ f = wTick) (h1 : ¬ f = wStart) (h2 : ¬ f = wDeliver) (h3 : ¬ f = wDrop) (h4 : ¬ f = wDouble) (h5 : f = wRetry) : E (n + 7) 11 [.pv (lnV s), .str (sB f)] = some (.agg (actV (act s f).1), [lnV (act s f).2]) := by
  rw [e11]
  have b0 := bfTick h0
  have b1 := bfStart h1
  have b2 := bfDeliver h2
  have b3 := bfDrop h3
  have b4 := bfDouble h4
  have b5 := btRetry h5
  have t1 := take54 n s 6 hl
  unfold act
  simp only [if_neg h0, if_neg h1, if_neg h2, if_neg h3, if_neg h4, if_pos h5]
  generalize number s = p1 at t1 ⊢
  obtain ⟨n1, s1⟩ := p1
  unfold lnV z24 at t1
  unfold lnV
  unfold actV
  simp -implicitDefEqProofs [a11, c11, z24, q19, b0, b1, b2, b3, b4, b5, t1]
theorem act11_Submit (n : Nat) (s : Ln) (f : B) (hl : s.rest.length ≤ 1000000) (h0 : ¬ f = wTick) (h1 : ¬ f = wStart) (h2 : ¬ f = wDeliver) (h3 : ¬ f = wDrop) (h4 : ¬ f = wDouble) (h5 : ¬ f = wRetry) (h6 : f = wSubmit) : E (n + 7) 11 [.pv (lnV s), .str (sB f)] = some (.agg (actV (act s f).1), [lnV (act s f).2]) := by
  rw [e11]
  have b0 := bfTick h0
  have b1 := bfStart h1
  have b2 := bfDeliver h2
  have b3 := bfDrop h3
  have b4 := bfDouble h4
  have b5 := bfRetry h5
  have b6 := btSubmit h6
  have t1 := take62 n s 5 hl
  unfold act
  simp only [if_neg h0, if_neg h1, if_neg h2, if_neg h3, if_neg h4, if_neg h5, if_pos h6]
  generalize number s = p1 at t1 ⊢
  obtain ⟨n1, s1⟩ := p1
  simp only at t1 ⊢
  generalize number s1 = p2 at t1 ⊢
  obtain ⟨n2, s2⟩ := p2
  obtain ⟨r2, m2, no2⟩ := s2
  unfold lnV z24 at t1
  unfold lnV
  unfold actV
  simp only at t1 ⊢
  cases no2 <;> cases m2 <;> simp -implicitDefEqProofs [a11, c11, z24, q19, b0, b1, b2, b3, b4, b5, b6, t1]
theorem act11_Crash (n : Nat) (s : Ln) (f : B) (hl : s.rest.length ≤ 1000000) (h0 : ¬ f = wTick) (h1 : ¬ f = wStart) (h2 : ¬ f = wDeliver) (h3 : ¬ f = wDrop) (h4 : ¬ f = wDouble) (h5 : ¬ f = wRetry) (h6 : ¬ f = wSubmit) (h7 : f = wCrash) : E (n + 7) 11 [.pv (lnV s), .str (sB f)] = some (.agg (actV (act s f).1), [lnV (act s f).2]) := by
  rw [e11]
  have b0 := bfTick h0
  have b1 := bfStart h1
  have b2 := bfDeliver h2
  have b3 := bfDrop h3
  have b4 := bfDouble h4
  have b5 := bfRetry h5
  have b6 := bfSubmit h6
  have b7 := btCrash h7
  have t1 := take92 n s 7 hl
  have hl2 : (number (number s).2).2.rest.length ≤ 1000000 := Nat.le_trans (num_le _) (Nat.le_trans (num_le s) hl)
  have t2 := take111 n (number (number s).2).2 7 (number s).1 (number (number s).2).1 hl2
  unfold act
  simp only [if_neg h0, if_neg h1, if_neg h2, if_neg h3, if_neg h4, if_neg h5, if_neg h6, if_pos h7]
  generalize number s = p1 at t1 t2 hl2 ⊢
  obtain ⟨n1, s1⟩ := p1
  simp only at t1 t2 hl2 ⊢
  generalize number s1 = p2 at t1 t2 hl2 ⊢
  obtain ⟨n2, s2⟩ := p2
  simp only at t1 t2 hl2 ⊢
  generalize number s2 = p3 at t1 t2 hl2 ⊢
  obtain ⟨n3, s3⟩ := p3
  obtain ⟨r2, m2, no2⟩ := s2
  unfold lnV z24 at t1 t2
  unfold lnV
  unfold actV
  simp only at t1 t2 ⊢
  by_cases hr : r2 = wNow
  · have c1 : (r2 == ([110, 111, 119] : List UInt8)) = true := by simp [hr, wNow]
    replace hr : (r2 = wNow) = True := eq_true hr
    cases m2 <;> simp -implicitDefEqProofs [a11, c11, z24, q19, b0, b1, b2, b3, b4, b5, b6, b7, t1, t2, c1, hr]
  · have c1 : (r2 == ([110, 111, 119] : List UInt8)) = false := by simpa [wNow] using hr
    cases m2 <;> simp -implicitDefEqProofs [a11, c11, z24, q19, b0, b1, b2, b3, b4, b5, b6, b7, t1, t2, c1, hr]
theorem act11_none (n : Nat) (s : Ln) (f : B) (h0 : ¬ f = wTick) (h1 : ¬ f = wStart) (h2 : ¬ f = wDeliver) (h3 : ¬ f = wDrop) (h4 : ¬ f = wDouble) (h5 : ¬ f = wRetry) (h6 : ¬ f = wSubmit) (h7 : ¬ f = wCrash) : E (n + 7) 11 [.pv (lnV s), .str (sB f)] = some (.agg (actV (act s f).1), [lnV (act s f).2]) := by
  rw [e11]
  have b0 := bfTick h0
  have b1 := bfStart h1
  have b2 := bfDeliver h2
  have b3 := bfDrop h3
  have b4 := bfDouble h4
  have b5 := bfRetry h5
  have b6 := bfSubmit h6
  have b7 := bfCrash h7
  unfold act
  simp only [if_neg h0, if_neg h1, if_neg h2, if_neg h3, if_neg h4, if_neg h5, if_neg h6, if_neg h7]
  unfold lnV actV
  simp -implicitDefEqProofs [a11, c11, z24, b0, b1, b2, b3, b4, b5, b6, b7]
theorem act11 (n : Nat) (s : Ln) (f : B) (hl : s.rest.length ≤ 1000000) : E (n + 7) 11 [.pv (lnV s), .str (sB f)] = some (.agg (actV (act s f).1), [lnV (act s f).2]) := by
  by_cases h0 : f = wTick
  · exact act11_Tick n s f hl h0
  by_cases h1 : f = wStart
  · exact act11_Start n s f hl h0 h1
  by_cases h2 : f = wDeliver
  · exact act11_Deliver n s f hl h0 h1 h2
  by_cases h3 : f = wDrop
  · exact act11_Drop n s f hl h0 h1 h2 h3
  by_cases h4 : f = wDouble
  · exact act11_Double n s f hl h0 h1 h2 h3 h4
  by_cases h5 : f = wRetry
  · exact act11_Retry n s f hl h0 h1 h2 h3 h4 h5
  by_cases h6 : f = wSubmit
  · exact act11_Submit n s f hl h0 h1 h2 h3 h4 h5 h6
  by_cases h7 : f = wCrash
  · exact act11_Crash n s f hl h0 h1 h2 h3 h4 h5 h6 h7
  exact act11_none n s f h0 h1 h2 h3 h4 h5 h6 h7
end Go.Abs.Tryd

namespace Go.Abs.Tryd
open Go Go.Abs Go.Abs.Desk
set_option maxHeartbeats 16000000
set_option maxRecDepth 100000
set_option linter.unusedSimpArgs false
set_option linter.unusedVariables false
/-- an act, or none -/
def zA : A := ⟨0, 0, 0, 0, 0, []⟩
def resA (o : Option A) : AV := match o with
  | some a => .tup [.agg (actV a), .int .i64 0]
  | none => .tup [.agg (actV zA), .int .i64 200]
theorem parse5 (n : Nat) (l : B) (hl : l.length ≤ 1000000) : E (n + 8) 5 [.str (sB l)] = some (resA (parse l), []) := by
  rw [e5]
  unfold parse
  by_cases h1 : l.length ≤ 300
  · have d1 : ¬ (300 : Int) < (l.length : Int) := by omega
    have c1 := contains10 (n + 4) l 10
    by_cases h2 : 10 ∈ l
    · rw [if_neg (by unfold lineOK; exact fun h => h.2 h2)]
      simp -implicitDefEqProofs [a5, c5, q10, c1, d1, h2, z24, resA, zA, actV]
    · rw [if_pos ⟨h1, h2⟩]
      have w1 := word12 (n + 3) ⟨l, true, false⟩ hl
      have wl := word_le ⟨l, true, false⟩
      generalize word ⟨l, true, false⟩ = p at w1 wl ⊢
      obtain ⟨f, s1⟩ := p
      simp only at w1 wl ⊢
      have g1 := act11 n s1 f (by omega)
      generalize act s1 f = q at g1 ⊢
      obtain ⟨a, s2⟩ := q
      obtain ⟨ak, ar, an, am, ac, at_⟩ := a
      obtain ⟨r2, m2, no2⟩ := s2
      unfold lnV at w1 g1
      unfold actV at g1
      simp only at w1 g1 ⊢
      cases no2 <;> cases m2 <;> simp -implicitDefEqProofs [a5, c5, q10, q12, q11, c1, d1, h2, z24, z36, resA, zA, actV, w1, g1]
  · have d1 : (300 : Int) < (l.length : Int) := by omega
    rw [if_neg (by unfold lineOK; exact fun h => h1 h.1)]
    simp -implicitDefEqProofs [a5, c5, d1, z24, resA, zA, actV]
end Go.Abs.Tryd

namespace Go.Abs.Tryd
open Go Go.Abs Go.Abs.Desk
set_option maxHeartbeats 16000000
set_option maxRecDepth 100000
set_option linter.unusedSimpArgs false
set_option linter.unusedVariables false
def i64 (x : Int) : Prop := -9223372036854775808 ≤ x ∧ x ≤ 9223372036854775807
theorem itoa_len {x : Int} (h : i64 x) : (Lib.itoa x).length ≤ 21 := by
  unfold Lib.itoa
  have h20 : (10 : Nat) ^ 20 = 100000000000000000000 := by decide
  split
  · rw [List.length_cons, Lib.decDigits_length]
    have := nDigits_le 20 x.natAbs (by omega) (by rw [h20]; have := h.1; omega)
    omega
  · rw [Lib.decDigits_length]
    have := nDigits_le 20 x.toNat (by omega) (by rw [h20]; have := h.2; omega)
    omega
/-- numbers as rows -/
def intR (l : List Int) : List (List AV) := l.map fun x => [.int .i64 x]
theorem intR_get {l : List Int} {i : Nat} {x : Int} (h : l[i]? = some x) : (intR l)[i]? = some [.int .i64 x] := by simp [intR, h]
theorem step26 (n : Nat) (R : List (List AV)) (len i c k : Nat) (f : B) (x : Int) (hx : i64 x) (hl : R.length = len) (hi : i < len) (hb : len ≤ 100000) (hf : f.length ≤ 1000000) (r1 : R[i]? = some [.int .i64 x]) :
    iter (ev (Q (n + 1)) 600000 b26_0) [0, 7, 8, 9] [100200] (k + 1) ⟨[(0, .str (sB f)), (7, .ro true 1 R), (8, .int .i64 len), (9, .int .i64 i)], [], c⟩ =
      iter (ev (Q (n + 1)) 600000 b26_0) [0, 7, 8, 9] [100200] k ⟨[(0, .str (sB (f ++ 32 :: Lib.itoa x))), (7, .ro true 1 R), (8, .int .i64 len), (9, .int .i64 ((i + 1 : Nat) : Int))], [], c⟩ := by
  have i1 : (i : Int) < (len : Int) := by omega
  have w1 : IntKind.i64.wrap ((i : Int) + 1) = (i : Int) + 1 := wrap_i64 _ (by omega) (by omega)
  have c1 := x29 n x hx.1 hx.2
  have hil := itoa_len hx
  have s1 := sB_add [32] (Lib.itoa x) (by simp; omega)
  have s2 := sB_add f (32 :: Lib.itoa x) (by simp; omega)
  have r2 := (List.getElem?_eq_some_iff.1 r1).2
  generalize Lib.itoa x = y at *
  simp -implicitDefEqProofs at s1 s2
  refine iter_norm ?_
  simp -implicitDefEqProofs [b26_0, St.keep, i1, w1, c1, q29, r1, r2, hl, hi, s1, s2]
theorem loop26 (n : Nat) (l : List Int) (hl : ∀ x ∈ l, i64 x) (hb : l.length ≤ 1000) (c : Nat) : ∀ (rest : List Int) (i k : Nat) (f : B), l.drop i = rest → rest.length < k → f.length + 22 * rest.length ≤ 1000000 →
    iter (ev (Q (n + 1)) 600000 b26_0) [0, 7, 8, 9] [100200] k ⟨[(0, .str (sB f)), (7, .ro true 1 (intR l)), (8, .int .i64 l.length), (9, .int .i64 i)], [], c⟩ =
      some (.exit 0, ⟨[(0, .str (sB (f ++ nums rest))), (7, .ro true 1 (intR l)), (8, .int .i64 l.length), (9, .int .i64 (max i l.length : Nat)), (10, .bool false)], [], c⟩)
  | [], i, 0, f, hd, hk, hf => by simp at hk
  | [], i, k + 1, f, hd, hk, hf => by
    have hi : l.length ≤ i := List.drop_eq_nil_iff.1 hd
    have i1 : ¬ (i : Int) < (l.length : Int) := by omega
    rw [iter_succ, show max i l.length = i by omega]
    simp -implicitDefEqProofs [b26_0, i1, nums]
  | x :: rest, i, 0, f, hd, hk, hf => by omega
  | x :: rest, i, k + 1, f, hd, hk, hf => by
    have hil : i < l.length := by
      by_cases h : i < l.length
      · exact h
      · rw [List.drop_eq_nil_of_le (by omega)] at hd; cases hd
    have hx : l[i]? = some x := by
      have := congrArg (fun q => q[0]?) hd
      simpa [List.getElem?_drop] using this
    have hd2 : l.drop (i + 1) = rest := by rw [← List.drop_drop, hd]; rfl
    have hxm := hl x (List.mem_of_getElem? hx)
    simp only [List.length_cons] at hk hf
    have e1 := step26 n (intR l) l.length i c k f x hxm (by simp [intR]) hil (by omega) (by omega) (intR_get hx)
    have hy := itoa_len hxm
    have e2 := loop26 n l hl hb c rest (i + 1) k (f ++ 32 :: Lib.itoa x) hd2 (by omega) (by simp; omega)
    rw [e1, e2]
    have : max (i + 1) l.length = max i l.length := by omega
    rw [this]
    simp [nums]
theorem join26 (n : Nat) (f : B) (l : List Int) (hl : ∀ x ∈ l, i64 x) (hb : l.length ≤ 100) (hf : f.length ≤ 900000) : E (n + 2) 26 [.str (sB f), .ro true 1 (intR l)] = some (.str (sB (f ++ nums l)), []) := by
  rw [e26]
  have hlen : (intR l).length = l.length := by simp [intR]
  have e := loop26 n l hl (by omega) 0 l 0 600000 f rfl (by omega) (by omega)
  simp -implicitDefEqProofs [a26, c26, hlen]
  rw [iter_keep]
  simp -implicitDefEqProofs [hlen]
  simp -implicitDefEqProofs at e
  rw [e]
  simp
end Go.Abs.Tryd

namespace Go.Abs.Tryd
open Go Go.Abs Go.Abs.Desk
set_option maxHeartbeats 16000000
set_option maxRecDepth 100000
set_option linter.unusedSimpArgs false
set_option linter.unusedVariables false
/-- what is known of an act that came in -/
structure AOK (a : A) : Prop where
  r : i64 a.r
  n : i64 a.n
  m : i64 a.m
  c : i64 a.c
  t : a.t.length ≤ 262144
theorem nums_len : ∀ (l : List Int), (∀ x ∈ l, i64 x) → (nums l).length ≤ 22 * l.length
  | [], _ => by simp [nums]
  | x :: l, h => by
    have h1 := itoa_len (h x (by simp))
    have h2 := nums_len l (fun y hy => h y (by simp [hy]))
    simp only [nums, List.length_cons, List.length_append]
    omega
theorem join1 (n : Nat) (f : B) (x : Int) (hx : i64 x) (hf : f.length ≤ 900000) : E (n + 2) 26 [.str (sB f), .ro true 1 [[.int .i64 x]]] = some (.str (sB (f ++ nums [x])), []) := join26 n f [x] (by simp [hx]) (by simp) hf
theorem join2 (n : Nat) (f : B) (x y : Int) (hx : i64 x) (hy : i64 y) (hf : f.length ≤ 900000) : E (n + 2) 26 [.str (sB f), .ro true 1 [[.int .i64 x], [.int .i64 y]]] = some (.str (sB (f ++ nums [x, y])), []) := join26 n f [x, y] (by simp [hx, hy]) (by simp) hf
theorem join3 (n : Nat) (f : B) (x y z : Int) (hx : i64 x) (hy : i64 y) (hz : i64 z) (hf : f.length ≤ 900000) : E (n + 2) 26 [.str (sB f), .ro true 1 [[.int .i64 x], [.int .i64 y], [.int .i64 z]]] = some (.str (sB (f ++ nums [x, y, z])), []) := join26 n f [x, y, z] (by simp [hx, hy, hz]) (by simp) hf
theorem spelt17 (n : Nat) (a : A) (h : AOK a) : E (n + 3) 17 [.agg (actV a)] = some (.str (sB (text a)), []) := by
  obtain ⟨k, r, nd, m, c, t⟩ := a
  obtain ⟨hr, hn, hm, hc, ht⟩ := h
  simp only at hr hn hm hc ht
  rw [e17]
  unfold actV text
  simp only
  by_cases k1 : k = 1
  · have j := join2 n wTick r nd hr hn (by decide)
    rw [if_pos k1]
    unfold wTick at j ⊢
    generalize nums [r, nd] = x at j ⊢
    simp -implicitDefEqProofs at j
    simp -implicitDefEqProofs [a17, c17, k1, q26, j]
  rw [if_neg k1]
  have b1 : (k == 1) = false := by simpa using k1
  by_cases k2 : k = 8
  · have j := join2 n wStart r nd hr hn (by decide)
    rw [if_pos k2]
    unfold wStart at j ⊢
    generalize nums [r, nd] = x at j ⊢
    simp -implicitDefEqProofs at j
    simp -implicitDefEqProofs [a17, c17, k2, q26, j]
  rw [if_neg k2]
  have b2 : (k == 8) = false := by simpa using k2
  by_cases k3 : k = 2
  · have j := join1 n wDeliver m hm (by decide)
    rw [if_pos k3]
    unfold wDeliver at j ⊢
    generalize nums [m] = x at j ⊢
    simp -implicitDefEqProofs at j
    simp -implicitDefEqProofs [a17, c17, k3, q26, j]
  rw [if_neg k3]
  have b3 : (k == 2) = false := by simpa using k3
  by_cases k4 : k = 3
  · have j := join1 n wDrop m hm (by decide)
    rw [if_pos k4]
    unfold wDrop at j ⊢
    generalize nums [m] = x at j ⊢
    simp -implicitDefEqProofs at j
    simp -implicitDefEqProofs [a17, c17, k4, q26, j]
  rw [if_neg k4]
  have b4 : (k == 3) = false := by simpa using k4
  by_cases k5 : k = 4
  · have j := join1 n wDouble m hm (by decide)
    rw [if_pos k5]
    unfold wDouble at j ⊢
    generalize nums [m] = x at j ⊢
    simp -implicitDefEqProofs at j
    simp -implicitDefEqProofs [a17, c17, k5, q26, j]
  rw [if_neg k5]
  have b5 : (k == 4) = false := by simpa using k5
  by_cases k6 : k = 5
  · have j := join2 n wSubmit c r hc hr (by decide)
    have hnl := nums_len [c, r] (by simp [hc, hr])
    rw [if_pos k6]
    have s1 := sB_add (wSubmit ++ nums [c, r]) [32] (by simp [wSubmit] at hnl ⊢; omega)
    have s2 := sB_add (wSubmit ++ nums [c, r] ++ [32]) t (by simp [wSubmit] at hnl ⊢; omega)
    unfold wSubmit at j s1 s2 ⊢
    generalize nums [c, r] = x at j s1 s2 ⊢
    simp -implicitDefEqProofs at j s1 s2
    simp -implicitDefEqProofs [a17, c17, k6, q26, j, s1, s2]
  rw [if_neg k6]
  have b6 : (k == 5) = false := by simpa using k6
  by_cases k7 : k = 6
  · have j := join1 n wRetry c hc (by decide)
    rw [if_pos k7]
    unfold wRetry at j ⊢
    generalize nums [c] = x at j ⊢
    simp -implicitDefEqProofs at j
    simp -implicitDefEqProofs [a17, c17, k7, q26, j]
  rw [if_neg k7]
  have b7 : (k == 6) = false := by simpa using k7
  by_cases k8 : k = 7
  · rw [if_pos k8]
    by_cases hm0 : m < 0
    · have j := join2 n wCrash r nd hr hn (by decide)
      have hnl := nums_len [r, nd] (by simp [hr, hn])
      have s1 := sB_add (wCrash ++ nums [r, nd]) [32, 110, 111, 119] (by simp [wCrash] at hnl ⊢; omega)
      rw [if_pos hm0]
      unfold wCrash at j s1 ⊢
      unfold wNow
      generalize nums [r, nd] = x at j s1 ⊢
      simp -implicitDefEqProofs at j s1
      simp -implicitDefEqProofs [a17, c17, k8, q26, j, s1, hm0]
    · have j := join3 n wCrash r nd m hr hn hm (by decide)
      rw [if_neg hm0]
      unfold wCrash at j ⊢
      generalize nums [r, nd, m] = x at j ⊢
      simp -implicitDefEqProofs at j
      simp -implicitDefEqProofs [a17, c17, k8, q26, j, hm0]
  rw [if_neg k8]
  have b8 : (k == 7) = false := by simpa using k8
  simp -implicitDefEqProofs [a17, c17, b1, b2, b3, b4, b5, b6, b7, b8]
end Go.Abs.Tryd

namespace Go.Abs.Tryd
open Go Go.Abs Go.Abs.Desk
set_option maxHeartbeats 16000000
set_option maxRecDepth 100000
set_option linter.unusedSimpArgs false
set_option linter.unusedVariables false
theorem text_len (a : A) (h : AOK a) : (text a).length ≤ 500000 := by
  obtain ⟨hr, hn, hm, hc, ht⟩ := h
  have h1 := nums_len [a.r, a.n] (by simp [hr, hn])
  have h2 := nums_len [a.m] (by simp [hm])
  have h3 := nums_len [a.c] (by simp [hc])
  have h4 := nums_len [a.c, a.r] (by simp [hr, hc])
  have h5 := nums_len [a.r, a.n, a.m] (by simp [hr, hn, hm])
  simp only [List.length_cons, List.length_nil] at h1 h2 h3 h4 h5
  unfold text
  repeat' split
  all_goals simp only [List.length_append, List.length_cons, List.length_nil, wTick, wStart, wDeliver, wDrop, wDouble, wSubmit, wRetry, wCrash, wNow]
  all_goals omega
theorem aeqA (a b : A) : aeqCells [0, 0, 0, 0, 0, 2] (actV a) (actV b) = some (decide (a = b)) := by
  obtain ⟨k, r, n, m, c, t⟩ := a
  obtain ⟨k', r', n', m', c', t'⟩ := b
  unfold actV
  simp only [aeqCells, aeq1, if_true, sB_list, A.mk.injEq]
  by_cases h1 : k = k'
  · by_cases h2 : r = r'
    · by_cases h3 : n = n'
      · by_cases h4 : m = m'
        · by_cases h5 : c = c'
          · by_cases h6 : t = t'
            · simp [h1, h2, h3, h4, h5, h6]
            · simp [h1, h2, h3, h4, h5, h6]
          · simp [h1, h2, h3, h4, h5]
        · simp [h1, h2, h3, h4]
      · simp [h1, h2, h3]
    · simp [h1, h2]
  · simp [h1]
/-- a line, or none -/
def resS (o : Option B) : AV := match o with
  | some s => .tup [.str (sB s), .int .i64 0]
  | none => .tup [.str (sB []), .int .i64 200]
theorem actV_len (a : A) : (actV a).length = 6 := rfl
theorem print8 (n : Nat) (a : A) (h : AOK a) : E (n + 9) 8 [.agg (actV a)] = some (resS (print a), []) := by
  rw [e8]
  have j1 := spelt17 (n + 5) a h
  have j2 := parse5 n (text a) (Nat.le_trans (text_len a h) (by omega))
  unfold print
  generalize text a = s at j1 j2 ⊢
  cases hp : parse s with
  | none =>
    rw [hp] at j2
    unfold resA at j2
    simp only at j2
    rw [if_neg (by simp)]
    unfold resS
    simp only
    unfold actV at j1 j2 ⊢
    simp -implicitDefEqProofs [a8, c8, q17, q5, j1, j2, z24]
  | some b =>
    rw [hp] at j2
    unfold resA at j2
    simp only at j2
    have e1 := aeqA a b
    by_cases hab : a = b
    · rw [if_pos (by rw [hab]), decide_eq_true hab] at *
      unfold resS
      simp only
      unfold actV at j1 j2 e1 ⊢
      simp -implicitDefEqProofs [a8, c8, q17, q5, j1, j2, z24, e1, -aeqCells]
    · rw [if_neg (fun h2 => hab (Option.some.inj h2).symm)]
      rw [decide_eq_false hab] at e1
      unfold resS
      simp only
      unfold actV at j1 j2 e1 ⊢
      simp -implicitDefEqProofs [a8, c8, q17, q5, j1, j2, z24, e1, -aeqCells]
end Go.Abs.Tryd

namespace Go.Abs.Tryd
open Go Go.Abs Go.Abs.Desk
set_option maxHeartbeats 16000000
set_option maxRecDepth 100000
set_option linter.unusedSimpArgs false
set_option linter.unusedVariables false
theorem dig_ext (k : Nat) (h : k < 10) : (⟨#[48, 49, 50, 51, 52, 53, 54, 55, 56, 57]⟩ : ByteArray).extract k (k + 1) = sB [UInt8.ofNat (48 + k)] := by
  have : ∀ k : Fin 10, (⟨#[48, 49, 50, 51, 52, 53, 54, 55, 56, 57]⟩ : ByteArray).extract k.val (k.val + 1) = sB [UInt8.ofNat (48 + k.val)] := by decide
  exact this ⟨k, h⟩
theorem number31 (n : Nat) : ∀ (d u : Nat), u < 10 ^ (d + 1) → u ≤ 10000000 → E (n + d + 1) 31 [.int .i64 (u : Int)] = some (.str (sB (Lib.decDigits u)), [])
  | d, u, h, hb => by
    by_cases hu : u < 10
    · rw [e31, Lib.decDigits, dif_pos hu]
      have i1 : (u : Int) < 10 := by omega
      have w1 : IntKind.i64.wrap ((u : Int) + 1) = (u : Int) + 1 := wrap_i64 _ (by omega) (by omega)
      have b0 : (0 : Int) ≤ (u : Int) := by omega
      have b1 : (0 : Int) ≤ (u : Int) + 1 := by omega
      have b2 : ((u : Int) + 1).toNat = u + 1 := by omega
      have b3 : (u : Int) ≤ (u : Int) + 1 := by omega
      have b4 : (u : Int) + 1 ≤ 10 := by omega
      have hx := dig_ext u hu
      simp -implicitDefEqProofs at hx
      simp -implicitDefEqProofs [a31, c31, i1, w1, b0, b1, b2, b3, b4, hx]
    · obtain ⟨d', rfl⟩ : ∃ d', d = d' + 1 := by
        cases d with
        | zero => simp at h; omega
        | succ d' => exact ⟨d', rfl⟩
      have ih := number31 n d' (u / 10) (by rw [Nat.pow_succ] at h; omega) (by omega)
      rw [show n + (d' + 1) + 1 = (n + d' + 1) + 1 by omega, e31, Lib.decDigits, dif_neg hu]
      have i1 : ¬ (u : Int) < 10 := by omega
      have q1 : (u : Int).tdiv 10 = ((u / 10 : Nat) : Int) := by rw [Int.tdiv_eq_ediv_of_nonneg] <;> omega
      have q2 : (u : Int).tmod 10 = ((u % 10 : Nat) : Int) := by rw [Int.tmod_eq_emod_of_nonneg] <;> omega
      have hm : u % 10 < 10 := Nat.mod_lt _ (by omega)
      have hx := dig_ext (u % 10) hm
      have hl := Lib.decDigits_length (u / 10)
      have hl2 := nDigits_le 8 (u / 10) (by omega) (by have : (10 : Nat) ^ 8 = 100000000 := by decide
                                                       omega)
      have s1 := sB_add (Lib.decDigits (u / 10)) [UInt8.ofNat (48 + u % 10)] (by simp; omega)
      generalize hq : u / 10 = q at *
      generalize hr : u % 10 = r at *
      have w0 : IntKind.i64.wrap (q : Int) = (q : Int) := wrap_i64 _ (by omega) (by omega)
      have w1 : IntKind.i64.wrap ((r : Int) + 1) = (r : Int) + 1 := wrap_i64 _ (by omega) (by omega)
      have b0 : (0 : Int) ≤ (r : Int) := by omega
      have b1 : (0 : Int) ≤ (r : Int) + 1 := by omega
      have b2 : ((r : Int) + 1).toNat = r + 1 := by omega
      have b3 : (r : Int) ≤ (r : Int) + 1 := by omega
      have b4 : (r : Int) + 1 ≤ 10 := by omega
      generalize UInt8.ofNat (48 + r) = ch at hx s1 ⊢
      generalize Lib.decDigits q = dd at ih s1 ⊢
      try simp -implicitDefEqProofs at hx
      try simp -implicitDefEqProofs at s1
      simp -implicitDefEqProofs [a31, c31, i1, q1, q2, w0, w1, b0, b1, b2, b3, b4, hx, q31, ih, s1]
theorem number31m (n : Nat) (x : Int) (h : may x) : E (n + 7) 31 [.int .i64 x] = some (.str (sB (Lib.itoa x)), []) := by
  obtain ⟨u, rfl, hu, e⟩ := itoa_may h
  rw [e]
  exact number31 n 6 u (by have : (10 : Nat) ^ 7 = 10000000 := by decide
                           omega) (by omega)
theorem may_len {x : Int} (h : may x) : (Lib.itoa x).length ≤ 21 := itoa_len ⟨by have := h.1; omega, by have := h.2; omega⟩
theorem step25 (n : Nat) (R : List (List AV)) (len i c k : Nat) (f : B) (x : Int) (hx : may x) (hl : R.length = len) (hi : i < len) (hb : len ≤ 100000) (hf : f.length ≤ 1000000) (r1 : R[i]? = some [.int .i64 x]) :
    iter (ev (Q (n + 7)) 600000 b25_0) [0, 3, 4] [100000] (k + 1) ⟨[(0, .ro true 1 R), (3, .str (sB f)), (4, .int .i64 i)], [], c⟩ =
      iter (ev (Q (n + 7)) 600000 b25_0) [0, 3, 4] [100000] k ⟨[(0, .ro true 1 R), (3, .str (sB (f ++ 32 :: Lib.itoa x))), (4, .int .i64 ((i + 1 : Nat) : Int))], [], c⟩ := by
  have i1 : (i : Int) < (len : Int) := by omega
  have w1 : IntKind.i64.wrap ((i : Int) + 1) = (i : Int) + 1 := wrap_i64 _ (by omega) (by omega)
  have c1 := number31m n x hx
  have hil := may_len hx
  have s1 := sB_add f [32] (by simp; omega)
  have s2 := sB_add (f ++ [32]) (Lib.itoa x) (by simp; omega)
  have r2 := (List.getElem?_eq_some_iff.1 r1).2
  generalize Lib.itoa x = y at *
  simp -implicitDefEqProofs at s1 s2
  refine iter_norm ?_
  simp -implicitDefEqProofs [b25_0, St.keep, i1, w1, c1, q31, r1, r2, hl, hi, s1, s2]
theorem loop25 (n : Nat) (l : List Int) (hl : ∀ x ∈ l, may x) (hb : l.length ≤ 1000) (c : Nat) : ∀ (rest : List Int) (i k : Nat) (f : B), l.drop i = rest → rest.length < k → f.length + 22 * rest.length ≤ 1000000 →
    iter (ev (Q (n + 7)) 600000 b25_0) [0, 3, 4] [100000] k ⟨[(0, .ro true 1 (intR l)), (3, .str (sB f)), (4, .int .i64 i)], [], c⟩ =
      some (.exit 0, ⟨[(0, .ro true 1 (intR l)), (3, .str (sB (f ++ nums rest))), (4, .int .i64 (max i l.length : Nat)), (5, .int .i64 (max i l.length : Nat)), (6, .ro true 1 (intR l)), (7, .int .i64 l.length), (8, .bool false)], [], c⟩)
  | [], i, 0, f, hd, hk, hf => by simp at hk
  | [], i, k + 1, f, hd, hk, hf => by
    have hi : l.length ≤ i := List.drop_eq_nil_iff.1 hd
    have i1 : ¬ (i : Int) < (l.length : Int) := by omega
    have hlen : (intR l).length = l.length := by simp [intR]
    rw [iter_succ, show max i l.length = i by omega]
    simp -implicitDefEqProofs [b25_0, i1, nums, hlen]
  | x :: rest, i, 0, f, hd, hk, hf => by omega
  | x :: rest, i, k + 1, f, hd, hk, hf => by
    have hil : i < l.length := by
      by_cases h : i < l.length
      · exact h
      · rw [List.drop_eq_nil_of_le (by omega)] at hd; cases hd
    have hx : l[i]? = some x := by
      have := congrArg (fun q => q[0]?) hd
      simpa [List.getElem?_drop] using this
    have hd2 : l.drop (i + 1) = rest := by rw [← List.drop_drop, hd]; rfl
    have hxm := hl x (List.mem_of_getElem? hx)
    simp only [List.length_cons] at hk hf
    have e1 := step25 n (intR l) l.length i c k f x hxm (by simp [intR]) hil (by omega) (by omega) (intR_get hx)
    have hy := may_len hxm
    have e2 := loop25 n l hl hb c rest (i + 1) k (f ++ 32 :: Lib.itoa x) hd2 (by omega) (by simp; omega)
    rw [e1, e2]
    have : max (i + 1) l.length = max i l.length := by omega
    rw [this]
    simp [nums]
theorem numbers25 (n : Nat) (l : List Int) (hl : ∀ x ∈ l, may x) (hb : l.length ≤ 100) : E (n + 8) 25 [.ro true 1 (intR l)] = some (.str (sB (nums l)), []) := by
  rw [e25]
  have e := loop25 n l hl (by omega) 0 l 0 600000 [] rfl (by omega) (by simp; omega)
  simp -implicitDefEqProofs [a25, c25]
  rw [iter_keep]
  simp -implicitDefEqProofs []
  simp -implicitDefEqProofs at e
  rw [e]
  simp
theorem may24 (n : Nat) (x : Int) : E (n + 1) 24 [.int .i64 x] = some (.bool (decide (may x)), []) := by
  rw [e24]
  unfold may
  by_cases h1 : 0 ≤ x
  · by_cases h2 : x ≤ 1000000
    · simp -implicitDefEqProofs [a24, c24, h1, h2]
    · simp -implicitDefEqProofs [a24, c24, h1, h2]
  · simp -implicitDefEqProofs [a24, c24, h1]
theorem fields15 (n : Nat) (a : A) : E (n + 2) 15 [.agg (actV a)] = some (.bool (decide (fields a)), []) := by
  rw [e15]
  obtain ⟨k, r, nd, m, c, t⟩ := a
  have m1 := may24 n r
  have m2 := may24 n nd
  have m3 := may24 n c
  have m4 := may24 n m
  unfold actV fields
  simp only
  by_cases h1 : may r
  · by_cases h2 : may nd
    · by_cases h3 : may c
      · by_cases h4 : may m
        · simp only [h1, h2, h3, h4, decide_true, decide_false] at m1 m2 m3 m4
          simp -implicitDefEqProofs [a15, c15, q24, m1, m2, m3, m4, h1, h2, h3, h4]
        · by_cases h5 : m = -1
          · by_cases h6 : k = 7
            · simp only [h1, h2, h3, h4, decide_true, decide_false] at m1 m2 m3 m4
              have b1 : (m == -1) = true := by simpa using h5
              have b2 : (k == 7) = true := by simpa using h6
              simp -implicitDefEqProofs [a15, c15, q24, m1, m2, m3, m4, h1, h2, h3, h4, b1, b2]
              simp [h5, h6]
            · simp only [h1, h2, h3, h4, decide_true, decide_false] at m1 m2 m3 m4
              have b1 : (m == -1) = true := by simpa using h5
              have b2 : (k == 7) = false := by simpa using h6
              simp -implicitDefEqProofs [a15, c15, q24, m1, m2, m3, m4, h1, h2, h3, h4, b1, b2]
              simp [h5, h6]
          · simp only [h1, h2, h3, h4, decide_true, decide_false] at m1 m2 m3 m4
            have b1 : (m == -1) = false := by simpa using h5
            simp -implicitDefEqProofs [a15, c15, q24, m1, m2, m3, m4, h1, h2, h3, h4, b1]
            simp [h5]
      · simp only [h1, h2, h3, decide_true, decide_false] at m1 m2 m3 m4
        simp -implicitDefEqProofs [a15, c15, q24, m1, m2, m3, h1, h2, h3]
    · simp only [h1, h2, decide_true, decide_false] at m1 m2 m3 m4
      simp -implicitDefEqProofs [a15, c15, q24, m1, m2, h1, h2]
  · simp only [h1, decide_true, decide_false] at m1 m2 m3 m4
    simp -implicitDefEqProofs [a15, c15, q24, m1, h1]
end Go.Abs.Tryd

namespace Go.Abs.Tryd
open Go Go.Abs Go.Abs.Desk
set_option maxHeartbeats 16000000
set_option maxRecDepth 100000
set_option linter.unusedSimpArgs false
set_option linter.unusedVariables false
theorem may_i {x : Int} (h : may x) : i64 x := ⟨by have := h.1; omega, by have := h.2; omega⟩
theorem nb1 (n : Nat) (x : Int) (hx : may x) : E (n + 8) 25 [.ro true 1 [[.int .i64 x]]] = some (.str (sB (nums [x])), []) := numbers25 n [x] (by simp [hx]) (by simp)
theorem nb2 (n : Nat) (x y : Int) (hx : may x) (hy : may y) : E (n + 8) 25 [.ro true 1 [[.int .i64 x], [.int .i64 y]]] = some (.str (sB (nums [x, y])), []) := numbers25 n [x, y] (by simp [hx, hy]) (by simp)
theorem nb3 (n : Nat) (x y z : Int) (hx : may x) (hy : may y) (hz : may z) : E (n + 8) 25 [.ro true 1 [[.int .i64 x], [.int .i64 y], [.int .i64 z]]] = some (.str (sB (nums [x, y, z])), []) := numbers25 n [x, y, z] (by simp [hx, hy, hz]) (by simp)
theorem text16 (n : Nat) (a : A) (h : fields a) (ht : a.t.length ≤ 262144) : E (n + 9) 16 [.agg (actV a)] = some (.str (sB (text a)), []) := by
  obtain ⟨k, r, nd, m, c, t⟩ := a
  obtain ⟨hr, hn, hc, hm⟩ := h
  simp only at hr hn hm hc ht
  rw [e16]
  unfold actV text
  simp only
  by_cases k1 : k = 1
  · have j := nb2 n r nd hr hn
    have hnl := nums_len [r, nd] (by simp [may_i hr, may_i hn])
    rw [if_pos k1]
    have s1 := sB_add wTick (nums [r, nd]) (by simp [wTick] at hnl ⊢; omega)
    unfold wTick at s1 ⊢
    generalize nums [r, nd] = x at j s1 ⊢
    simp -implicitDefEqProofs at s1
    simp -implicitDefEqProofs [a16, c16, k1, q25, j, s1]
  rw [if_neg k1]
  have b1 : (k == 1) = false := by simpa using k1
  by_cases k2 : k = 8
  · have j := nb2 n r nd hr hn
    have hnl := nums_len [r, nd] (by simp [may_i hr, may_i hn])
    rw [if_pos k2]
    have s1 := sB_add wStart (nums [r, nd]) (by simp [wStart] at hnl ⊢; omega)
    unfold wStart at s1 ⊢
    generalize nums [r, nd] = x at j s1 ⊢
    simp -implicitDefEqProofs at s1
    simp -implicitDefEqProofs [a16, c16, k2, q25, j, s1]
  rw [if_neg k2]
  have b2 : (k == 8) = false := by simpa using k2
  by_cases k3 : k = 2
  · have hm' : may m := by rcases hm with h | h
                           · exact h
                           · exact absurd h.2 (by rw [k3]; decide)
    have j := nb1 n m hm'
    have hnl := nums_len [m] (by simp [may_i hm'])
    rw [if_pos k3]
    have s1 := sB_add wDeliver (nums [m]) (by simp [wDeliver] at hnl ⊢; omega)
    unfold wDeliver at s1 ⊢
    generalize nums [m] = x at j s1 ⊢
    simp -implicitDefEqProofs at s1
    simp -implicitDefEqProofs [a16, c16, k3, q25, j, s1]
  rw [if_neg k3]
  have b3 : (k == 2) = false := by simpa using k3
  by_cases k4 : k = 3
  · have hm' : may m := by rcases hm with h | h
                           · exact h
                           · exact absurd h.2 (by rw [k4]; decide)
    have j := nb1 n m hm'
    have hnl := nums_len [m] (by simp [may_i hm'])
    rw [if_pos k4]
    have s1 := sB_add wDrop (nums [m]) (by simp [wDrop] at hnl ⊢; omega)
    unfold wDrop at s1 ⊢
    generalize nums [m] = x at j s1 ⊢
    simp -implicitDefEqProofs at s1
    simp -implicitDefEqProofs [a16, c16, k4, q25, j, s1]
  rw [if_neg k4]
  have b4 : (k == 3) = false := by simpa using k4
  by_cases k5 : k = 4
  · have hm' : may m := by rcases hm with h | h
                           · exact h
                           · exact absurd h.2 (by rw [k5]; decide)
    have j := nb1 n m hm'
    have hnl := nums_len [m] (by simp [may_i hm'])
    rw [if_pos k5]
    have s1 := sB_add wDouble (nums [m]) (by simp [wDouble] at hnl ⊢; omega)
    unfold wDouble at s1 ⊢
    generalize nums [m] = x at j s1 ⊢
    simp -implicitDefEqProofs at s1
    simp -implicitDefEqProofs [a16, c16, k5, q25, j, s1]
  rw [if_neg k5]
  have b5 : (k == 4) = false := by simpa using k5
  by_cases k6 : k = 5
  · have j := nb2 n c r hc hr
    have hnl := nums_len [c, r] (by simp [may_i hc, may_i hr])
    rw [if_pos k6]
    have s0 := sB_add wSubmit (nums [c, r]) (by simp [wSubmit] at hnl ⊢; omega)
    have s1 := sB_add (wSubmit ++ nums [c, r]) [32] (by simp [wSubmit] at hnl ⊢; omega)
    have s2 := sB_add (wSubmit ++ nums [c, r] ++ [32]) t (by simp [wSubmit] at hnl ⊢; omega)
    unfold wSubmit at s0 s1 s2 ⊢
    generalize nums [c, r] = x at j s0 s1 s2 ⊢
    simp -implicitDefEqProofs at s0
    simp -implicitDefEqProofs at s1
    simp -implicitDefEqProofs at s2
    simp -implicitDefEqProofs [a16, c16, k6, q25, j, s0, s1, s2]
  rw [if_neg k6]
  have b6 : (k == 5) = false := by simpa using k6
  by_cases k7 : k = 6
  · have j := nb1 n c hc
    have hnl := nums_len [c] (by simp [may_i hc])
    rw [if_pos k7]
    have s1 := sB_add wRetry (nums [c]) (by simp [wRetry] at hnl ⊢; omega)
    unfold wRetry at s1 ⊢
    generalize nums [c] = x at j s1 ⊢
    simp -implicitDefEqProofs at s1
    simp -implicitDefEqProofs [a16, c16, k7, q25, j, s1]
  rw [if_neg k7]
  have b7 : (k == 6) = false := by simpa using k7
  by_cases k8 : k = 7
  · rw [if_pos k8]
    by_cases hm0 : m < 0
    · have j := nb2 n r nd hr hn
      have hnl := nums_len [r, nd] (by simp [may_i hr, may_i hn])
      have s0 := sB_add wCrash (nums [r, nd]) (by simp [wCrash] at hnl ⊢; omega)
      have s1 := sB_add (wCrash ++ nums [r, nd]) [32, 110, 111, 119] (by simp [wCrash] at hnl ⊢; omega)
      rw [if_pos hm0]
      unfold wCrash at s0 s1 ⊢
      unfold wNow
      generalize nums [r, nd] = x at j s0 s1 ⊢
      simp -implicitDefEqProofs at s0
      simp -implicitDefEqProofs at s1
      simp -implicitDefEqProofs [a16, c16, k8, q25, j, s0, s1, hm0]
    · have hm' : may m := by rcases hm with h | h
                             · exact h
                             · exact absurd h.1 (by omega)
      have j := nb3 n r nd m hr hn hm'
      have hnl := nums_len [r, nd, m] (by simp [may_i hr, may_i hn, may_i hm'])
      have s0 := sB_add wCrash (nums [r, nd, m]) (by simp [wCrash] at hnl ⊢; omega)
      rw [if_neg hm0]
      unfold wCrash at s0 ⊢
      generalize nums [r, nd, m] = x at j s0 ⊢
      simp -implicitDefEqProofs at s0
      simp -implicitDefEqProofs [a16, c16, k8, q25, j, s0, hm0]
  rw [if_neg k8]
  have b8 : (k == 7) = false := by simpa using k8
  simp -implicitDefEqProofs [a16, c16, b1, b2, b3, b4, b5, b6, b7, b8]
end Go.Abs.Tryd

namespace Go.Abs.Tryd
open Go Go.Abs Go.Abs.Desk
set_option maxHeartbeats 16000000
set_option maxRecDepth 100000
set_option linter.unusedSimpArgs false
set_option linter.unusedVariables false
theorem u8_ne (b : UInt8) (k : UInt8) (h : ¬ b = k) : ((b.toNat : Int) == (k.toNat : Int)) = false := by
  have : b.toNat ≠ k.toNat := fun e => h (UInt8.toNat_inj.1 e)
  have h2 : (b.toNat : Int) ≠ (k.toNat : Int) := by omega
  simpa using h2
theorem drop_get {α} {l rest : List α} {i : Nat} {x : α} (hd : l.drop i = x :: rest) : i < l.length ∧ l[i]? = some x ∧ l.drop (i + 1) = rest := by
  have hil : i < l.length := by
    by_cases h : i < l.length
    · exact h
    · rw [List.drop_eq_nil_of_le (by omega)] at hd; cases hd
  refine ⟨hil, ?_, by rw [← List.drop_drop, hd]; rfl⟩
  have := congrArg (fun q => q[0]?) hd
  simpa [List.getElem?_drop] using this
theorem step13 (Φ : Nat → Option FnF) (K : Nat) (l : B) (i c k : Nat) (x : UInt8) (hx : l[i]? = some x) (hb : l.length ≤ 1000000) (hne : ¬ x = 10) :
    iter (ev Φ K b13_0) [0, 3] [] (k + 1) ⟨[(0, .str (sB l)), (3, .int .i64 i)], [], c⟩ =
      iter (ev Φ K b13_0) [0, 3] [] k ⟨[(0, .str (sB l)), (3, .int .i64 ((i + 1 : Nat) : Int))], [], c⟩ := by
  have hi := (List.getElem?_eq_some_iff.1 hx).1
  have hx2 := (List.getElem?_eq_some_iff.1 hx).2
  have i1 : (i : Int) < (l.length : Int) := by omega
  have w1 : IntKind.i64.wrap ((i : Int) + 1) = (i : Int) + 1 := wrap_i64 _ (by omega) (by omega)
  have b1 : ((x.toNat : Int) == 10) = false := u8_ne x 10 hne
  refine iter_norm ?_
  simp -implicitDefEqProofs [b13_0, St.keep, i1, w1, hx, hx2, hi, b1, sB_size]
theorem hit13 (Φ : Nat → Option FnF) (K : Nat) (l : B) (i c k : Nat) (hx : l[i]? = some 10) (hb : l.length ≤ 1000000) :
    iter (ev Φ K b13_0) [0, 3] [] (k + 1) ⟨[(0, .str (sB l)), (3, .int .i64 i)], [], c⟩ =
      some (.ret, ⟨[(0, .str (sB l)), (2, .bool false), (3, .int .i64 i), (10, .str (sB l)), (11, .int .i64 i), (12, .int .u8 10), (13, .bool true)], [], c⟩) := by
  have hi := (List.getElem?_eq_some_iff.1 hx).1
  have hx2 := (List.getElem?_eq_some_iff.1 hx).2
  have i1 : (i : Int) < (l.length : Int) := by omega
  rw [iter_succ]
  simp -implicitDefEqProofs [b13_0, i1, hx, hx2, hi, sB_size]
theorem loop13 (Φ : Nat → Option FnF) (K : Nat) (l : B) (hb : l.length ≤ 1000000) (c : Nat) : ∀ (rest : B) (i k : Nat), l.drop i = rest → i ≤ l.length → rest.length < k →
    (10 ∈ rest → ∃ j : Nat, iter (ev Φ K b13_0) [0, 3] [] k ⟨[(0, .str (sB l)), (3, .int .i64 i)], [], c⟩ =
      some (.ret, ⟨[(0, .str (sB l)), (2, .bool false), (3, .int .i64 j), (10, .str (sB l)), (11, .int .i64 j), (12, .int .u8 10), (13, .bool true)], [], c⟩)) ∧
    (10 ∉ rest → iter (ev Φ K b13_0) [0, 3] [] k ⟨[(0, .str (sB l)), (3, .int .i64 i)], [], c⟩ =
      some (.exit 0, ⟨[(0, .str (sB l)), (3, .int .i64 l.length), (4, .int .i64 l.length), (5, .str (sB l)), (6, .int .i64 l.length), (7, .bool false)], [], c⟩))
  | [], i, 0, hd, hil, hk => by simp at hk
  | [], i, k + 1, hd, hil, hk => by
    have hi : l.length ≤ i := List.drop_eq_nil_iff.1 hd
    obtain rfl : i = l.length := by omega
    refine ⟨fun h => by simp at h, fun _ => ?_⟩
    rw [iter_succ]
    simp -implicitDefEqProofs [b13_0, sB_size]
  | x :: rest, i, 0, hd, hil, hk => by omega
  | x :: rest, i, k + 1, hd, hil, hk => by
    obtain ⟨h1, h2, h3⟩ := drop_get hd
    simp only [List.length_cons] at hk
    by_cases hx : x = 10
    · refine ⟨fun _ => ⟨i, ?_⟩, fun h => absurd (by rw [hx]; exact List.mem_cons_self) h⟩
      rw [hx] at h2
      exact hit13 Φ K l i c k h2 hb
    · obtain ⟨g1, g2⟩ := loop13 Φ K l hb c rest (i + 1) k h3 (by omega) (by omega)
      rw [step13 Φ K l i c k x h2 hb hx]
      refine ⟨fun h => g1 ((List.mem_cons.1 h).resolve_left (fun e => hx e.symm)), fun h => g2 (fun hm => h (List.mem_cons_of_mem _ hm))⟩
theorem line13 (n : Nat) (l : B) (hb : l.length ≤ 500000) : E (n + 1) 13 [.str (sB l)] = some (.bool (decide (lineOK l)), []) := by
  rw [e13]
  obtain ⟨g1, g2⟩ := loop13 (Q n) 600000 l (by omega) 0 l 0 600000 rfl (by omega) (by omega)
  by_cases hm : 10 ∈ l
  · obtain ⟨j, e⟩ := g1 hm
    have : ¬ lineOK l := fun h => h.2 hm
    rw [decide_eq_false this]
    simp -implicitDefEqProofs [a13, c13]
    rw [iter_keep]
    simp -implicitDefEqProofs []
    simp -implicitDefEqProofs at e
    rw [e]
    simp
  · have e := g2 hm
    have h : decide (lineOK l) = decide (l.length ≤ 300) := by
      by_cases h3 : l.length ≤ 300
      · rw [decide_eq_true h3, decide_eq_true (show lineOK l from ⟨h3, hm⟩)]
      · rw [decide_eq_false h3, decide_eq_false (fun h : lineOK l => h3 h.1)]
    rw [h]
    have h4 : decide ((l.length : Int) ≤ 300) = decide (l.length ≤ 300) := by
      by_cases h3 : l.length ≤ 300
      · rw [decide_eq_true h3, decide_eq_true (by omega)]
      · rw [decide_eq_false h3, decide_eq_false (by omega)]
    simp -implicitDefEqProofs [a13, c13]
    rw [iter_keep]
    simp -implicitDefEqProofs []
    simp -implicitDefEqProofs at e
    rw [e]
    simp -implicitDefEqProofs [h4, sB_size]
    try omega
/- ---------------------------------------------------------------- the reference's number -/
def dst := dstep
theorem dstep_b {n : Int} {c : UInt8} {j : Nat} (h0 : 0 ≤ n) (h1 : n < 10 ^ j) : 0 ≤ dstep n c ∧ dstep n c < 10 ^ (j + 1) := by
  unfold dstep
  have hp : (10 : Int) ^ (j + 1) = 10 ^ j * 10 := Int.pow_succ _ _
  split
  · omega
  · omega
theorem step23 (Φ : Nat → Option FnF) (K : Nat) (l : B) (i c k : Nat) (x : UInt8) (z : Int) (hx : l[i]? = some x) (hb : l.length ≤ 1000000) (h9 : i < 9) (z0 : 0 ≤ z) (z1 : z ≤ 1000000000) :
    iter (ev Φ K b23_0) [0, 3, 4] [] (k + 1) ⟨[(0, .str (sB l)), (3, .int .i64 z), (4, .int .i64 i)], [], c⟩ =
      iter (ev Φ K b23_0) [0, 3, 4] [] k ⟨[(0, .str (sB l)), (3, .int .i64 (dstep z x)), (4, .int .i64 ((i + 1 : Nat) : Int))], [], c⟩ := by
  have hi := (List.getElem?_eq_some_iff.1 hx).1
  have hx2 := (List.getElem?_eq_some_iff.1 hx).2
  have i1 : (i : Int) < (l.length : Int) := by omega
  have i2 : (i : Int) < 9 := by omega
  have w1 : IntKind.i64.wrap ((i : Int) + 1) = (i : Int) + 1 := wrap_i64 _ (by omega) (by omega)
  have hxl := UInt8.toNat_lt x
  unfold dstep
  by_cases h1 : 48 ≤ x.toNat
  · have d1 : (48 : Int) ≤ (x.toNat : Int) := by omega
    by_cases h2 : x.toNat ≤ 57
    · have d2 : (x.toNat : Int) ≤ 57 := by omega
      have w2 : IntKind.i64.wrap (10 * z) = 10 * z := wrap_i64 _ (by omega) (by omega)
      have w3 : IntKind.u8.wrap ((x.toNat : Int) - 48) = (x.toNat : Int) - 48 := by simp [IntKind.wrap, IntKind.bits, IntKind.signed]; omega
      have w4 : IntKind.i64.wrap ((x.toNat : Int) - 48) = (x.toNat : Int) - 48 := wrap_i64 _ (by omega) (by omega)
      have w5 : IntKind.i64.wrap (10 * z + ((x.toNat : Int) - 48)) = 10 * z + ((x.toNat : Int) - 48) := wrap_i64 _ (by omega) (by omega)
      refine iter_norm ?_
      simp -implicitDefEqProofs [b23_0, St.keep, i1, i2, w1, w2, w3, w4, w5, hx, hx2, hi, sB_size, d1, d2, h1, h2]
    · have d2 : ¬ (x.toNat : Int) ≤ 57 := by omega
      refine iter_norm ?_
      simp -implicitDefEqProofs [b23_0, St.keep, i1, i2, w1, hx, hx2, hi, sB_size, d1, d2, h1, h2]
  · have d1 : ¬ (48 : Int) ≤ (x.toNat : Int) := by omega
    refine iter_norm ?_
    simp -implicitDefEqProofs [b23_0, St.keep, i1, i2, w1, hx, hx2, hi, sB_size, d1, h1]
end Go.Abs.Tryd

namespace Go.Abs.Tryd
open Go Go.Abs Go.Abs.Desk
set_option maxHeartbeats 16000000
set_option maxRecDepth 100000
set_option linter.unusedSimpArgs false
set_option linter.unusedVariables false
theorem loop23 (Φ : Nat → Option FnF) (K : Nat) (l : B) (hb : l.length ≤ 1000000) (c : Nat) : ∀ (rest : B) (i k : Nat) (z : Int), l.drop i = rest → i ≤ l.length → i ≤ 9 → 10 ≤ i + k → 0 ≤ z → z < 10 ^ i →
    ∃ t, envOnly [3] t = [] ∧ iter (ev Φ K b23_0) [0, 3, 4] [] k ⟨[(0, .str (sB l)), (3, .int .i64 z), (4, .int .i64 i)], [], c⟩ =
      some (.exit 0, ⟨(0, .str (sB l)) :: (3, .int .i64 ((rest.take (9 - i)).foldl dstep z)) :: t, [], c⟩)
  | rest, i, 0, z, hd, hil, h9, hk, z0, z1 => by omega
  | [], i, k + 1, z, hd, hil, h9, hk, z0, z1 => by
    have hi : l.length ≤ i := List.drop_eq_nil_iff.1 hd
    obtain rfl : i = l.length := by omega
    refine ⟨[(4, .int .i64 l.length), (5, .int .i64 l.length), (6, .str (sB l)), (7, .int .i64 l.length), (8, .bool false), (9, .bool false), (10, .tup []), (11, .tup []), (12, .bool false)], rfl, ?_⟩
    rw [iter_succ]
    simp -implicitDefEqProofs [b23_0, sB_size]
  | x :: rest, i, k + 1, z, hd, hil, h9, hk, z0, z1 => by
    obtain ⟨h1, h2, h3⟩ := drop_get hd
    have i1 : (i : Int) < (l.length : Int) := by omega
    by_cases hi9 : i = 9
    · subst hi9
      refine ⟨[(4, .int .i64 9), (5, .int .i64 9), (6, .str (sB l)), (7, .int .i64 l.length), (8, .bool true), (9, .bool true), (10, .int .i64 9), (11, .bool false), (12, .bool false)], rfl, ?_⟩
      rw [iter_succ]
      have i2 : (9 : Int) < (l.length : Int) := by omega
      simp -implicitDefEqProofs [b23_0, sB_size, i2]
    · have hp : (10 : Int) ^ i ≤ 100000000 := by
        have : i ≤ 8 := by omega
        have e : (100000000 : Int) = 10 ^ 8 := by decide
        rw [e]
        exact_mod_cast Nat.pow_le_pow_right (by omega) this
      obtain ⟨d0, d1⟩ := dstep_b (c := x) z0 z1
      obtain ⟨t, ht, e⟩ := loop23 Φ K l hb c rest (i + 1) k (dstep z x) h3 (by omega) (by omega) (by omega) d0 d1
      refine ⟨t, ht, ?_⟩
      rw [step23 Φ K l i c k x z h2 hb (by omega) z0 (by omega), e]
      have : 9 - i = (9 - (i + 1)) + 1 := by omega
      rw [this, List.take_succ_cons, List.foldl_cons]
theorem number23 (n : Nat) (l : B) (hb : l.length ≤ 1000000) : E (n + 1) 23 [.str (sB l)] = some (.int .i64 (refnum l), []) := by
  rw [e23]
  obtain ⟨t, ht, e⟩ := loop23 (Q n) 600000 l hb 0 l 0 600000 0 rfl (by omega) (by omega) (by omega) (by omega) (by simp)
  have hr : refnum l = (l.take (9 - 0)).foldl dstep 0 := rfl
  rw [hr]
  generalize (l.take (9 - 0)).foldl dstep 0 = z at e ⊢
  simp -implicitDefEqProofs [a23, c23]
  rw [iter_keep]
  simp -implicitDefEqProofs []
  simp -implicitDefEqProofs at e
  rw [e]
  simp -implicitDefEqProofs [ht]
/- ---------------------------------------------------------------- the reference's words -/
def wl : Nat → B → B → List B
  | _, cur, [] => [cur]
  | 0, cur, c :: r => wl 0 (cur ++ [c]) r
  | k + 1, cur, c :: r => if c = 32 then cur :: wl k [] r else wl (k + 1) (cur ++ [c]) r
theorem wl_zero : ∀ (l cur : B), wl 0 cur l = [cur ++ l]
  | [], cur => by simp [wl]
  | c :: r, cur => by simp [wl, wl_zero r]
theorem wl_words : ∀ (l : B) (k : Nat) (cur : B), ∃ w ws, words k l = w :: ws ∧ wl k cur l = (cur ++ w) :: ws := by
  intro l
  induction l with
  | nil =>
    intro k cur
    cases k with
    | zero => exact ⟨[], [], rfl, by simp [wl]⟩
    | succ k => exact ⟨[], [], by simp [words, cut], by simp [wl]⟩
  | cons c r ih =>
    intro k cur
    cases k with
    | zero => exact ⟨c :: r, [], rfl, by rw [wl_zero]⟩
    | succ k =>
      by_cases hc : c = 32
      · obtain ⟨w, ws, h1, h2⟩ := ih k []
        exact ⟨[], w :: ws, by simp [words, cut, hc, h1], by simp [wl, hc, h2]⟩
      · obtain ⟨w, ws, h1, h2⟩ := ih (k + 1) (cur ++ [c])
        refine ⟨c :: w, ws, ?_, by simp [wl, hc, h2]⟩
        simp only [words, cut, if_neg hc] at h1 ⊢
        split
        · next hq => rw [if_pos hq] at h1; simp at h1 ⊢; exact h1
        · next hq => rw [if_neg hq] at h1; simp at h1 ⊢; exact h1
theorem words_wl (k : Nat) (l : B) : words k l = wl k [] l := by
  obtain ⟨w, ws, h1, h2⟩ := wl_words l k []
  rw [h1, h2]; rfl
/-- texts as rows -/
def strR (ws : List B) : List (List AV) := ws.map fun w => [.str (sB w)]
theorem strR_len (ws : List B) : (strR ws).length = ws.length := by simp [strR]
theorem ibeq {a b : Int} (h : a ≠ b) : (a == b) = false := by simpa using h
def outV (ws : List B) (g : Nat) : AV := match ws with | [] => .nilS | _ :: _ => .own 37 g 0 ws.length
def outH (ws : List B) (g : Nat) : AH := match ws with | [] => [] | _ :: _ => [⟨37, g, .arr 1 (strR ws) false⟩]
theorem stepA (Φ : Nat → Option FnF) (K : Nat) (l : B) (i p c k g : Nat) (ws : List B) (x : UInt8) (hx : l[i]? = some x) (hb : l.length ≤ 1000000) (hw : ws.length ≤ 4) (hne : ¬ x = 32 ∨ 3 ≤ ws.length) :
    iter (ev Φ K b22_0) [0, 1, 5, 6, 7] [37] (k + 1) ⟨[(0, .str (sB l)), (1, .int .i64 4), (5, outV ws g), (6, .int .i64 p), (7, .int .i64 i)], outH ws g, c⟩ =
      iter (ev Φ K b22_0) [0, 1, 5, 6, 7] [37] k ⟨[(0, .str (sB l)), (1, .int .i64 4), (5, outV ws g), (6, .int .i64 p), (7, .int .i64 ((i + 1 : Nat) : Int))], outH ws g, c⟩ := by
  have hi := (List.getElem?_eq_some_iff.1 hx).1
  have hx2 := (List.getElem?_eq_some_iff.1 hx).2
  have i1 : (i : Int) ≤ (l.length : Int) := by omega
  have i2 : ((i : Int) == (l.length : Int)) = false := ibeq (by omega)
  have w1 : IntKind.i64.wrap ((i : Int) + 1) = (i : Int) + 1 := wrap_i64 _ (by omega) (by omega)
  have w3 : IntKind.i64.wrap 3 = 3 := by decide
  by_cases h32 : x = 32
  · have h3 : 3 ≤ ws.length := hne.resolve_left (fun h => h h32)
    have b1 : ((x.toNat : Int) == 32) = true := by rw [h32]; rfl
    cases ws with
    | nil => simp at h3
    | cons w ws =>
      have b3 : ¬ (((w :: ws).length : Nat) : Int) < 3 := by omega
      generalize hn : (w :: ws).length = m at *
      generalize strR (w :: ws) = R
      refine iter_norm ?_
      simp -implicitDefEqProofs [b22_0, St.keep, i1, i2, w1, w3, hx, hx2, hi, b1, b3, sB_size, outV, outH, hn]
  · have b1 : ((x.toNat : Int) == 32) = false := u8_ne x 32 h32
    cases ws with
    | nil =>
      refine iter_norm ?_
      simp -implicitDefEqProofs [b22_0, St.keep, i1, i2, w1, hx, hx2, hi, b1, sB_size, outV, outH]
    | cons w ws =>
      refine iter_norm ?_
      simp -implicitDefEqProofs [b22_0, St.keep, i1, i2, w1, hx, hx2, hi, b1, sB_size, outV, outH]
theorem strR_app (ws : List B) (w : B) : strR (ws ++ [w]) = strR ws ++ [[.str (sB w)]] := by simp [strR]
/-- a word is put to the row: at a blank, or at the end -/
theorem stepB (Φ : Nat → Option FnF) (K : Nat) (l : B) (i p c k g : Nat) (ws : List B) (hi : i ≤ l.length) (hpi : p ≤ i) (hb : l.length ≤ 1000000) (hw : ws.length ≤ 4) (hx : (i < l.length ∧ l[i]? = some 32 ∧ ws.length < 3) ∨ i = l.length) :
    iter (ev Φ K b22_0) [0, 1, 5, 6, 7] [37] (k + 1) ⟨[(0, .str (sB l)), (1, .int .i64 4), (5, outV ws g), (6, .int .i64 p), (7, .int .i64 i)], outH ws g, c⟩ =
      iter (ev Φ K b22_0) [0, 1, 5, 6, 7] [37] k ⟨[(0, .str (sB l)), (1, .int .i64 4), (5, outV (ws ++ [(l.take i).drop p]) (c + 1)), (6, .int .i64 ((i + 1 : Nat) : Int)), (7, .int .i64 ((i + 1 : Nat) : Int))], outH (ws ++ [(l.take i).drop p]) (c + 1), c + 2⟩ := by
  have i1 : (i : Int) ≤ (l.length : Int) := by omega
  have w1 : IntKind.i64.wrap ((i : Int) + 1) = (i : Int) + 1 := wrap_i64 _ (by omega) (by omega)
  have w3 : IntKind.i64.wrap 3 = 3 := by decide
  have p1 : (p : Int) ≤ (i : Int) := by omega
  rcases hx with ⟨h1, h2, h3⟩ | h1
  · have i2 : ((i : Int) == (l.length : Int)) = false := ibeq (by omega)
    have hx2 := (List.getElem?_eq_some_iff.1 h2).2
    cases ws with
    | nil =>
      generalize hcur : (l.take i).drop p = cur
      refine iter_norm ?_
      simp -implicitDefEqProofs [b22_0, St.keep, i1, i2, w1, w3, h2, hx2, h1, hi, p1, hpi, sB_size, sB_ext, aappend, outV, outH, strR, maxBytes, hcur]
    | cons w ws =>
      have b3 : (((w :: ws).length : Nat) : Int) < 3 := by omega
      have hR := strR_len (w :: ws)
      have e2 := strR_app (w :: ws) ((l.take i).drop p)
      have e3 : outV (w :: ws ++ [(l.take i).drop p]) (c + 1) = .own 37 (c + 1) 0 ((w :: ws).length + 1) := by simp [outV]
      have e4 : outH (w :: ws ++ [(l.take i).drop p]) (c + 1) = [⟨37, c + 1, .arr 1 (strR (w :: ws ++ [(l.take i).drop p])) false⟩] := rfl
      have eV : outV (w :: ws) g = .own 37 g 0 (w :: ws).length := rfl
      have eH : outH (w :: ws) g = [⟨37, g, .arr 1 (strR (w :: ws)) false⟩] := rfl
      rw [e3, e4, e2, eV, eH]
      generalize hcur : (l.take i).drop p = cur
      have t1 : (strR (w :: ws)).take (w :: ws).length = strR (w :: ws) := List.take_of_length_le (by rw [hR]; exact Nat.le_refl _)
      generalize hn : (w :: ws).length = m at *
      generalize strR (w :: ws) = R at *
      have m1 : (m + 1) * 16 ≤ maxBytes := by unfold maxBytes; omega
      have m2 : (m + 1 ≤ m) = False := by simp
      refine iter_norm ?_
      simp -implicitDefEqProofs [b22_0, St.keep, i1, i2, w1, w3, h2, hx2, h1, hi, p1, hpi, b3, sB_size, sB_ext, aappend, outV, outH, hcur, hn, hR, t1, m1, m2]
  · subst h1
    cases ws with
    | nil =>
      generalize hcur : (l.take l.length).drop p = cur
      refine iter_norm ?_
      simp -implicitDefEqProofs [b22_0, St.keep, w1, w3, p1, hpi, sB_size, sB_ext, aappend, outV, outH, strR, maxBytes]
      rw [← hcur]; simp
    | cons w ws =>
      have hR := strR_len (w :: ws)
      have e2 := strR_app (w :: ws) ((l.take l.length).drop p)
      have e3 : outV (w :: ws ++ [(l.take l.length).drop p]) (c + 1) = .own 37 (c + 1) 0 ((w :: ws).length + 1) := by simp [outV]
      have e4 : outH (w :: ws ++ [(l.take l.length).drop p]) (c + 1) = [⟨37, c + 1, .arr 1 (strR (w :: ws ++ [(l.take l.length).drop p])) false⟩] := rfl
      have eV : outV (w :: ws) g = .own 37 g 0 (w :: ws).length := rfl
      have eH : outH (w :: ws) g = [⟨37, g, .arr 1 (strR (w :: ws)) false⟩] := rfl
      rw [e3, e4, e2, eV, eH]
      have t1 : (strR (w :: ws)).take (w :: ws).length = strR (w :: ws) := List.take_of_length_le (by rw [hR]; exact Nat.le_refl _)
      generalize hn : (w :: ws).length = m at *
      generalize strR (w :: ws) = R at *
      have m1 : (m + 1) * 16 ≤ maxBytes := by unfold maxBytes; omega
      have m2 : (m + 1 ≤ m) = False := by simp
      refine iter_norm ?_
      simp -implicitDefEqProofs [b22_0, St.keep, w1, w3, p1, hpi, sB_size, sB_ext, aappend, outV, outH, hn, hR, t1, m1, m2]
end Go.Abs.Tryd

namespace Go.Abs.Tryd
open Go Go.Abs Go.Abs.Desk
set_option maxHeartbeats 16000000
set_option maxRecDepth 100000
set_option linter.unusedSimpArgs false
set_option linter.unusedVariables false
theorem end22 (Φ : Nat → Option FnF) (K : Nat) (l : B) (c k g : Nat) (W : List B) (hb : l.length ≤ 1000000) :
    iter (ev Φ K b22_0) [0, 1, 5, 6, 7] [37] (k + 1) ⟨[(0, .str (sB l)), (1, .int .i64 4), (5, outV W g), (6, .int .i64 ((l.length + 1 : Nat) : Int)), (7, .int .i64 ((l.length + 1 : Nat) : Int))], outH W g, c⟩ =
      some (.exit 0, ⟨[(0, .str (sB l)), (1, .int .i64 4), (5, outV W g), (6, .int .i64 ((l.length + 1 : Nat) : Int)), (7, .int .i64 ((l.length + 1 : Nat) : Int)), (8, .int .i64 ((l.length + 1 : Nat) : Int)), (9, .str (sB l)), (10, .int .i64 l.length), (11, .bool false)], outH W g, c⟩) := by
  have i1 : ¬ (((l.length + 1 : Nat) : Int)) ≤ (l.length : Int) := by omega
  have hH : (outH W g).only [37] = outH W g := by cases W <;> rfl
  generalize ((l.length + 1 : Nat) : Int) = z at *
  rw [iter_succ]
  simp -implicitDefEqProofs [b22_0, sB_size, i1, hH]
theorem loop22 (Φ : Nat → Option FnF) (K : Nat) (l : B) (hb : l.length ≤ 1000000) : ∀ (rest : B) (i p k g c : Nat) (ws : List B), l.drop i = rest → i ≤ l.length → p ≤ i → ws.length ≤ 3 → rest.length + 2 ≤ k →
    ∃ g' c' t, envOnly [5] t = [] ∧ iter (ev Φ K b22_0) [0, 1, 5, 6, 7] [37] k ⟨[(0, .str (sB l)), (1, .int .i64 4), (5, outV ws g), (6, .int .i64 p), (7, .int .i64 i)], outH ws g, c⟩ =
      some (.exit 0, ⟨(0, .str (sB l)) :: (1, .int .i64 4) :: (5, outV (ws ++ wl (3 - ws.length) ((l.take i).drop p) rest) g') :: t, outH (ws ++ wl (3 - ws.length) ((l.take i).drop p) rest) g', c'⟩)
  | [], i, p, k, g, c, ws, hd, hil, hp, hw, hk => by
    have hi : l.length ≤ i := List.drop_eq_nil_iff.1 hd
    obtain rfl : i = l.length := by omega
    obtain ⟨k', rfl⟩ : ∃ k', k = k' + 2 := ⟨k - 2, by simp at hk; omega⟩
    refine ⟨c + 1, c + 2, [(6, .int .i64 ((l.length + 1 : Nat) : Int)), (7, .int .i64 ((l.length + 1 : Nat) : Int)), (8, .int .i64 ((l.length + 1 : Nat) : Int)), (9, .str (sB l)), (10, .int .i64 l.length), (11, .bool false)], rfl, ?_⟩
    have hwl : wl (3 - ws.length) ((l.take l.length).drop p) [] = [(l.take l.length).drop p] := by cases 3 - ws.length <;> rfl
    rw [stepB Φ K l l.length p c (k' + 1) g ws (Nat.le_refl _) hp hb (by omega) (.inr rfl), end22 Φ K l (c + 2) k' (c + 1) _ hb, hwl]
  | x :: rest, i, p, k, g, c, ws, hd, hil, hp, hw, hk => by
    obtain ⟨h1, h2, h3⟩ := drop_get hd
    obtain ⟨k', rfl⟩ : ∃ k', k = k' + 1 := ⟨k - 1, by simp at hk; omega⟩
    simp only [List.length_cons] at hk
    by_cases hx : x = 32 ∧ ws.length < 3
    · obtain ⟨g', c', t, ht, e⟩ := loop22 Φ K l hb rest (i + 1) (i + 1) k' (c + 1) (c + 2) (ws ++ [(l.take i).drop p]) h3 (by omega) (Nat.le_refl _) (by simp; omega) (by omega)
      refine ⟨g', c', t, ht, ?_⟩
      rw [stepB Φ K l i p c k' g ws hil hp hb (by omega) (.inl ⟨h1, by rw [← hx.1]; exact h2, hx.2⟩), e]
      have d1 : (l.take (i + 1)).drop (i + 1) = [] := List.drop_eq_nil_of_le (by rw [List.length_take]; omega)
      have d2 : 3 - ws.length = (3 - (ws ++ [(l.take i).drop p]).length) + 1 := by simp; omega
      rw [d1, d2]
      simp only [wl, if_pos hx.1, List.append_assoc, List.singleton_append]
    · obtain ⟨g', c', t, ht, e⟩ := loop22 Φ K l hb rest (i + 1) p k' g c ws h3 (by omega) (by omega) hw (by omega)
      refine ⟨g', c', t, ht, ?_⟩
      have hne : ¬ x = 32 ∨ 3 ≤ ws.length := by
        by_cases h32 : x = 32
        · right
          have : ¬ ws.length < 3 := fun h => hx ⟨h32, h⟩
          omega
        · exact .inl h32
      rw [stepA Φ K l i p c k' g ws x h2 hb (by omega) hne, e]
      have d1 : (l.take (i + 1)).drop p = (l.take i).drop p ++ [x] := by
        rw [List.take_add_one, h2, List.drop_append_of_le_length (by rw [List.length_take]; omega)]
        rfl
      rw [d1]
      have d2 : wl (3 - ws.length) ((l.take i).drop p) (x :: rest) = wl (3 - ws.length) ((l.take i).drop p ++ [x]) rest := by
        cases hq : 3 - ws.length with
        | zero => rfl
        | succ q => simp only [wl]; rw [if_neg (hne.resolve_right (by omega))]
      rw [d2]
theorem words_len : ∀ (k : Nat) (l : B), (words k l).length ≤ k + 1
  | 0, l => by simp [words]
  | k + 1, l => by
    simp only [words]
    split
    · have := words_len k (cut l).2.1
      simp; omega
    · simp
theorem words_ne (k : Nat) (l : B) : ∃ w ws, words k l = w :: ws := by
  obtain ⟨w, ws, h1, _⟩ := wl_words l k []
  exact ⟨w, ws, h1⟩
theorem words22 (n : Nat) (l : B) (hb : l.length ≤ 500000) : E (n + 1) 22 [.str (sB l), .int .i64 4] = some (.fr 1 (strR (words 3 l)), []) := by
  rw [e22]
  obtain ⟨g', c', t, ht, e⟩ := loop22 (Q n) 600000 l (by omega) l 0 0 600000 0 0 [] rfl (by omega) (by omega) (by simp) (by omega)
  have hw : ([] : List B) ++ wl (3 - ([] : List B).length) ((l.take 0).drop 0) l = words 3 l := by rw [words_wl]; rfl
  rw [hw] at e
  obtain ⟨w, ws, hws⟩ := words_ne 3 l
  have eV : outV (words 3 l) g' = .own 37 g' 0 (words 3 l).length := by rw [hws]; rfl
  have eH : outH (words 3 l) g' = [⟨37, g', .arr 1 (strR (words 3 l)) false⟩] := by rw [hws]; rfl
  have hR := strR_len (words 3 l)
  have t1 : (strR (words 3 l)).take (words 3 l).length = strR (words 3 l) := List.take_of_length_le (by rw [hR]; exact Nat.le_refl _)
  have eN : outV [] 0 = .nilS := rfl
  have eM : outH [] 0 = [] := rfl
  rw [eV, eH, eN, eM] at e
  generalize hn : (words 3 l).length = m at *
  generalize strR (words 3 l) = R at *
  simp -implicitDefEqProofs [a22, c22]
  rw [iter_keep]
  simp -implicitDefEqProofs []
  simp -implicitDefEqProofs at e
  rw [e]
  simp -implicitDefEqProofs [ht, hR, t1]
end Go.Abs.Tryd

namespace Go.Abs.Tryd
open Go Go.Abs Go.Abs.Desk
set_option maxHeartbeats 16000000
set_option maxRecDepth 100000
set_option linter.unusedSimpArgs false
set_option linter.unusedVariables false
theorem wr3 : IntKind.i64.wrap 3 = 3 := by decide
theorem wr4 : IntKind.i64.wrap 4 = 4 := by decide
theorem loop14_1 (n : Nat) (w0 : B) (h0 : w0.length ≤ 1000000) :
    iter (ev (Q (n + 1)) 600000 b14_0) [2, 3, 4, 5] [2, 4, 8000] 600000 ⟨[(2, .ptr 2 0 0), (3, .own 8000 1 0 1), (4, .ptr 4 2 0), (5, .int .i64 0)], [⟨2, 0, .var z24⟩, ⟨4, 2, .var z49⟩, ⟨8000, 1, .arr 1 (strR [w0]) false⟩], 3⟩ =
      some (.exit 0, ⟨[(2, .ptr 2 0 0), (3, .own 8000 1 0 1), (4, .ptr 4 2 0), (5, .int .i64 1), (8, .int .i64 1), (9, .own 8000 1 0 1), (10, .int .i64 1), (11, .bool false), (12, .bool false), (13, .tup []), (14, .tup []), (15, .bool false)], [⟨2, 0, .var z24⟩, ⟨4, 2, .var [.int .i64 (refnum w0), .int .i64 0, .int .i64 0, .int .i64 0]⟩, ⟨8000, 1, .arr 1 (strR [w0]) false⟩], 3⟩) := by
  have c0 := number23 n w0 h0
  generalize refnum w0 = r0 at c0 ⊢
  unfold z49 strR
  rw [iter_succ]
  simp -implicitDefEqProofs [b14_0, q23, c0, wr1, wr2, wr3, wr4]
  rw [iter_succ]
  simp -implicitDefEqProofs [b14_0, q23, c0, wr1, wr2, wr3, wr4]
theorem loop14_2 (n : Nat) (w0 w1 : B) (h0 : w0.length ≤ 1000000) (h1 : w1.length ≤ 1000000) :
    iter (ev (Q (n + 1)) 600000 b14_0) [2, 3, 4, 5] [2, 4, 8000] 600000 ⟨[(2, .ptr 2 0 0), (3, .own 8000 1 0 2), (4, .ptr 4 2 0), (5, .int .i64 0)], [⟨2, 0, .var z24⟩, ⟨4, 2, .var z49⟩, ⟨8000, 1, .arr 1 (strR [w0, w1]) false⟩], 3⟩ =
      some (.exit 0, ⟨[(2, .ptr 2 0 0), (3, .own 8000 1 0 2), (4, .ptr 4 2 0), (5, .int .i64 2), (8, .int .i64 2), (9, .own 8000 1 0 2), (10, .int .i64 2), (11, .bool false), (12, .bool false), (13, .tup []), (14, .tup []), (15, .bool false)], [⟨2, 0, .var z24⟩, ⟨4, 2, .var [.int .i64 (refnum w0), .int .i64 (refnum w1), .int .i64 0, .int .i64 0]⟩, ⟨8000, 1, .arr 1 (strR [w0, w1]) false⟩], 3⟩) := by
  have c0 := number23 n w0 h0
  have c1 := number23 n w1 h1
  generalize refnum w0 = r0 at c0 ⊢
  generalize refnum w1 = r1 at c1 ⊢
  unfold z49 strR
  rw [iter_succ]
  simp -implicitDefEqProofs [b14_0, q23, c0, c1, wr1, wr2, wr3, wr4]
  rw [iter_succ]
  simp -implicitDefEqProofs [b14_0, q23, c0, c1, wr1, wr2, wr3, wr4]
  rw [iter_succ]
  simp -implicitDefEqProofs [b14_0, q23, c0, c1, wr1, wr2, wr3, wr4]
theorem loop14_3 (n : Nat) (w0 w1 w2 : B) (h0 : w0.length ≤ 1000000) (h1 : w1.length ≤ 1000000) (h2 : w2.length ≤ 1000000) :
    iter (ev (Q (n + 1)) 600000 b14_0) [2, 3, 4, 5] [2, 4, 8000] 600000 ⟨[(2, .ptr 2 0 0), (3, .own 8000 1 0 3), (4, .ptr 4 2 0), (5, .int .i64 0)], [⟨2, 0, .var z24⟩, ⟨4, 2, .var z49⟩, ⟨8000, 1, .arr 1 (strR [w0, w1, w2]) false⟩], 3⟩ =
      some (.exit 0, ⟨[(2, .ptr 2 0 0), (3, .own 8000 1 0 3), (4, .ptr 4 2 0), (5, .int .i64 3), (8, .int .i64 3), (9, .own 8000 1 0 3), (10, .int .i64 3), (11, .bool false), (12, .bool false), (13, .tup []), (14, .tup []), (15, .bool false)], [⟨2, 0, .var z24⟩, ⟨4, 2, .var [.int .i64 (refnum w0), .int .i64 (refnum w1), .int .i64 (refnum w2), .int .i64 0]⟩, ⟨8000, 1, .arr 1 (strR [w0, w1, w2]) false⟩], 3⟩) := by
  have c0 := number23 n w0 h0
  have c1 := number23 n w1 h1
  have c2 := number23 n w2 h2
  generalize refnum w0 = r0 at c0 ⊢
  generalize refnum w1 = r1 at c1 ⊢
  generalize refnum w2 = r2 at c2 ⊢
  unfold z49 strR
  rw [iter_succ]
  simp -implicitDefEqProofs [b14_0, q23, c0, c1, c2, wr1, wr2, wr3, wr4]
  rw [iter_succ]
  simp -implicitDefEqProofs [b14_0, q23, c0, c1, c2, wr1, wr2, wr3, wr4]
  rw [iter_succ]
  simp -implicitDefEqProofs [b14_0, q23, c0, c1, c2, wr1, wr2, wr3, wr4]
  rw [iter_succ]
  simp -implicitDefEqProofs [b14_0, q23, c0, c1, c2, wr1, wr2, wr3, wr4]
theorem loop14_4 (n : Nat) (w0 w1 w2 w3 : B) (h0 : w0.length ≤ 1000000) (h1 : w1.length ≤ 1000000) (h2 : w2.length ≤ 1000000) (h3 : w3.length ≤ 1000000) :
    iter (ev (Q (n + 1)) 600000 b14_0) [2, 3, 4, 5] [2, 4, 8000] 600000 ⟨[(2, .ptr 2 0 0), (3, .own 8000 1 0 4), (4, .ptr 4 2 0), (5, .int .i64 0)], [⟨2, 0, .var z24⟩, ⟨4, 2, .var z49⟩, ⟨8000, 1, .arr 1 (strR [w0, w1, w2, w3]) false⟩], 3⟩ =
      some (.exit 0, ⟨[(2, .ptr 2 0 0), (3, .own 8000 1 0 4), (4, .ptr 4 2 0), (5, .int .i64 4), (8, .int .i64 4), (9, .own 8000 1 0 4), (10, .int .i64 4), (11, .bool false), (12, .bool false), (13, .tup []), (14, .tup []), (15, .bool false)], [⟨2, 0, .var z24⟩, ⟨4, 2, .var [.int .i64 (refnum w0), .int .i64 (refnum w1), .int .i64 (refnum w2), .int .i64 (refnum w3)]⟩, ⟨8000, 1, .arr 1 (strR [w0, w1, w2, w3]) false⟩], 3⟩) := by
  have c0 := number23 n w0 h0
  have c1 := number23 n w1 h1
  have c2 := number23 n w2 h2
  have c3 := number23 n w3 h3
  generalize refnum w0 = r0 at c0 ⊢
  generalize refnum w1 = r1 at c1 ⊢
  generalize refnum w2 = r2 at c2 ⊢
  generalize refnum w3 = r3 at c3 ⊢
  unfold z49 strR
  rw [iter_succ]
  simp -implicitDefEqProofs [b14_0, q23, c0, c1, c2, c3, wr1, wr2, wr3, wr4]
  rw [iter_succ]
  simp -implicitDefEqProofs [b14_0, q23, c0, c1, c2, c3, wr1, wr2, wr3, wr4]
  rw [iter_succ]
  simp -implicitDefEqProofs [b14_0, q23, c0, c1, c2, c3, wr1, wr2, wr3, wr4]
  rw [iter_succ]
  simp -implicitDefEqProofs [b14_0, q23, c0, c1, c2, c3, wr1, wr2, wr3, wr4]
  rw [iter_succ]
  simp -implicitDefEqProofs [b14_0, q23, c0, c1, c2, c3, wr1, wr2, wr3, wr4]
theorem words_le : ∀ (k : Nat) (l w : B), w ∈ words k l → w.length ≤ l.length
  | 0, l, w, h => by simp [words] at h; rw [h]; exact Nat.le_refl _
  | k + 1, l, w, h => by
    simp only [words] at h
    have hc := cut_le l
    split at h
    · rcases List.mem_cons.1 h with h | h
      · rw [h]; exact hc.1
      · have := words_le k _ w h; omega
    · simp at h; rw [h]; exact Nat.le_refl _
theorem loop14 (n : Nat) (ws : List B) (h1 : 1 ≤ ws.length) (h4 : ws.length ≤ 4) (hl : ∀ w ∈ ws, w.length ≤ 1000000) :
    ∃ t, envOnly [2, 3, 4] t = [] ∧ iter (ev (Q (n + 1)) 600000 b14_0) [2, 3, 4, 5] [2, 4, 8000] 600000 ⟨[(2, .ptr 2 0 0), (3, .own 8000 1 0 ws.length), (4, .ptr 4 2 0), (5, .int .i64 0)], [⟨2, 0, .var z24⟩, ⟨4, 2, .var z49⟩, ⟨8000, 1, .arr 1 (strR ws) false⟩], 3⟩ =
      some (.exit 0, ⟨(2, .ptr 2 0 0) :: (3, .own 8000 1 0 ws.length) :: (4, .ptr 4 2 0) :: t, [⟨2, 0, .var z24⟩, ⟨4, 2, .var [.int .i64 (gu ws 0), .int .i64 (gu ws 1), .int .i64 (gu ws 2), .int .i64 (gu ws 3)]⟩, ⟨8000, 1, .arr 1 (strR ws) false⟩], 3⟩) := by
  match ws, h1, h4, hl with
  | [w0], _, _, hl => exact ⟨_, by rfl, loop14_1 n w0 (hl w0 (by simp))⟩
  | [w0, w1], _, _, hl => exact ⟨_, by rfl, loop14_2 n w0 w1 (hl w0 (by simp)) (hl w1 (by simp))⟩
  | [w0, w1, w2], _, _, hl => exact ⟨_, by rfl, loop14_3 n w0 w1 w2 (hl w0 (by simp)) (hl w1 (by simp)) (hl w2 (by simp))⟩
  | [w0, w1, w2, w3], _, _, hl => exact ⟨_, by rfl, loop14_4 n w0 w1 w2 w3 (hl w0 (by simp)) (hl w1 (by simp)) (hl w2 (by simp)) (hl w3 (by simp))⟩
  | _ :: _ :: _ :: _ :: _ :: _, _, h4, _ => simp at h4
  | [], h1, _, _ => simp at h1
end Go.Abs.Tryd

namespace Go.Abs.Tryd
open Go Go.Abs Go.Abs.Desk
set_option maxHeartbeats 16000000
set_option maxRecDepth 100000
set_option linter.unusedSimpArgs false
set_option linter.unusedVariables false
/-- what the words are guessed as -/
def guessW (ws : List B) : A :=
  let f := (ws[0]?).getD []
  if f = wTick then ⟨1, gu ws 1, gu ws 2, 0, 0, []⟩
  else if f = wStart then ⟨8, gu ws 1, gu ws 2, 0, 0, []⟩
  else if f = wDeliver then ⟨2, 0, 0, gu ws 1, 0, []⟩
  else if f = wDrop then ⟨3, 0, 0, gu ws 1, 0, []⟩
  else if f = wDouble then ⟨4, 0, 0, gu ws 1, 0, []⟩
  else if f = wRetry then ⟨6, 0, 0, 0, gu ws 1, []⟩
  else if f = wSubmit then (if ws.length = 4 then ⟨5, gu ws 2, 0, 0, gu ws 1, (ws[3]?).getD []⟩ else ⟨0, 0, 0, 0, 0, []⟩)
  else if f = wCrash then ⟨7, gu ws 1, gu ws 2, if ws.length = 4 ∧ ws[3]? = some wNow then -1 else gu ws 3, 0, []⟩
  else ⟨0, 0, 0, 0, 0, []⟩
theorem guess_W (l : B) : guess l = guessW (words 3 l) := rfl
theorem strR_get {ws : List B} {i : Nat} {w : B} (h : ws[i]? = some w) : (strR ws)[i]? = some [.str (sB w)] := by simp [strR, h]
theorem guess14_Tick (n : Nat) (l : B) (ws : List B) (f : B) (hw : E (n + 1) 22 [.str (sB l), .int .i64 4] = some (.fr 1 (strR ws), [])) (h1' : 1 ≤ ws.length) (h4' : ws.length ≤ 4) (hl : ∀ w ∈ ws, w.length ≤ 1000000) (hf : ws[0]? = some f)  (h0 : f = wTick) : E (n + 2) 14 [.str (sB l)] = some (.agg (actV (guessW ws)), []) := by
  rw [e14]
  obtain ⟨t, ht, e⟩ := loop14 n ws h1' h4' hl
  have r0 := strR_get hf
  have r0h : (strR ws).head? = some [.str (sB f)] := by rw [List.head?_eq_getElem?]; exact r0
  have hR := strR_len ws
  have hm : 0 < ws.length := h1'
  have b0 := btTick h0
  have r0' := (List.getElem?_eq_some_iff.1 r0).2
  unfold guessW
  simp only [hf, Option.getD_some, if_pos h0]
  generalize gu ws 0 = g0 at e ⊢
  generalize gu ws 1 = g1 at e ⊢
  generalize gu ws 2 = g2 at e ⊢
  generalize gu ws 3 = g3 at e ⊢
  unfold actV
  generalize strR ws = R at *
  generalize ws.length = m at *
  simp -implicitDefEqProofs [a14, c14, q22, hw, z24, z49, hR]
  rw [iter_keep]
  simp -implicitDefEqProofs []
  simp -implicitDefEqProofs [z24, z49] at e
  rw [e]
  simp -implicitDefEqProofs [a14, c14, q22, hw, hm, r0, r0h, r0', hR, ht, z24, z49, b0]
theorem guess14_Start (n : Nat) (l : B) (ws : List B) (f : B) (hw : E (n + 1) 22 [.str (sB l), .int .i64 4] = some (.fr 1 (strR ws), [])) (h1' : 1 ≤ ws.length) (h4' : ws.length ≤ 4) (hl : ∀ w ∈ ws, w.length ≤ 1000000) (hf : ws[0]? = some f) (h0 : ¬ f = wTick) (h1 : f = wStart) : E (n + 2) 14 [.str (sB l)] = some (.agg (actV (guessW ws)), []) := by
  rw [e14]
  obtain ⟨t, ht, e⟩ := loop14 n ws h1' h4' hl
  have r0 := strR_get hf
  have r0h : (strR ws).head? = some [.str (sB f)] := by rw [List.head?_eq_getElem?]; exact r0
  have hR := strR_len ws
  have hm : 0 < ws.length := h1'
  have b0 := bfTick h0
  have b1 := btStart h1
  have r0' := (List.getElem?_eq_some_iff.1 r0).2
  unfold guessW
  simp only [hf, Option.getD_some, if_neg h0, if_pos h1]
  generalize gu ws 0 = g0 at e ⊢
  generalize gu ws 1 = g1 at e ⊢
  generalize gu ws 2 = g2 at e ⊢
  generalize gu ws 3 = g3 at e ⊢
  unfold actV
  generalize strR ws = R at *
  generalize ws.length = m at *
  simp -implicitDefEqProofs [a14, c14, q22, hw, z24, z49, hR]
  rw [iter_keep]
  simp -implicitDefEqProofs []
  simp -implicitDefEqProofs [z24, z49] at e
  rw [e]
  simp -implicitDefEqProofs [a14, c14, q22, hw, hm, r0, r0h, r0', hR, ht, z24, z49, b0, b1]
theorem guess14_Deliver (n : Nat) (l : B) (ws : List B) (f : B) (hw : E (n + 1) 22 [.str (sB l), .int .i64 4] = some (.fr 1 (strR ws), [])) (h1' : 1 ≤ ws.length) (h4' : ws.length ≤ 4) (hl : ∀ w ∈ ws, w.length ≤ 1000000) (hf : ws[0]? = some f) (h0 : ¬ f = wTick) (h1 : ¬ f = wStart) (h2 : f = wDeliver) : E (n + 2) 14 [.str (sB l)] = some (.agg (actV (guessW ws)), []) := by
  rw [e14]
  obtain ⟨t, ht, e⟩ := loop14 n ws h1' h4' hl
  have r0 := strR_get hf
  have r0h : (strR ws).head? = some [.str (sB f)] := by rw [List.head?_eq_getElem?]; exact r0
  have hR := strR_len ws
  have hm : 0 < ws.length := h1'
  have b0 := bfTick h0
  have b1 := bfStart h1
  have b2 := btDeliver h2
  have r0' := (List.getElem?_eq_some_iff.1 r0).2
  unfold guessW
  simp only [hf, Option.getD_some, if_neg h0, if_neg h1, if_pos h2]
  generalize gu ws 0 = g0 at e ⊢
  generalize gu ws 1 = g1 at e ⊢
  generalize gu ws 2 = g2 at e ⊢
  generalize gu ws 3 = g3 at e ⊢
  unfold actV
  generalize strR ws = R at *
  generalize ws.length = m at *
  simp -implicitDefEqProofs [a14, c14, q22, hw, z24, z49, hR]
  rw [iter_keep]
  simp -implicitDefEqProofs []
  simp -implicitDefEqProofs [z24, z49] at e
  rw [e]
  simp -implicitDefEqProofs [a14, c14, q22, hw, hm, r0, r0h, r0', hR, ht, z24, z49, b0, b1, b2]
theorem guess14_Drop (n : Nat) (l : B) (ws : List B) (f : B) (hw : E (n + 1) 22 [.str (sB l), .int .i64 4] = some (.fr 1 (strR ws), [])) (h1' : 1 ≤ ws.length) (h4' : ws.length ≤ 4) (hl : ∀ w ∈ ws, w.length ≤ 1000000) (hf : ws[0]? = some f) (h0 : ¬ f = wTick) (h1 : ¬ f = wStart) (h2 : ¬ f = wDeliver) (h3 : f = wDrop) : E (n + 2) 14 [.str (sB l)] = some (.agg (actV (guessW ws)), []) := by
  rw [e14]
  obtain ⟨t, ht, e⟩ := loop14 n ws h1' h4' hl
  have r0 := strR_get hf
  have r0h : (strR ws).head? = some [.str (sB f)] := by rw [List.head?_eq_getElem?]; exact r0
  have hR := strR_len ws
  have hm : 0 < ws.length := h1'
  have b0 := bfTick h0
  have b1 := bfStart h1
  have b2 := bfDeliver h2
  have b3 := btDrop h3
  have r0' := (List.getElem?_eq_some_iff.1 r0).2
  unfold guessW
  simp only [hf, Option.getD_some, if_neg h0, if_neg h1, if_neg h2, if_pos h3]
  generalize gu ws 0 = g0 at e ⊢
  generalize gu ws 1 = g1 at e ⊢
  generalize gu ws 2 = g2 at e ⊢
  generalize gu ws 3 = g3 at e ⊢
  unfold actV
  generalize strR ws = R at *
  generalize ws.length = m at *
  simp -implicitDefEqProofs [a14, c14, q22, hw, z24, z49, hR]
  rw [iter_keep]
  simp -implicitDefEqProofs []
  simp -implicitDefEqProofs [z24, z49] at e
  rw [e]
  simp -implicitDefEqProofs [a14, c14, q22, hw, hm, r0, r0h, r0', hR, ht, z24, z49, b0, b1, b2, b3]
theorem guess14_Double (n : Nat) (l : B) (ws : List B) (f : B) (hw : E (n + 1) 22 [.str (sB l), .int .i64 4] = some (.fr 1 (strR ws), [])) (h1' : 1 ≤ ws.length) (h4' : ws.length ≤ 4) (hl : ∀ w ∈ ws, w.length ≤ 1000000) (hf : ws[0]? = some f) (h0 : ¬ f = wTick) (h1 : ¬ f = wStart) (h2 : ¬ f = wDeliver) (h3 : ¬ f = wDrop) (h4 : f = wDouble) : E (n + 2) 14 [.str (sB l)] = some (.agg (actV (guessW ws)), []) := by
  rw [e14]
  obtain ⟨t, ht, e⟩ := loop14 n ws h1' h4' hl
  have r0 := strR_get hf
  have r0h : (strR ws).head? = some [.str (sB f)] := by rw [List.head?_eq_getElem?]; exact r0
  have hR := strR_len ws
  have hm : 0 < ws.length := h1'
  have b0 := bfTick h0
  have b1 := bfStart h1
  have b2 := bfDeliver h2
  have b3 := bfDrop h3
  have b4 := btDouble h4
  have r0' := (List.getElem?_eq_some_iff.1 r0).2
  unfold guessW
  simp only [hf, Option.getD_some, if_neg h0, if_neg h1, if_neg h2, if_neg h3, if_pos h4]
  generalize gu ws 0 = g0 at e ⊢
  generalize gu ws 1 = g1 at e ⊢
  generalize gu ws 2 = g2 at e ⊢
  generalize gu ws 3 = g3 at e ⊢
  unfold actV
  generalize strR ws = R at *
  generalize ws.length = m at *
  simp -implicitDefEqProofs [a14, c14, q22, hw, z24, z49, hR]
  rw [iter_keep]
  simp -implicitDefEqProofs []
  simp -implicitDefEqProofs [z24, z49] at e
  rw [e]
  simp -implicitDefEqProofs [a14, c14, q22, hw, hm, r0, r0h, r0', hR, ht, z24, z49, b0, b1, b2, b3, b4]
theorem guess14_Retry (n : Nat) (l : B) (ws : List B) (f : B) (hw : E (n + 1) 22 [.str (sB l), .int .i64 4] = some (.fr 1 (strR ws), [])) (h1' : 1 ≤ ws.length) (h4' : ws.length ≤ 4) (hl : ∀ w ∈ ws, w.length ≤ 1000000) (hf : ws[0]? = some f) (h0 : ¬ f = wTick) (h1 : ¬ f = wStart) (h2 : ¬ f = wDeliver) (h3 : ¬ f = wDrop) (h4 : ¬ f = wDouble) (h5 : f = wRetry) : E (n + 2) 14 [.str (sB l)] = some (.agg (actV (guessW ws)), []) := by
  rw [e14]
  obtain ⟨t, ht, e⟩ := loop14 n ws h1' h4' hl
  have r0 := strR_get hf
  have r0h : (strR ws).head? = some [.str (sB f)] := by rw [List.head?_eq_getElem?]; exact r0
  have hR := strR_len ws
  have hm : 0 < ws.length := h1'
  have b0 := bfTick h0
  have b1 := bfStart h1
  have b2 := bfDeliver h2
  have b3 := bfDrop h3
  have b4 := bfDouble h4
  have b5 := btRetry h5
  have r0' := (List.getElem?_eq_some_iff.1 r0).2
  unfold guessW
  simp only [hf, Option.getD_some, if_neg h0, if_neg h1, if_neg h2, if_neg h3, if_neg h4, if_pos h5]
  generalize gu ws 0 = g0 at e ⊢
  generalize gu ws 1 = g1 at e ⊢
  generalize gu ws 2 = g2 at e ⊢
  generalize gu ws 3 = g3 at e ⊢
  unfold actV
  generalize strR ws = R at *
  generalize ws.length = m at *
  simp -implicitDefEqProofs [a14, c14, q22, hw, z24, z49, hR]
  rw [iter_keep]
  simp -implicitDefEqProofs []
  simp -implicitDefEqProofs [z24, z49] at e
  rw [e]
  simp -implicitDefEqProofs [a14, c14, q22, hw, hm, r0, r0h, r0', hR, ht, z24, z49, b0, b1, b2, b3, b4, b5]
theorem guess14_Submit (n : Nat) (l : B) (ws : List B) (f : B) (hw : E (n + 1) 22 [.str (sB l), .int .i64 4] = some (.fr 1 (strR ws), [])) (h1' : 1 ≤ ws.length) (h4' : ws.length ≤ 4) (hl : ∀ w ∈ ws, w.length ≤ 1000000) (hf : ws[0]? = some f) (h0 : ¬ f = wTick) (h1 : ¬ f = wStart) (h2 : ¬ f = wDeliver) (h3 : ¬ f = wDrop) (h4 : ¬ f = wDouble) (h5 : ¬ f = wRetry) (h6 : f = wSubmit) : E (n + 2) 14 [.str (sB l)] = some (.agg (actV (guessW ws)), []) := by
  rw [e14]
  obtain ⟨t, ht, e⟩ := loop14 n ws h1' h4' hl
  have r0 := strR_get hf
  have r0h : (strR ws).head? = some [.str (sB f)] := by rw [List.head?_eq_getElem?]; exact r0
  have hR := strR_len ws
  have hm : 0 < ws.length := h1'
  have b0 := bfTick h0
  have b1 := bfStart h1
  have b2 := bfDeliver h2
  have b3 := bfDrop h3
  have b4 := bfDouble h4
  have b5 := bfRetry h5
  have b6 := btSubmit h6
  have r0' := (List.getElem?_eq_some_iff.1 r0).2
  unfold guessW
  simp only [hf, Option.getD_some, if_neg h0, if_neg h1, if_neg h2, if_neg h3, if_neg h4, if_neg h5, if_pos h6]
  generalize gu ws 0 = g0 at e ⊢
  generalize gu ws 1 = g1 at e ⊢
  generalize gu ws 2 = g2 at e ⊢
  generalize gu ws 3 = g3 at e ⊢
  by_cases h5 : ws.length = 4
  · obtain ⟨w3, hw3⟩ : ∃ w3, ws[3]? = some w3 := ⟨ws[3], List.getElem?_eq_getElem (by omega)⟩
    have r3 := strR_get hw3
    have r3' := (List.getElem?_eq_some_iff.1 r3).2
    rw [if_pos h5, hw3]
    unfold actV
    rw [h5] at e hm hR
    generalize strR ws = R at *
    simp only [Option.getD_some]
    simp -implicitDefEqProofs [a14, c14, q22, hw, z24, z49, hR]
    rw [iter_keep]
    simp -implicitDefEqProofs []
    simp -implicitDefEqProofs [z24, z49] at e
    rw [e]
    simp -implicitDefEqProofs [a14, c14, q22, hw, hm, r0, r0h, r0', hR, ht, z24, z49, b0, b1, b2, b3, b4, b5, b6, r3, r3']
  · have h6 : ((ws.length : Int) == 4) = false := ibeq (by omega)
    rw [if_neg h5]
    unfold actV
    generalize strR ws = R at *
    generalize ws.length = m at *
    simp -implicitDefEqProofs [a14, c14, q22, hw, z24, z49, hR]
    rw [iter_keep]
    simp -implicitDefEqProofs []
    simp -implicitDefEqProofs [z24, z49] at e
    rw [e]
    simp -implicitDefEqProofs [a14, c14, q22, hw, hm, r0, r0h, r0', hR, ht, z24, z49, b0, b1, b2, b3, b4, b5, b6, h6]
theorem guess14_Crash (n : Nat) (l : B) (ws : List B) (f : B) (hw : E (n + 1) 22 [.str (sB l), .int .i64 4] = some (.fr 1 (strR ws), [])) (h1' : 1 ≤ ws.length) (h4' : ws.length ≤ 4) (hl : ∀ w ∈ ws, w.length ≤ 1000000) (hf : ws[0]? = some f) (h0 : ¬ f = wTick) (h1 : ¬ f = wStart) (h2 : ¬ f = wDeliver) (h3 : ¬ f = wDrop) (h4 : ¬ f = wDouble) (h5 : ¬ f = wRetry) (h6 : ¬ f = wSubmit) (h7 : f = wCrash) : E (n + 2) 14 [.str (sB l)] = some (.agg (actV (guessW ws)), []) := by
  rw [e14]
  obtain ⟨t, ht, e⟩ := loop14 n ws h1' h4' hl
  have r0 := strR_get hf
  have r0h : (strR ws).head? = some [.str (sB f)] := by rw [List.head?_eq_getElem?]; exact r0
  have hR := strR_len ws
  have hm : 0 < ws.length := h1'
  have b0 := bfTick h0
  have b1 := bfStart h1
  have b2 := bfDeliver h2
  have b3 := bfDrop h3
  have b4 := bfDouble h4
  have b5 := bfRetry h5
  have b6 := bfSubmit h6
  have b7 := btCrash h7
  have r0' := (List.getElem?_eq_some_iff.1 r0).2
  unfold guessW
  simp only [hf, Option.getD_some, if_neg h0, if_neg h1, if_neg h2, if_neg h3, if_neg h4, if_neg h5, if_neg h6, if_pos h7]
  generalize gu ws 0 = g0 at e ⊢
  generalize gu ws 1 = g1 at e ⊢
  generalize gu ws 2 = g2 at e ⊢
  generalize gu ws 3 = g3 at e ⊢
  by_cases h5 : ws.length = 4
  · obtain ⟨w3, hw3⟩ : ∃ w3, ws[3]? = some w3 := ⟨ws[3], List.getElem?_eq_getElem (by omega)⟩
    have r3 := strR_get hw3
    have r3' := (List.getElem?_eq_some_iff.1 r3).2
    by_cases h6 : w3 = wNow
    · have c3 : (w3 == ([110, 111, 119] : List UInt8)) = true := by simp [h6, wNow]
      rw [if_pos ⟨h5, by rw [hw3, h6]⟩]
      unfold actV
      rw [h5] at e hm hR
      generalize strR ws = R at *
      simp -implicitDefEqProofs [a14, c14, q22, hw, z24, z49, hR]
      rw [iter_keep]
      simp -implicitDefEqProofs []
      simp -implicitDefEqProofs [z24, z49] at e
      rw [e]
      simp -implicitDefEqProofs [a14, c14, q22, hw, hm, r0, r0h, r0', hR, ht, z24, z49, b0, b1, b2, b3, b4, b5, b6, b7, r3, r3', c3]
    · have c3 : (w3 == ([110, 111, 119] : List UInt8)) = false := by simpa [wNow] using h6
      rw [if_neg (fun h => h6 (Option.some.inj (hw3.symm.trans h.2)))]
      unfold actV
      rw [h5] at e hm hR
      generalize strR ws = R at *
      simp -implicitDefEqProofs [a14, c14, q22, hw, z24, z49, hR]
      rw [iter_keep]
      simp -implicitDefEqProofs []
      simp -implicitDefEqProofs [z24, z49] at e
      rw [e]
      simp -implicitDefEqProofs [a14, c14, q22, hw, hm, r0, r0h, r0', hR, ht, z24, z49, b0, b1, b2, b3, b4, b5, b6, b7, r3, r3', c3]
  · have h6 : ((ws.length : Int) == 4) = false := ibeq (by omega)
    rw [if_neg (fun h => h5 h.1)]
    unfold actV
    generalize strR ws = R at *
    generalize ws.length = m at *
    simp -implicitDefEqProofs [a14, c14, q22, hw, z24, z49, hR]
    rw [iter_keep]
    simp -implicitDefEqProofs []
    simp -implicitDefEqProofs [z24, z49] at e
    rw [e]
    simp -implicitDefEqProofs [a14, c14, q22, hw, hm, r0, r0h, r0', hR, ht, z24, z49, b0, b1, b2, b3, b4, b5, b6, b7, h6]
theorem guess14_None (n : Nat) (l : B) (ws : List B) (f : B) (hw : E (n + 1) 22 [.str (sB l), .int .i64 4] = some (.fr 1 (strR ws), [])) (h1' : 1 ≤ ws.length) (h4' : ws.length ≤ 4) (hl : ∀ w ∈ ws, w.length ≤ 1000000) (hf : ws[0]? = some f) (h0 : ¬ f = wTick) (h1 : ¬ f = wStart) (h2 : ¬ f = wDeliver) (h3 : ¬ f = wDrop) (h4 : ¬ f = wDouble) (h5 : ¬ f = wRetry) (h6 : ¬ f = wSubmit) (h7 : ¬ f = wCrash) : E (n + 2) 14 [.str (sB l)] = some (.agg (actV (guessW ws)), []) := by
  rw [e14]
  obtain ⟨t, ht, e⟩ := loop14 n ws h1' h4' hl
  have r0 := strR_get hf
  have r0h : (strR ws).head? = some [.str (sB f)] := by rw [List.head?_eq_getElem?]; exact r0
  have hR := strR_len ws
  have hm : 0 < ws.length := h1'
  have b0 := bfTick h0
  have b1 := bfStart h1
  have b2 := bfDeliver h2
  have b3 := bfDrop h3
  have b4 := bfDouble h4
  have b5 := bfRetry h5
  have b6 := bfSubmit h6
  have b7 := bfCrash h7
  have r0' := (List.getElem?_eq_some_iff.1 r0).2
  unfold guessW
  simp only [hf, Option.getD_some, if_neg h0, if_neg h1, if_neg h2, if_neg h3, if_neg h4, if_neg h5, if_neg h6, if_neg h7]
  generalize gu ws 0 = g0 at e ⊢
  generalize gu ws 1 = g1 at e ⊢
  generalize gu ws 2 = g2 at e ⊢
  generalize gu ws 3 = g3 at e ⊢
  unfold actV
  generalize strR ws = R at *
  generalize ws.length = m at *
  simp -implicitDefEqProofs [a14, c14, q22, hw, z24, z49, hR]
  rw [iter_keep]
  simp -implicitDefEqProofs []
  simp -implicitDefEqProofs [z24, z49] at e
  rw [e]
  simp -implicitDefEqProofs [a14, c14, q22, hw, hm, r0, r0h, r0', hR, ht, z24, z49, b0, b1, b2, b3, b4, b5, b6, b7]
theorem guess14 (n : Nat) (l : B) (hb : l.length ≤ 500000) : E (n + 2) 14 [.str (sB l)] = some (.agg (actV (guess l)), []) := by
  have hw := words22 n l hb
  have h4 := words_len 3 l
  obtain ⟨f, ws, hws⟩ := words_ne 3 l
  have hl : ∀ w ∈ words 3 l, w.length ≤ 1000000 := fun w hm => by have := words_le 3 l w hm; omega
  have h1 : 1 ≤ (words 3 l).length := by rw [hws]; simp
  have hf : (words 3 l)[0]? = some f := by rw [hws]; rfl
  rw [guess_W]
  generalize words 3 l = W at *
  by_cases k0 : f = wTick
  · exact guess14_Tick n l W f hw h1 h4 hl hf k0
  by_cases k1 : f = wStart
  · exact guess14_Start n l W f hw h1 h4 hl hf k0 k1
  by_cases k2 : f = wDeliver
  · exact guess14_Deliver n l W f hw h1 h4 hl hf k0 k1 k2
  by_cases k3 : f = wDrop
  · exact guess14_Drop n l W f hw h1 h4 hl hf k0 k1 k2 k3
  by_cases k4 : f = wDouble
  · exact guess14_Double n l W f hw h1 h4 hl hf k0 k1 k2 k3 k4
  by_cases k5 : f = wRetry
  · exact guess14_Retry n l W f hw h1 h4 hl hf k0 k1 k2 k3 k4 k5
  by_cases k6 : f = wSubmit
  · exact guess14_Submit n l W f hw h1 h4 hl hf k0 k1 k2 k3 k4 k5 k6
  by_cases k7 : f = wCrash
  · exact guess14_Crash n l W f hw h1 h4 hl hf k0 k1 k2 k3 k4 k5 k6 k7
  exact guess14_None n l W f hw h1 h4 hl hf k0 k1 k2 k3 k4 k5 k6 k7
end Go.Abs.Tryd

namespace Go.Abs.Tryd
open Go Go.Abs Go.Abs.Desk
set_option maxHeartbeats 16000000
set_option maxRecDepth 100000
set_option linter.unusedSimpArgs false
set_option linter.unusedVariables false
theorem guess_t (l : B) : (guess l).t.length ≤ l.length := by
  rw [guess_W]
  have hl := words_le 3 l
  generalize words 3 l = ws at *
  unfold guessW
  simp only
  repeat' split
  all_goals first | (simp; done) | skip
  cases h3 : ws[3]? with
  | none => simp
  | some w => exact hl w (List.mem_of_getElem? h3)
theorem parse6 (n : Nat) (l : B) (hl : l.length ≤ 500000) : E (n + 10) 6 [.str (sB l)] = some (resA (rparse l), []) := by
  rw [e6]
  have c1 := line13 (n + 8) l hl
  unfold rparse
  by_cases h1 : lineOK l
  · rw [if_pos h1]
    rw [decide_eq_true h1] at c1
    have c2 := guess14 (n + 7) l hl
    have c3 := fields15 (n + 7) (guess l)
    have ht : (guess l).t.length ≤ 262144 := by have := guess_t l; have := h1.1; omega
    have c4 := fun h => text16 n (guess l) h ht
    generalize guess l = a at c2 c3 c4 ⊢
    by_cases hk : a.k = 0
    · rw [if_pos (.inl hk)]
      have b1 : (a.k == 0) = true := by simpa using hk
      unfold resA
      simp only
      unfold actV at c2 c3 ⊢
      unfold zA
      simp -implicitDefEqProofs [a6, c6, q13, q14, q15, c1, c2, c3, b1, z24]
    · have b1 : (a.k == 0) = false := by simpa using hk
      by_cases hf : fields a
      · rw [decide_eq_true hf] at c3
        have c5 := c4 hf
        by_cases ht : text a = l
        · rw [if_neg (by simp [hk, hf, ht])]
          have b2 : (text a == l) = true := by simpa using ht
          generalize text a = tx at c5 b2
          unfold resA
          simp only
          unfold actV at c2 c3 c5 ⊢
          simp -implicitDefEqProofs [a6, c6, q13, q14, q15, q16, c1, c2, c3, c5, b1, b2, z24]
        · rw [if_pos (.inr (.inr ht))]
          have b2 : (text a == l) = false := by simpa using ht
          generalize text a = tx at c5 b2
          unfold resA
          simp only
          unfold actV at c2 c3 c5 ⊢
          unfold zA
          simp -implicitDefEqProofs [a6, c6, q13, q14, q15, q16, c1, c2, c3, c5, b1, b2, z24]
      · rw [decide_eq_false hf] at c3
        rw [if_pos (.inr (.inl hf))]
        unfold resA
        simp only
        unfold actV at c2 c3 ⊢
        unfold zA
        simp -implicitDefEqProofs [a6, c6, q13, q14, q15, c1, c2, c3, b1, z24]
  · rw [if_neg h1]
    rw [decide_eq_false h1] at c1
    unfold resA
    simp only
    unfold actV zA
    simp -implicitDefEqProofs [a6, c6, q13, c1, z24]
theorem print9 (n : Nat) (a : A) (h : AOK a) : E (n + 11) 9 [.agg (actV a)] = some (resS (rprint a), []) := by
  rw [e9]
  have c1 := fields15 (n + 8) a
  unfold rprint
  by_cases hf : fields a
  · rw [if_pos hf]
    rw [decide_eq_true hf] at c1
    have j1 := text16 (n + 1) a hf h.t
    have j2 := parse6 n (text a) (text_len a h)
    generalize text a = s at j1 j2 ⊢
    cases hp : rparse s with
    | none =>
      rw [hp] at j2
      unfold resA at j2
      simp only at j2
      rw [if_neg (by simp)]
      unfold resS
      simp only
      unfold actV at c1 j1 j2 ⊢
      simp -implicitDefEqProofs [a9, c9, q15, q16, q6, c1, j1, j2, z24]
    | some b =>
      rw [hp] at j2
      unfold resA at j2
      simp only at j2
      have e1 := aeqA a b
      by_cases hab : a = b
      · rw [if_pos (by rw [hab]), decide_eq_true hab] at *
        unfold resS
        simp only
        unfold actV at c1 j1 j2 e1 ⊢
        simp -implicitDefEqProofs [a9, c9, q15, q16, q6, c1, j1, j2, z24, e1, -aeqCells]
      · rw [if_neg (fun h2 => hab (Option.some.inj h2).symm)]
        rw [decide_eq_false hab] at e1
        unfold resS
        simp only
        unfold actV at c1 j1 j2 e1 ⊢
        simp -implicitDefEqProofs [a9, c9, q15, q16, q6, c1, j1, j2, z24, e1, -aeqCells]
  · rw [if_neg hf]
    rw [decide_eq_false hf] at c1
    unfold resS
    simp only
    unfold actV at c1 ⊢
    simp -implicitDefEqProofs [a9, c9, q15, c1, z24]
end Go.Abs.Tryd

namespace Go.Abs.Tryd
open Go Go.Abs Go.Abs.Desk
set_option maxHeartbeats 16000000
set_option maxRecDepth 100000
set_option linter.unusedSimpArgs false
set_option linter.unusedVariables false
theorem itoa1 {u : Nat} (h : u < 10) : Lib.itoa (u : Int) = [UInt8.ofNat (48 + u)] := by
  unfold Lib.itoa
  rw [if_neg (by omega)]
  simp only [Int.toNat_natCast]
  exact Lib.decDigits_one h
theorem i_1 : Lib.itoa 1 = [49] := itoa1 (u := 1) (by decide)
theorem i_2 : Lib.itoa 2 = [50] := itoa1 (u := 2) (by decide)
theorem i_3 : Lib.itoa 3 = [51] := itoa1 (u := 3) (by decide)
theorem p_submit : parse [115, 117, 98, 109, 105, 116, 32, 49, 32, 50, 32, 97, 32, 98] = some ⟨5, 2, 0, 0, 1, [97, 32, 98]⟩ := by
  have h := Canon.submit 1 2 [97, 32, 98] (by decide) (by decide)
  have e : wSubmit ++ (nums [1, 2] ++ 32 :: [97, 32, 98]) = [115, 117, 98, 109, 105, 116, 32, 49, 32, 50, 32, 97, 32, 98] := by simp [nums, i_1, i_2, wSubmit]
  rw [e] at h
  exact parse_ok h (by decide)
theorem p_tick : parse [116, 105, 99, 107, 32, 48, 49, 32, 49] = none := by
  rw [parse_eq]
  unfold rparse
  have hg : guess [116, 105, 99, 107, 32, 48, 49, 32, 49] = ⟨1, 1, 1, 0, 0, []⟩ := by decide
  rw [hg, if_pos (by decide), if_pos]
  right; right
  have : text ⟨1, 1, 1, 0, 0, []⟩ = [116, 105, 99, 107, 32, 49, 32, 49] := by simp [text, nums, i_1, wTick]
  rw [this]
  decide
theorem p_crash : print ⟨7, 2, 3, -1, 0, []⟩ = some [99, 114, 97, 115, 104, 32, 50, 32, 51, 32, 110, 111, 119] := by
  have h := Canon.now 2 3 (by decide) (by decide)
  have e : wCrash ++ (nums [2, 3] ++ 32 :: wNow) = [99, 114, 97, 115, 104, 32, 50, 32, 51, 32, 110, 111, 119] := by simp [nums, i_2, i_3, wCrash, wNow]
  rw [e] at h
  exact print_parse (parse_ok h (by decide))
theorem reads7_of (Φ : Nat → Option FnF) (F5 F8 : CallF) (I5 I8 Y5 Y8 : InlF) (J5 J8 : Nat → InlF → InlF) (h5 : Φ 5 = some ⟨F5, I5, J5, Y5⟩) (h8 : Φ 8 = some ⟨F8, I8, J8, Y8⟩)
    (c1 : F5 [.str ⟨#[115, 117, 98, 109, 105, 116, 32, 49, 32, 50, 32, 97, 32, 98]⟩] = some (.tup [.agg [.int .i64 5, .int .i64 2, .int .i64 0, .int .i64 0, .int .i64 1, .str ⟨#[97, 32, 98]⟩], .int .i64 0], []))
    (c2 : F5 [.str ⟨#[116, 105, 99, 107, 32, 48, 49, 32, 49]⟩] = some (.tup [.agg [.int .i64 0, .int .i64 0, .int .i64 0, .int .i64 0, .int .i64 0, .str ⟨#[]⟩], .int .i64 200], []))
    (c3 : F8 [.agg [.int .i64 7, .int .i64 2, .int .i64 3, .int .i64 (-1), .int .i64 0, .str ⟨#[]⟩]] = some (.tup [.str ⟨#[99, 114, 97, 115, 104, 32, 50, 32, 51, 32, 110, 111, 119]⟩, .int .i64 0], [])) : evFun Φ 600000 a7 [] = some (.bool true, []) := by
  simp -implicitDefEqProofs [a7, c7, h5, h8, c1, c2, c3, z24]
theorem reads7 (n : Nat) : E (n + 10) 7 [] = some (.bool true, []) := by
  rw [e7]
  have d1 := parse5 (n + 1) [115, 117, 98, 109, 105, 116, 32, 49, 32, 50, 32, 97, 32, 98] (by decide)
  have d2 := parse5 (n + 1) [116, 105, 99, 107, 32, 48, 49, 32, 49] (by decide)
  have d3 := print8 n ⟨7, 2, 3, -1, 0, []⟩ ⟨by unfold i64; decide, by unfold i64; decide, by unfold i64; decide, by unfold i64; decide, by decide⟩
  rw [p_submit] at d1
  rw [p_tick] at d2
  rw [p_crash] at d3
  exact reads7_of _ _ _ _ _ _ _ _ _ (q5 (n + 8)) (q8 (n + 8)) d1 d2 d3
/- ---------------------------------------------------------------- the law of reading -/
theorem law3_long (Φ : Nat → Option FnF) (l : B) (h : 262144 < (l.length : Int)) : evFun Φ 600000 a3 [.str (sB l)] = some (.bool true, []) := by
  simp -implicitDefEqProofs [a3, c3, sB_size, h]
theorem law3_none (Φ : Nat → Option FnF) (F5 F6 F7 : CallF) (I5 I6 I7 Y5 Y6 Y7 : InlF) (J5 J6 J7 : Nat → InlF → InlF) (h5 : Φ 5 = some ⟨F5, I5, J5, Y5⟩) (h6 : Φ 6 = some ⟨F6, I6, J6, Y6⟩) (h7 : Φ 7 = some ⟨F7, I7, J7, Y7⟩) (l : B) (h : ¬ 262144 < (l.length : Int))
    (c5' : F5 [.str (sB l)] = some (resA none, [])) (c6' : F6 [.str (sB l)] = some (resA none, [])) (c7' : F7 [] = some (.bool true, [])) : evFun Φ 600000 a3 [.str (sB l)] = some (.bool true, []) := by
  unfold resA at c5' c6'
  simp only at c5' c6'
  have e1 := aeqA zA zA
  rw [decide_eq_true rfl] at e1
  unfold actV at c5' c6' e1
  simp only [zA] at c5' c6' e1
  simp -implicitDefEqProofs [a3, c3, sB_size, h, h5, h6, h7, c5', c6', c7', z24, e1, -aeqCells]
theorem law3_some (Φ : Nat → Option FnF) (F5 F6 F7 F8 : CallF) (I5 I6 I7 I8 Y5 Y6 Y7 Y8 : InlF) (J5 J6 J7 J8 : Nat → InlF → InlF) (h5 : Φ 5 = some ⟨F5, I5, J5, Y5⟩) (h6 : Φ 6 = some ⟨F6, I6, J6, Y6⟩) (h7 : Φ 7 = some ⟨F7, I7, J7, Y7⟩) (h8 : Φ 8 = some ⟨F8, I8, J8, Y8⟩) (l : B) (a : A) (h : ¬ 262144 < (l.length : Int))
    (c5' : F5 [.str (sB l)] = some (resA (some a), [])) (c6' : F6 [.str (sB l)] = some (resA (some a), [])) (c7' : F7 [] = some (.bool true, [])) (c8' : F8 [.agg (actV a)] = some (resS (some l), [])) : evFun Φ 600000 a3 [.str (sB l)] = some (.bool true, []) := by
  unfold resA at c5' c6'
  unfold resS at c8'
  simp only at c5' c6' c8'
  have e1 := aeqA a a
  rw [decide_eq_true rfl] at e1
  unfold actV at c5' c6' c8' e1
  simp -implicitDefEqProofs [a3, c3, sB_size, h, h5, h6, h7, h8, c5', c6', c7', c8', z24, e1, -aeqCells]
theorem canon_AOK {a : A} {l : B} (h : Canon a l) (hl : l.length ≤ 300) : AOK a := by
  have z : i64 0 := by unfold i64; decide
  cases h with
  | tick r n m1 m2 => exact ⟨may_i m1, may_i m2, z, z, by simp⟩
  | start r n m1 m2 => exact ⟨may_i m1, may_i m2, z, z, by simp⟩
  | deliver m m1 => exact ⟨z, z, may_i m1, z, by simp⟩
  | drop m m1 => exact ⟨z, z, may_i m1, z, by simp⟩
  | double m m1 => exact ⟨z, z, may_i m1, z, by simp⟩
  | retry c m1 => exact ⟨z, z, z, may_i m1, by simp⟩
  | submit c r t m1 m2 => exact ⟨may_i m2, z, z, may_i m1, by simp at hl; simp only; omega⟩
  | now r n m1 m2 => exact ⟨may_i m1, may_i m2, (show i64 (-1) by unfold i64; decide), z, by simp⟩
  | crash r n m m1 m2 m3 => exact ⟨may_i m1, may_i m2, may_i m3, z, by simp⟩
theorem law3_at (l : B) : E 12 3 [.str (sB l)] = some (.bool true, []) := by
  rw [e3]
  by_cases h : 262144 < (l.length : Int)
  · exact law3_long _ l h
  · have c5 := parse5 3 l (by omega)
    have c6 := parse6 1 l (by omega)
    have c7 := reads7 1
    rw [← parse_eq] at c6
    cases hp : parse l with
    | none =>
      rw [hp] at c5 c6
      exact law3_none _ _ _ _ _ _ _ _ _ _ _ _ _ (q5 10) (q6 10) (q7 10) l h c5 c6 c7
    | some a =>
      have hc := parse_iff.1 hp
      have c8 := print8 2 a (canon_AOK hc.2 hc.1.1)
      rw [hp] at c5 c6
      rw [print_parse hp] at c8
      exact law3_some _ _ _ _ _ _ _ _ _ _ _ _ _ _ _ _ _ (q5 10) (q6 10) (q7 10) (q8 10) l a h c5 c6 c7 c8
/- ---------------------------------------------------------------- the law of printing -/
theorem law4_long (Φ : Nat → Option FnF) (a : A) (h : 262144 < (a.t.length : Int)) : evFun Φ 600000 a4 [.agg (actV a)] = some (.bool true, []) := by
  unfold actV
  simp -implicitDefEqProofs [a4, c4, sB_size, h]
theorem law4_none (Φ : Nat → Option FnF) (F7 F8 F9 : CallF) (I7 I8 I9 Y7 Y8 Y9 : InlF) (J7 J8 J9 : Nat → InlF → InlF) (h7 : Φ 7 = some ⟨F7, I7, J7, Y7⟩) (h8 : Φ 8 = some ⟨F8, I8, J8, Y8⟩) (h9 : Φ 9 = some ⟨F9, I9, J9, Y9⟩) (a : A) (h : ¬ 262144 < (a.t.length : Int))
    (c7' : F7 [] = some (.bool true, [])) (c8' : F8 [.agg (actV a)] = some (resS none, [])) (c9' : F9 [.agg (actV a)] = some (resS none, [])) : evFun Φ 600000 a4 [.agg (actV a)] = some (.bool true, []) := by
  unfold resS at c8' c9'
  simp only at c8' c9'
  unfold actV at c8' c9' ⊢
  simp -implicitDefEqProofs [a4, c4, sB_size, h, h7, h8, h9, c7', c8', c9', z24]
theorem law4_some (Φ : Nat → Option FnF) (F5 F7 F8 F9 : CallF) (I5 I7 I8 I9 Y5 Y7 Y8 Y9 : InlF) (J5 J7 J8 J9 : Nat → InlF → InlF) (h5 : Φ 5 = some ⟨F5, I5, J5, Y5⟩) (h7 : Φ 7 = some ⟨F7, I7, J7, Y7⟩) (h8 : Φ 8 = some ⟨F8, I8, J8, Y8⟩) (h9 : Φ 9 = some ⟨F9, I9, J9, Y9⟩) (a : A) (s : B) (h : ¬ 262144 < (a.t.length : Int))
    (c7' : F7 [] = some (.bool true, [])) (c8' : F8 [.agg (actV a)] = some (resS (some s), [])) (c9' : F9 [.agg (actV a)] = some (resS (some s), [])) (c5' : F5 [.str (sB s)] = some (resA (some a), [])) : evFun Φ 600000 a4 [.agg (actV a)] = some (.bool true, []) := by
  unfold resS at c8' c9'
  unfold resA at c5'
  simp only at c8' c9' c5'
  have e1 := aeqA a a
  rw [decide_eq_true rfl] at e1
  unfold actV at c8' c9' c5' e1 ⊢
  simp -implicitDefEqProofs [a4, c4, sB_size, h, h5, h7, h8, h9, c5', c7', c8', c9', z24, e1, -aeqCells]
theorem law4_at (a : A) (hr : i64 a.r) (hn : i64 a.n) (hm : i64 a.m) (hc : i64 a.c) : E 13 4 [.agg (actV a)] = some (.bool true, []) := by
  rw [e4]
  by_cases h : 262144 < (a.t.length : Int)
  · exact law4_long _ a h
  · have ok : AOK a := ⟨hr, hn, hm, hc, by omega⟩
    have c8 := print8 3 a ok
    have c9 := print9 1 a ok
    have c7 := reads7 2
    rw [← print_eq] at c9
    cases hp : print a with
    | none =>
      rw [hp] at c8 c9
      exact law4_none _ _ _ _ _ _ _ _ _ _ _ _ _ (q7 11) (q8 11) (q9 11) a h c7 c8 c9
    | some s =>
      have hp2 := parse_print hp
      have hs : s.length ≤ 300 := (parse_iff.1 hp2).1.1
      have c5 := parse5 4 s (by omega)
      rw [hp2] at c5
      rw [hp] at c8 c9
      exact law4_some _ _ _ _ _ _ _ _ _ _ _ _ _ _ _ _ _ (q5 11) (q7 11) (q8 11) (q9 11) a s h c7 c8 c9 c5
theorem wf_i64 {x : Int} (h : (Lit.int .i64 x).wf = true) : i64 x := by
  simp [Lit.wf, IntKind.min, IntKind.max, IntKind.signed, IntKind.bits] at h
  unfold i64
  omega
theorem law3 (x0 : AV) (o0 : okRow [.str] [x0]) : E 12 3 [x0] = some (.bool true, []) := by
  obtain ⟨s, vs, e, _, _⟩ := o0.str
  obtain ⟨rfl, _⟩ : x0 = .str s ∧ _ := by simpa using e
  rw [sB_eta s]
  exact law3_at _
theorem ref3 : Refines Go.Proofs.Tryd.prog 3 (E 12 3) := ref 12 3 (q3 11)
theorem law4 (x0 : AV) (o0 : ∃ cs, x0 = .agg cs ∧ okRow [.int .i64, .int .i64, .int .i64, .int .i64, .int .i64, .str] cs) : E 13 4 [x0] = some (.bool true, []) := by
  obtain ⟨cs, rfl, h⟩ := o0
  obtain ⟨k, vs, rfl, w0, h⟩ := h.int
  obtain ⟨r, vs, rfl, w1, h⟩ := h.int
  obtain ⟨n, vs, rfl, w2, h⟩ := h.int
  obtain ⟨m, vs, rfl, w3, h⟩ := h.int
  obtain ⟨c, vs, rfl, w4, h⟩ := h.int
  obtain ⟨s, vs, rfl, _, h⟩ := h.str
  obtain rfl := h.nil_inv
  have := law4_at ⟨k, r, n, m, c, s.data.toList⟩ (wf_i64 w1) (wf_i64 w2) (wf_i64 w3) (wf_i64 w4)
  unfold actV at this
  simpa using this
theorem ref4 : Refines Go.Proofs.Tryd.prog 4 (E 13 4) := ref 13 4 (q4 12)
end Go.Abs.Tryd
