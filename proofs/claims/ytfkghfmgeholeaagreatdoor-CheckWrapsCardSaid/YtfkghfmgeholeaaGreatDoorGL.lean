/- Joined texts: Lx0; Lx1; Lx2; Lx3; Lx4; Lx5; Lw0; Lx6; Lb0; Lc0; Lw1; Lw2; Ls0; Lp0; Lr0; Gl2. -/
import Derived.Test.YtfkghfmgeholeaaGreatDoorGD
import Derived.Test.YtfkghfmgeholeaaGreatDoorGG
import Derived.Test.YtfkghfmgeholeaaGreatDoorGC
import Derived.Laws.RangeAny
import Derived.Laws.DeepStrings4
import Derived.Deep.QuietTactic
import Derived.BigQuiet
set_option linter.unusedVariables false
set_option linter.unusedSimpArgs false
namespace Go.Proofs.YtfkghfmgeholeaaGreatDoor
open Go.RowKit

/-- a token -/
structure Tk where
  k : Int
  pos : Nat
  text : List UInt8
  op : Int
  v : Val
abbrev Tk.plain (k op : Int) : Tk := ⟨k, 0, [], op, zeroVal⟩
def Tk.put (t : Tk) (p : Nat) : Tk := ⟨t.k, p, t.text, t.op, t.v⟩
def lowB (c : UInt8) : Bool := decide (97 ≤ c.toNat) && decide (c.toNat ≤ 122)
def upB (c : UInt8) : Bool := decide (65 ≤ c.toNat) && decide (c.toNat ≤ 90)
def digB (c : UInt8) : Bool := decide (48 ≤ c.toNat) && decide (c.toNat ≤ 57)
/-- a byte of a column's name -/
def smallB (c : UInt8) : Bool := lowB c || digB c || c == 95
/-- a byte of a word -/
def wordB (c : UInt8) : Bool := lowB c || upB c || digB c || c == 45 || c == 46
/-- is it a column's name -/
def nameB : List UInt8 → Bool
  | [] => false
  | c :: t => lowB c && t.all smallB && decide (t.length < 16)
abbrev kAnd : List UInt8 := [97, 110, 100]
abbrev kOr : List UInt8 := [111, 114]
abbrev kNot : List UInt8 := [110, 111, 116]
abbrev kIs : List UInt8 := [105, 115]
def kwB (l : List UInt8) : Bool := l == kAnd || l == kOr || l == kNot || l == kIs
/-- the token at the beginning of a text, and how long it is -/
def tokL : List UInt8 → Option (Tk × Nat)
  | [] => none
  | c :: t =>
    if c = 61 then some (Tk.plain 2 0, 1)
    else if c = 33 then (if t.head? = some 61 then some (Tk.plain 2 1, 2) else none)
    else if c = 60 then (if t.head? = some 61 then some (Tk.plain 2 3, 2) else some (Tk.plain 2 2, 1))
    else if c = 62 then (if t.head? = some 61 then some (Tk.plain 2 5, 2) else some (Tk.plain 2 4, 1))
    else if c = 40 then some (Tk.plain 4 0, 1)
    else if c = 41 then some (Tk.plain 5 0, 1)
    else if c = 36 then (if nameB (t.takeWhile smallB) then some (⟨0, 0, t.takeWhile smallB, 0, zeroVal⟩, 1 + (t.takeWhile smallB).length) else none)
    else if (c :: t).takeWhile wordB = [] then none
    else if kwB ((c :: t).takeWhile wordB) then some (⟨3, 0, (c :: t).takeWhile wordB, 0, zeroVal⟩, ((c :: t).takeWhile wordB).length)
    else if okV ((c :: t).takeWhile wordB) then some (⟨1, 0, [], 0, parseVal ((c :: t).takeWhile wordB)⟩, ((c :: t).takeWhile wordB).length)
    else none
/-- the tokens of a text, or where it is wrong; from a place on -/
def lexF : Nat → Nat → List UInt8 → Option (List Tk) × Nat
  | 0, _, _ => (some [], 0)
  | f + 1, p, l =>
    match l with
    | [] => (some [], 0)
    | c :: t =>
      if c = 32 then lexF f (p + 1) t
      else match tokL (c :: t) with
        | none => (none, p)
        | some (tk, n) =>
          match lexF f (p + n) ((c :: t).drop n) with
          | (none, q) => (none, q)
          | (some r, _) => (some (tk.put p :: r), 0)
def lexL (l : List UInt8) : Option (List Tk) × Nat := if 2000 < l.length then (none, 2000) else lexF l.length 0 l
theorem tokL_cons (c : UInt8) (t : List UInt8) : tokL (c :: t) = (
    if c = 61 then some (Tk.plain 2 0, 1)
    else if c = 33 then (if t.head? = some 61 then some (Tk.plain 2 1, 2) else none)
    else if c = 60 then (if t.head? = some 61 then some (Tk.plain 2 3, 2) else some (Tk.plain 2 2, 1))
    else if c = 62 then (if t.head? = some 61 then some (Tk.plain 2 5, 2) else some (Tk.plain 2 4, 1))
    else if c = 40 then some (Tk.plain 4 0, 1)
    else if c = 41 then some (Tk.plain 5 0, 1)
    else if c = 36 then (if nameB (t.takeWhile smallB) then some (⟨0, 0, t.takeWhile smallB, 0, zeroVal⟩, 1 + (t.takeWhile smallB).length) else none)
    else if (c :: t).takeWhile wordB = [] then none
    else if kwB ((c :: t).takeWhile wordB) then some (⟨3, 0, (c :: t).takeWhile wordB, 0, zeroVal⟩, ((c :: t).takeWhile wordB).length)
    else if okV ((c :: t).takeWhile wordB) then some (⟨1, 0, [], 0, parseVal ((c :: t).takeWhile wordB)⟩, ((c :: t).takeWhile wordB).length)
    else none) := rfl
theorem takeWhile_length (p : UInt8 → Bool) (l : List UInt8) : (l.takeWhile p).length ≤ l.length := (List.takeWhile_sublist p).length_le
theorem tokL_pos {l : List UInt8} {tk : Tk} {n : Nat} (h : tokL l = some (tk, n)) : 0 < n ∧ n ≤ l.length := by
  cases l with
  | nil => cases h
  | cons c t =>
    have h1 := takeWhile_length smallB t
    have h2 := takeWhile_length wordB (c :: t)
    have h3 : t.head? = some 61 → 0 < t.length := fun e => by cases t with | nil => cases e | cons _ _ => simp
    rw [tokL_cons] at h
    repeat' split at h
    all_goals (first | (cases h; done) | skip)
    all_goals
      simp only [Option.some.injEq, Prod.mk.injEq] at h
      obtain ⟨-, rfl⟩ := h
      simp only [List.length_cons] at *
      first
        | omega
        | (rename_i q; have := h3 q; omega)
        | (refine ⟨List.length_pos_iff.2 (by assumption), by omega⟩)
/-- more fuel than bytes changes nothing -/
theorem lexF_fuel (f : Nat) : ∀ (g p : Nat) (l : List UInt8), l.length ≤ f → l.length ≤ g → lexF f p l = lexF g p l := by
  induction f with
  | zero =>
    intro g p l h1 _
    have : l = [] := List.eq_nil_of_length_eq_zero (by omega)
    subst this
    cases g <;> rfl
  | succ f ih =>
    intro g p l h1 h2
    cases l with
    | nil => cases g <;> rfl
    | cons c t =>
      cases g with
      | zero => simp at h2
      | succ g =>
        simp only [List.length_cons] at h1 h2
        show (if c = 32 then lexF f (p + 1) t else _) = (if c = 32 then lexF g (p + 1) t else _)
        by_cases hc : c = 32
        · rw [if_pos hc, if_pos hc]
          exact ih g (p + 1) t (by omega) (by omega)
        · rw [if_neg hc, if_neg hc]
          cases ht : tokL (c :: t) with
          | none => rfl
          | some q =>
            obtain ⟨tk, n⟩ := q
            obtain ⟨n0, n1⟩ := tokL_pos ht
            simp only [List.length_cons] at n1
            have hl : ((c :: t).drop n).length = t.length + 1 - n := by rw [List.length_drop]; rfl
            have := ih g (p + n) ((c :: t).drop n) (by omega) (by omega)
            simp only [this]
end Go.Proofs.YtfkghfmgeholeaaGreatDoor
namespace Go.Proofs.YtfkghfmgeholeaaGreatDoor
open Go.RowKit

theorem smallB_blank : smallB 32 = false := by decide
theorem wordB_blank : wordB 32 = false := by decide
theorem takeWhile_stop (p : UInt8 → Bool) (l r : List UInt8) (h : r.head? = none ∨ ∃ c, r.head? = some c ∧ p c = false) : (l ++ r).takeWhile p = l.takeWhile p := by
  induction l with
  | nil =>
    cases r with
    | nil => rfl
    | cons c r =>
      rcases h with h | ⟨d, h1, h2⟩
      · cases h
      · obtain rfl : c = d := Option.some.inj h1
        show (c :: r).takeWhile p = []
        rw [List.takeWhile_cons_of_neg (by rw [h2]; decide)]
  | cons d l ih =>
    by_cases hd : p d = true
    · rw [List.cons_append, List.takeWhile_cons_of_pos hd, List.takeWhile_cons_of_pos hd, ih]
    · rw [List.cons_append, List.takeWhile_cons_of_neg hd, List.takeWhile_cons_of_neg hd]
/-- a text's first token is what it was where a blank follows the text -/
theorem tokL_blank (c : UInt8) (t b : List UInt8) : tokL ((c :: t) ++ 32 :: b) = tokL (c :: t) := by
  have h1 := takeWhile_stop smallB t (32 :: b) (.inr ⟨32, rfl, smallB_blank⟩)
  have h2 := takeWhile_stop wordB (c :: t) (32 :: b) (.inr ⟨32, rfl, wordB_blank⟩)
  have h3 : ((t ++ 32 :: b).head? = some 61) = (t.head? = some 61) := by
    cases t with
    | nil => simp
    | cons d t => rfl
  show tokL (c :: (t ++ 32 :: b)) = _
  rw [tokL_cons, tokL_cons]
  rw [List.cons_append] at h2
  simp only [h1, h2, h3]
theorem lexF_blank (f p : Nat) (t : List UInt8) : lexF (f + 1) p (32 :: t) = lexF f (p + 1) t := by
  show (if (32 : UInt8) = 32 then lexF f (p + 1) t else (match tokL (32 :: t) with | none => (none, p) | some (tk, n) => match lexF f (p + n) ((32 :: t).drop n) with | (none, q) => (none, q) | (some r, _) => (some (tk.put p :: r), 0))) = _
  rw [if_pos rfl]
theorem lexF_tok (f p : Nat) (c : UInt8) (t : List UInt8) (hc : ¬ c = 32) : lexF (f + 1) p (c :: t) = (match tokL (c :: t) with | none => (none, p) | some (tk, n) => match lexF f (p + n) ((c :: t).drop n) with | (none, q) => (none, q) | (some r, _) => (some (tk.put p :: r), 0)) := by
  show (if c = 32 then lexF f (p + 1) t else (match tokL (c :: t) with | none => (none, p) | some (tk, n) => match lexF f (p + n) ((c :: t).drop n) with | (none, q) => (none, q) | (some r, _) => (some (tk.put p :: r), 0))) = _
  rw [if_neg hc]
def shiftL (d : Nat) (l : List Tk) : List Tk := l.map fun t => t.put (t.pos + d)
theorem lexF_shift (f : Nat) : ∀ (p d : Nat) (l : List UInt8) (x : List Tk) (q : Nat), lexF f p l = (some x, q) → lexF f (p + d) l = (some (shiftL d x), q) := by
  induction f with
  | zero => intro p d l x q h; cases h; rfl
  | succ f ih =>
    intro p d l x q h
    cases l with
    | nil => cases h; rfl
    | cons c t =>
      by_cases hc : c = 32
      · subst hc
        rw [lexF_blank] at h ⊢
        rw [show p + d + 1 = p + 1 + d from by omega]
        exact ih _ _ _ _ _ h
      · rw [lexF_tok f _ c t hc] at h ⊢
        cases ht : tokL (c :: t) with
        | none => rw [ht] at h; cases h
        | some y =>
          obtain ⟨tk, n⟩ := y
          rw [ht] at h
          simp only at h ⊢
          cases hr : lexF f (p + n) ((c :: t).drop n) with
          | mk r q2 =>
            rw [hr] at h
            cases r with
            | none => cases h
            | some r =>
              simp only [Prod.mk.injEq, Option.some.injEq] at h
              obtain ⟨rfl, rfl⟩ := h
              have := ih (p + n) d _ r q2 hr
              rw [show p + d + n = p + n + d from by omega, this]
              rfl
theorem lexF_zero {f p : Nat} {l : List UInt8} {x : List Tk} {q : Nat} (h : lexF f p l = (some x, q)) : q = 0 := by
  induction f generalizing p l x q with
  | zero => cases h; rfl
  | succ f ih =>
    cases l with
    | nil => cases h; rfl
    | cons c t =>
      have h' : (if c = 32 then lexF f (p + 1) t else match tokL (c :: t) with | none => (none, p) | some (tk, n) => match lexF f (p + n) ((c :: t).drop n) with | (none, q) => (none, q) | (some r, _) => (some (tk.put p :: r), 0)) = (some x, q) := h
      by_cases hc : c = 32
      · rw [if_pos hc] at h'
        exact ih h'
      · rw [if_neg hc] at h'
        cases ht : tokL (c :: t) with
        | none => rw [ht] at h'; cases h'
        | some z =>
          obtain ⟨tk, n⟩ := z
          rw [ht] at h'
          simp only at h'
          cases hr : lexF f (p + n) ((c :: t).drop n) with
          | mk r q2 =>
            rw [hr] at h'
            cases r with
            | none => cases h'
            | some r => cases h'; rfl
/-- the tokens of two texts with a blank between are those of both -/
theorem lexF_join (f : Nat) : ∀ (p : Nat) (a b : List UInt8) (x y : List Tk), a.length ≤ f → lexF f p a = (some x, 0) → ∀ g, b.length ≤ g → lexF g (p + a.length + 1) b = (some y, 0) → lexF (f + 1 + g) p (a ++ 32 :: b) = (some (x ++ y), 0) := by
  induction f with
  | zero =>
    intro p a b x y ha h g hg hb
    obtain rfl : a = [] := List.eq_nil_of_length_eq_zero (by omega)
    cases h
    show lexF (0 + 1 + g) p (32 :: b) = _
    rw [show 0 + 1 + g = g + 1 from by omega, lexF_blank]
    exact hb
  | succ f ih =>
    intro p a b x y ha h g hg hb
    cases a with
    | nil =>
      cases h
      rw [show f + 1 + 1 + g = (f + 1 + g) + 1 from by omega]
      show lexF (f + 1 + g + 1) p (32 :: b) = _
      rw [lexF_blank, lexF_fuel (f + 1 + g) g (p + 1) b (by omega) hg]
      exact hb
    | cons c t =>
      simp only [List.length_cons] at ha hb
      rw [show f + 1 + 1 + g = (f + 1 + g) + 1 from by omega]
      by_cases hc : c = 32
      · subst hc
        rw [lexF_blank] at h
        show lexF (f + 1 + g + 1) p (32 :: (t ++ 32 :: b)) = _
        rw [lexF_blank]
        exact ih (p + 1) t b x y (by omega) h g hg (by rw [show p + 1 + t.length + 1 = p + (t.length + 1) + 1 from by omega]; exact hb)
      · rw [lexF_tok f _ c t hc] at h
        have e2 := lexF_tok (f + 1 + g) p c (t ++ 32 :: b) hc
        rw [← List.cons_append, tokL_blank] at e2
        rw [e2]
        cases ht : tokL (c :: t) with
        | none => rw [ht] at h; cases h
        | some z =>
          obtain ⟨tk, n⟩ := z
          rw [ht] at h
          obtain ⟨n0, n1⟩ := tokL_pos ht
          simp only [List.length_cons] at n1
          simp only at h ⊢
          have hdrop : ((c :: t) ++ 32 :: b).drop n = (c :: t).drop n ++ 32 :: b := by
            rw [List.drop_append_of_le_length (by simp only [List.length_cons]; omega)]
          rw [hdrop]
          cases hr : lexF f (p + n) ((c :: t).drop n) with
          | mk r q2 =>
            rw [hr] at h
            cases r with
            | none => cases h
            | some r =>
              simp only [Prod.mk.injEq, Option.some.injEq, and_true] at h
              subst h
              have hq2 : q2 = 0 := lexF_zero hr
              subst hq2
              have hl : ((c :: t).drop n).length = t.length + 1 - n := by rw [List.length_drop]; rfl
              rw [ih (p + n) ((c :: t).drop n) b r y (by omega) hr g hg (by rw [hl, show p + n + (t.length + 1 - n) + 1 = p + (t.length + 1) + 1 from by omega]; exact hb)]
              rfl
end Go.Proofs.YtfkghfmgeholeaaGreatDoor
namespace Go.Proofs.YtfkghfmgeholeaaGreatDoor
open Go.RowKit

theorem takeWhile_take (p : UInt8 → Bool) (l : List UInt8) : l.take (l.takeWhile p).length = l.takeWhile p := by
  induction l with
  | nil => rfl
  | cons c l ih =>
    by_cases h : p c = true
    · rw [List.takeWhile_cons_of_pos h, List.length_cons, List.take_succ_cons, ih]
    · rw [List.takeWhile_cons_of_neg h]; rfl
theorem takeWhile_again (p : UInt8 → Bool) (l : List UInt8) : (l.takeWhile p).takeWhile p = l.takeWhile p := by
  induction l with
  | nil => rfl
  | cons c l ih =>
    by_cases h : p c = true
    · rw [List.takeWhile_cons_of_pos h, List.takeWhile_cons_of_pos h, ih]
    · rw [List.takeWhile_cons_of_neg h]; rfl
theorem takeWhile_rest (p : UInt8 → Bool) (l : List UInt8) : (l.drop (l.takeWhile p).length).head? = none ∨ ∃ c, (l.drop (l.takeWhile p).length).head? = some c ∧ p c = false := by
  induction l with
  | nil => exact .inl rfl
  | cons c l ih =>
    by_cases h : p c = true
    · rw [List.takeWhile_cons_of_pos h, List.length_cons, List.drop_succ_cons]; exact ih
    · rw [List.takeWhile_cons_of_neg h]
      exact .inr ⟨c, rfl, by simpa using h⟩
/-- a rest that begins as the first did, or with a blank -/
def Rest (a r : List UInt8) : Prop := r.head? = a.head? ∨ r.head? = some 32
theorem takeWhile_swap (p : UInt8 → Bool) (hp : p 32 = false) (l r : List UInt8) (h : Rest (l.drop (l.takeWhile p).length) r) : (l.takeWhile p ++ r).takeWhile p = l.takeWhile p := by
  rw [takeWhile_stop p _ r, takeWhile_again]
  rcases h with h | h
  · rw [h]; exact takeWhile_rest p l
  · exact .inr ⟨32, h, hp⟩
theorem head_swap (t r : List UInt8) (h : Rest t r) (hn : ¬ t.head? = some 61) : ¬ r.head? = some 61 := by
  rcases h with h | h
  · rw [h]; exact hn
  · rw [h]; decide
/-- the same token where another rest follows it -/
theorem tokL_rest {l r : List UInt8} {tk : Tk} {n : Nat} (h : tokL l = some (tk, n)) (hr : Rest (l.drop n) r) : tokL (l.take n ++ r) = some (tk, n) := by
  cases l with
  | nil => cases h
  | cons c t =>
    rw [tokL_cons] at h
    by_cases c1 : c = 61
    · rw [if_pos c1] at h; cases h
      show tokL (c :: r) = _
      rw [tokL_cons, if_pos c1]
    rw [if_neg c1] at h
    by_cases c2 : c = 33
    · rw [if_pos c2] at h
      by_cases q : t.head? = some 61
      · rw [if_pos q] at h; cases h
        cases t with
        | nil => cases q
        | cons d t =>
          obtain rfl : d = 61 := Option.some.inj q
          show tokL (c :: 61 :: r) = _
          rw [tokL_cons, if_neg c1, if_pos c2, if_pos (show (61 :: r).head? = some 61 from rfl)]
      · rw [if_neg q] at h; cases h
    rw [if_neg c2] at h
    by_cases c3 : c = 60
    · rw [if_pos c3] at h
      by_cases q : t.head? = some 61
      · rw [if_pos q] at h; cases h
        cases t with
        | nil => cases q
        | cons d t =>
          obtain rfl : d = 61 := Option.some.inj q
          show tokL (c :: 61 :: r) = _
          rw [tokL_cons, if_neg c1, if_neg c2, if_pos c3, if_pos (show (61 :: r).head? = some 61 from rfl)]
      · rw [if_neg q] at h; cases h
        show tokL (c :: r) = _
        rw [tokL_cons, if_neg c1, if_neg c2, if_pos c3, if_neg (head_swap t r hr q)]
    rw [if_neg c3] at h
    by_cases c4 : c = 62
    · rw [if_pos c4] at h
      by_cases q : t.head? = some 61
      · rw [if_pos q] at h; cases h
        cases t with
        | nil => cases q
        | cons d t =>
          obtain rfl : d = 61 := Option.some.inj q
          show tokL (c :: 61 :: r) = _
          rw [tokL_cons, if_neg c1, if_neg c2, if_neg c3, if_pos c4, if_pos (show (61 :: r).head? = some 61 from rfl)]
      · rw [if_neg q] at h; cases h
        show tokL (c :: r) = _
        rw [tokL_cons, if_neg c1, if_neg c2, if_neg c3, if_pos c4, if_neg (head_swap t r hr q)]
    rw [if_neg c4] at h
    by_cases c5 : c = 40
    · rw [if_pos c5] at h; cases h
      show tokL (c :: r) = _
      rw [tokL_cons, if_neg c1, if_neg c2, if_neg c3, if_neg c4, if_pos c5]
    rw [if_neg c5] at h
    by_cases c6 : c = 41
    · rw [if_pos c6] at h; cases h
      show tokL (c :: r) = _
      rw [tokL_cons, if_neg c1, if_neg c2, if_neg c3, if_neg c4, if_neg c5, if_pos c6]
    rw [if_neg c6] at h
    by_cases c7 : c = 36
    · rw [if_pos c7] at h
      by_cases q : nameB (t.takeWhile smallB) = true
      · rw [if_pos q] at h
        simp only [Option.some.injEq, Prod.mk.injEq] at h
        obtain ⟨rfl, rfl⟩ := h
        rw [Nat.add_comm, List.drop_succ_cons] at hr
        have e := takeWhile_swap smallB smallB_blank t r hr
        rw [Nat.add_comm, List.take_succ_cons, takeWhile_take, List.cons_append, tokL_cons, if_neg c1, if_neg c2, if_neg c3, if_neg c4, if_neg c5, if_neg c6, if_pos c7, e, if_pos q, Nat.add_comm]
      · rw [if_neg q] at h; cases h
    rw [if_neg c7] at h
    by_cases c8 : (c :: t).takeWhile wordB = []
    · rw [if_pos c8] at h; cases h
    rw [if_neg c8] at h
    have key : ∀ (tk : Tk), (if kwB ((c :: t).takeWhile wordB) then some (⟨3, 0, (c :: t).takeWhile wordB, 0, zeroVal⟩, ((c :: t).takeWhile wordB).length)
        else if okV ((c :: t).takeWhile wordB) then some ((⟨1, 0, [], 0, parseVal ((c :: t).takeWhile wordB)⟩ : Tk), ((c :: t).takeWhile wordB).length)
        else none) = some (tk, n) → n = ((c :: t).takeWhile wordB).length := by
      intro tk h
      repeat' split at h
      all_goals (first | (cases h; done) | (simp only [Option.some.injEq, Prod.mk.injEq] at h; exact h.2.symm))
    have hn := key tk h
    rw [hn] at hr ⊢
    have e := takeWhile_swap wordB wordB_blank (c :: t) r hr
    rw [takeWhile_take]
    have hc : ∃ u, (c :: t).takeWhile wordB = c :: u := by
      by_cases hw : wordB c = true
      · exact ⟨_, List.takeWhile_cons_of_pos hw⟩
      · exact absurd (List.takeWhile_cons_of_neg hw) c8
    obtain ⟨u, hu⟩ := hc
    generalize hw : (c :: t).takeWhile wordB = w at *
    subst hu
    rw [List.cons_append] at e ⊢
    rw [tokL_cons, if_neg c1, if_neg c2, if_neg c3, if_neg c4, if_neg c5, if_neg c6, if_neg c7, e, if_neg c8, h, hn]
/-- the text with k blanks ahead of each token -/
def wideF (k : Nat) : Nat → List UInt8 → List UInt8
  | 0, l => l
  | f + 1, l =>
    match l with
    | [] => []
    | c :: t =>
      if c = 32 then 32 :: wideF k f t
      else match tokL (c :: t) with
        | none => c :: t
        | some (_, n) => List.replicate k 32 ++ ((c :: t).take n ++ wideF k f ((c :: t).drop n))
theorem wideF_head (k f : Nat) (l : List UInt8) : Rest l (wideF k f l) := by
  cases f with
  | zero => exact .inl rfl
  | succ f =>
    cases l with
    | nil => exact .inl rfl
    | cons c t =>
      unfold wideF
      by_cases hc : c = 32
      · simp only [if_pos hc]; exact .inr rfl
      · simp only [if_neg hc]
        cases ht : tokL (c :: t) with
        | none => exact .inl rfl
        | some y =>
          obtain ⟨tk, n⟩ := y
          obtain ⟨n0, -⟩ := tokL_pos ht
          cases k with
          | zero =>
            refine .inl ?_
            obtain ⟨n, rfl⟩ : ∃ m, n = m + 1 := ⟨n - 1, by omega⟩
            rfl
          | succ k => exact .inr rfl
/-- tokens but for their places -/
def bare (l : List Tk) : List Tk := l.map fun t => t.put 0
theorem lexF_blanks (k f p : Nat) (l : List UInt8) : lexF (f + k) p (List.replicate k 32 ++ l) = lexF f (p + k) l := by
  induction k generalizing p with
  | zero => rfl
  | succ k ih =>
    rw [List.replicate_succ, List.cons_append, ← Nat.add_assoc, lexF_blank, ih]
    rw [show p + 1 + k = p + (k + 1) from by omega]
theorem tokL_head {c : UInt8} {t : List UInt8} {n : Nat} (h : 0 < n) (r : List UInt8) : (c :: t).take n ++ r = c :: (t.take (n - 1) ++ r) := by
  obtain ⟨n, rfl⟩ : ∃ m, n = m + 1 := ⟨n - 1, by omega⟩
  rfl
/-- blanks ahead of tokens change nothing but places -/
theorem lexF_wide (k f : Nat) : ∀ (p p2 : Nat) (l : List UInt8) (x : List Tk), l.length ≤ f → lexF f p l = (some x, 0) → ∃ y, lexF (wideF k f l).length p2 (wideF k f l) = (some y, 0) ∧ bare y = bare x := by
  induction f with
  | zero =>
    intro p p2 l x hl h
    obtain rfl : l = [] := List.eq_nil_of_length_eq_zero (by omega)
    cases h
    exact ⟨[], rfl, rfl⟩
  | succ f ih =>
    intro p p2 l x hl h
    cases l with
    | nil => cases h; exact ⟨[], rfl, rfl⟩
    | cons c t =>
      simp only [List.length_cons] at hl
      by_cases hc : c = 32
      · subst hc
        rw [lexF_blank] at h
        have e : wideF k (f + 1) (32 :: t) = 32 :: wideF k f t := by
          show (if (32 : UInt8) = 32 then 32 :: wideF k f t else match tokL (32 :: t) with | none => 32 :: t | some (_, n) => List.replicate k 32 ++ ((32 :: t).take n ++ wideF k f ((32 :: t).drop n))) = _
          rw [if_pos rfl]
        rw [e, List.length_cons, lexF_blank]
        exact ih (p + 1) (p2 + 1) t x (by omega) h
      · rw [lexF_tok f _ c t hc] at h
        cases ht : tokL (c :: t) with
        | none => rw [ht] at h; cases h
        | some z =>
          obtain ⟨tk, n⟩ := z
          rw [ht] at h
          obtain ⟨n0, n1⟩ := tokL_pos ht
          simp only [List.length_cons] at n1
          simp only at h
          have e : wideF k (f + 1) (c :: t) = List.replicate k 32 ++ ((c :: t).take n ++ wideF k f ((c :: t).drop n)) := by
            show (if c = 32 then 32 :: wideF k f t else match tokL (c :: t) with | none => c :: t | some (_, n) => List.replicate k 32 ++ ((c :: t).take n ++ wideF k f ((c :: t).drop n))) = _
            rw [if_neg hc, ht]
          have hd : ((c :: t).drop n).length = t.length + 1 - n := by rw [List.length_drop]; rfl
          cases hr : lexF f (p + n) ((c :: t).drop n) with
          | mk r q2 =>
            rw [hr] at h
            cases r with
            | none => cases h
            | some r =>
              simp only [Prod.mk.injEq, Option.some.injEq, and_true] at h
              subst h
              obtain rfl := lexF_zero hr
              obtain ⟨y, hy, hb⟩ := ih (p + n) (p2 + k + n) _ r (by omega) hr
              refine ⟨tk.put (p2 + k) :: y, ?_, ?_⟩
              · rw [e]
                have hlen : (List.replicate k (32 : UInt8) ++ ((c :: t).take n ++ wideF k f ((c :: t).drop n))).length = (n + (wideF k f ((c :: t).drop n)).length) + k := by
                  simp only [List.length_append, List.length_replicate, List.length_take, List.length_cons]
                  omega
                rw [hlen, lexF_blanks]
                have hk := tokL_rest ht (wideF_head k f ((c :: t).drop n))
                have hdrop : ((c :: t).take n ++ wideF k f ((c :: t).drop n)).drop n = wideF k f ((c :: t).drop n) := by
                  rw [List.drop_append_of_le_length (by simp only [List.length_take, List.length_cons]; omega)]
                  simp
                rw [tokL_head n0] at hk hdrop ⊢
                obtain ⟨m, rfl⟩ : ∃ m, n = m + 1 := ⟨n - 1, by omega⟩
                rw [show m + 1 + (wideF k f ((c :: t).drop (m + 1))).length = m + (wideF k f ((c :: t).drop (m + 1))).length + 1 from by omega]
                rw [lexF_tok _ _ c _ hc, hk]
                simp only
                rw [hdrop, lexF_fuel _ (wideF k f ((c :: t).drop (m + 1))).length _ _ (by omega) (Nat.le_refl _), hy]
              · show (tk.put (p2 + k)).put 0 :: bare y = (tk.put p).put 0 :: bare r
                rw [hb]
                rfl
end Go.Proofs.YtfkghfmgeholeaaGreatDoor
namespace Go.Proofs.YtfkghfmgeholeaaGreatDoor
open Go.RowKit

/-- the bytes that a token must stand on -/
def textT (t : Tk) : List UInt8 := if t.k = 0 then 36 :: t.text else if t.k = 3 then t.text else if t.k = 1 then printVL (rightOf t.v) else if t.k = 4 then [40] else if t.k = 5 then [41] else []
theorem textT_put (t : Tk) (p : Nat) : textT (t.put p) = textT t := rfl
theorem takeWhile_pre (p : UInt8 → Bool) (l : List UInt8) : l.takeWhile p <+: l := List.takeWhile_prefix p
theorem tokL_text {l : List UInt8} {tk : Tk} {n : Nat} (h : tokL l = some (tk, n)) : textT tk <+: l ∧ (textT tk).length ≤ n := by
  cases l with
  | nil => cases h
  | cons c t =>
    have h1 := takeWhile_pre smallB t
    have h2 := takeWhile_pre wordB (c :: t)
    rw [tokL_cons] at h
    by_cases c1 : c = 61
    · rw [if_pos c1] at h; cases h
      exact ⟨List.nil_prefix, Nat.zero_le _⟩
    rw [if_neg c1] at h
    by_cases c2 : c = 33
    · rw [if_pos c2] at h
      split at h
      all_goals (cases h)
      exact ⟨List.nil_prefix, Nat.zero_le _⟩
    rw [if_neg c2] at h
    by_cases c3 : c = 60
    · rw [if_pos c3] at h
      split at h
      all_goals (cases h; exact ⟨List.nil_prefix, Nat.zero_le _⟩)
    rw [if_neg c3] at h
    by_cases c4 : c = 62
    · rw [if_pos c4] at h
      split at h
      all_goals (cases h; exact ⟨List.nil_prefix, Nat.zero_le _⟩)
    rw [if_neg c4] at h
    by_cases c5 : c = 40
    · rw [if_pos c5] at h; cases h
      subst c5
      exact ⟨⟨t, rfl⟩, Nat.le_refl _⟩
    rw [if_neg c5] at h
    by_cases c6 : c = 41
    · rw [if_pos c6] at h; cases h
      subst c6
      exact ⟨⟨t, rfl⟩, Nat.le_refl _⟩
    rw [if_neg c6] at h
    by_cases c7 : c = 36
    · rw [if_pos c7] at h
      subst c7
      split at h
      · simp only [Option.some.injEq, Prod.mk.injEq] at h
        obtain ⟨rfl, rfl⟩ := h
        refine ⟨?_, ?_⟩
        · show (36 :: t.takeWhile smallB) <+: 36 :: t
          obtain ⟨r, hr⟩ := h1
          exact ⟨r, by rw [List.cons_append, hr]⟩
        · show (36 :: t.takeWhile smallB).length ≤ _
          simp only [List.length_cons]; omega
      · cases h
    rw [if_neg c7] at h
    by_cases c8 : (c :: t).takeWhile wordB = []
    · rw [if_pos c8] at h; cases h
    rw [if_neg c8] at h
    split at h
    · simp only [Option.some.injEq, Prod.mk.injEq] at h
      obtain ⟨rfl, rfl⟩ := h
      exact ⟨h2, Nat.le_refl _⟩
    · split at h
      · rename_i ho
        simp only [Option.some.injEq, Prod.mk.injEq] at h
        obtain ⟨rfl, rfl⟩ := h
        have e : textT (⟨1, 0, [], 0, parseVal ((c :: t).takeWhile wordB)⟩ : Tk) = (c :: t).takeWhile wordB := by
          show printVL (rightOf (parseVal ((c :: t).takeWhile wordB))) = _
          unfold parseVal
          rw [if_pos ho]
          unfold okV at ho
          exact eq_of_beq ho
        rw [e]
        exact ⟨h2, Nat.le_refl _⟩
      · cases h
/-- tokens of the bytes l that stand from the place p on -/
structure Stand (p : Nat) (l : List UInt8) (t : Tk) : Prop where
  low : p ≤ t.pos
  high : t.pos - p < l.length
  some : l[t.pos - p]? ≠ some 32
  text : textT t <+: l.drop (t.pos - p)
theorem Stand.drop {p n : Nat} {l : List UInt8} {t : Tk} (h : Stand (p + n) (l.drop n) t) : Stand p l t := by
  obtain ⟨h1, h2, h3, h4⟩ := h
  rw [List.length_drop] at h2
  have e : t.pos - p = n + (t.pos - (p + n)) := by omega
  refine ⟨by omega, by omega, ?_, ?_⟩
  · rw [e, ← List.getElem?_drop]; exact h3
  · rw [e, ← List.drop_drop]; exact h4
theorem lexF_stand (f : Nat) : ∀ (p : Nat) (l : List UInt8) (x : List Tk) (q : Nat), lexF f p l = (some x, q) → (∀ t ∈ x, Stand p l t) ∧ x.Pairwise (fun a b => a.pos < b.pos) ∧ x.length ≤ l.length := by
  induction f with
  | zero => intro p l x q h; cases h; exact ⟨by simp, .nil, by simp⟩
  | succ f ih =>
    intro p l x q h
    cases l with
    | nil => cases h; exact ⟨by simp, .nil, by simp⟩
    | cons c t =>
      by_cases hc : c = 32
      · subst hc
        rw [lexF_blank] at h
        obtain ⟨a, b, d⟩ := ih (p + 1) t x q h
        refine ⟨fun u hu => Stand.drop (n := 1) (a u hu), b, ?_⟩
        simp only [List.length_cons]; omega
      · rw [lexF_tok f _ c t hc] at h
        cases ht : tokL (c :: t) with
        | none => rw [ht] at h; cases h
        | some z =>
          obtain ⟨tk, n⟩ := z
          rw [ht] at h
          obtain ⟨n0, n1⟩ := tokL_pos ht
          have hx := tokL_text ht
          simp only at h
          cases hr : lexF f (p + n) ((c :: t).drop n) with
          | mk r q2 =>
            rw [hr] at h
            cases r with
            | none => cases h
            | some r =>
              simp only [Prod.mk.injEq, Option.some.injEq] at h
              obtain ⟨rfl, rfl⟩ := h
              obtain ⟨a, b, d⟩ := ih (p + n) _ r q2 hr
              rw [List.length_drop] at d
              refine ⟨?_, ?_, ?_⟩
              · intro u hu
                rcases List.mem_cons.1 hu with rfl | hu
                · refine ⟨Nat.le_refl _, ?_, ?_, ?_⟩
                  · show p - p < _
                    rw [Nat.sub_self]; exact Nat.succ_pos _
                  · show (c :: t)[p - p]? ≠ _
                    rw [Nat.sub_self]
                    show some c ≠ some 32
                    intro e; exact hc (Option.some.inj e)
                  · show textT tk <+: (c :: t).drop (p - p)
                    rw [Nat.sub_self]; exact hx.1
                · exact Stand.drop (a u hu)
              · refine List.pairwise_cons.2 ⟨fun u hu => ?_, b⟩
                have := (a u hu).low
                show p < u.pos
                omega
              · simp only [List.length_cons] at n1 d ⊢
                omega
theorem takeWhile_all (p : UInt8 → Bool) (l : List UInt8) (h : ∀ x ∈ l, p x = true) : l.takeWhile p = l := by
  induction l with
  | nil => rfl
  | cons c l ih =>
    rw [List.takeWhile_cons_of_pos (h c (by simp)), ih fun x hx => h x (by simp [hx])]
/-- a column's name with its sign is one token -/
theorem nameB_small {s : List UInt8} (h : nameB s = true) : s.takeWhile smallB = s ∧ 1 ≤ s.length ∧ s.length ≤ 16 := by
  cases s with
  | nil => cases h
  | cons c t =>
    unfold nameB at h
    simp only [Bool.and_eq_true, decide_eq_true_eq] at h
    obtain ⟨⟨a, b⟩, d⟩ := h
    have hc : smallB c = true := by unfold smallB; rw [a]; rfl
    refine ⟨?_, by simp, by simp only [List.length_cons]; omega⟩
    rw [List.takeWhile_cons_of_pos hc]
    rw [takeWhile_all smallB t fun x hx => List.all_eq_true.1 b x hx]
theorem lexL_name {s : List UInt8} (h : nameB s = true) : lexL (36 :: s) = (some [⟨0, 0, s, 0, zeroVal⟩], 0) := by
  obtain ⟨h1, h2, h3⟩ := nameB_small h
  have ht : tokL (36 :: s) = some (⟨0, 0, s, 0, zeroVal⟩, 1 + s.length) := by
    rw [tokL_cons, if_neg (by decide), if_neg (by decide), if_neg (by decide), if_neg (by decide), if_neg (by decide), if_neg (by decide), if_pos rfl, h1, if_pos h]
  unfold lexL
  rw [if_neg (by simp only [List.length_cons]; omega), List.length_cons, lexF_tok _ _ _ _ (by decide), ht]
  simp only
  have e : (36 :: s).drop (1 + s.length) = [] := List.drop_eq_nil_of_le (by simp only [List.length_cons]; omega)
  rw [e]
  obtain ⟨m, hm⟩ : ∃ m, s.length = m + 1 := ⟨s.length - 1, by omega⟩
  rw [hm]
  rfl
end Go.Proofs.YtfkghfmgeholeaaGreatDoor
namespace Go.Proofs.YtfkghfmgeholeaaGreatDoor
open Go.RowKit

/-- the answer where the tokens o are taken already -/
def lexEnd (o : List Tk) (r : Option (List Tk) × Nat) : Option (List Tk) × Nat := match r with | (none, q) => (none, q) | (some r, _) => (some (o ++ r), 0)
/-- the answer for the text s, the tokens o taken, from the place p on -/
def lexAt (s : List UInt8) (o : List Tk) (p : Nat) : Option (List Tk) × Nat := lexEnd o (lexF (s.length - p) p (s.drop p))
theorem lexAt_zero (s : List UInt8) (h : s.length ≤ 2000) : lexAt s [] 0 = lexL s := by
  unfold lexAt lexL
  rw [if_neg (by omega), Nat.sub_zero, List.drop_zero]
  cases hr : lexF s.length 0 s with
  | mk r q =>
    cases r with
    | none => rfl
    | some r => rw [lexF_zero hr]; rfl
theorem lexAt_end (s : List UInt8) (o : List Tk) (p : Nat) (h : s.length ≤ p) : lexAt s o p = (some o, 0) := by
  unfold lexAt
  rw [List.drop_eq_nil_of_le h, show s.length - p = 0 from by omega]
  show (some (o ++ []), 0) = _
  rw [List.append_nil]
theorem drop_at {s : List UInt8} {p : Nat} {c : UInt8} (h : s[p]? = some c) : s.drop p = c :: s.drop (p + 1) ∧ p < s.length := by
  obtain ⟨hp, e⟩ := List.getElem?_eq_some_iff.1 h
  exact ⟨by rw [List.drop_eq_getElem_cons hp, e], hp⟩
theorem lexAt_blank (s : List UInt8) (o : List Tk) (p : Nat) (h : s[p]? = some 32) : lexAt s o p = lexAt s o (p + 1) := by
  obtain ⟨e, hp⟩ := drop_at h
  unfold lexAt
  rw [e, show s.length - p = s.length - (p + 1) + 1 from by omega, lexF_blank]
theorem lexAt_bad (s : List UInt8) (o : List Tk) (p : Nat) {c : UInt8} (h : s[p]? = some c) (hc : ¬ c = 32) (ht : tokL (s.drop p) = none) : lexAt s o p = (none, p) := by
  obtain ⟨e, hp⟩ := drop_at h
  unfold lexAt
  rw [e] at ht ⊢
  rw [show s.length - p = s.length - (p + 1) + 1 from by omega, lexF_tok _ _ _ _ hc, ht]
  rfl
theorem lexAt_tok (s : List UInt8) (o : List Tk) (p : Nat) {c : UInt8} {tk : Tk} {n : Nat} (h : s[p]? = some c) (hc : ¬ c = 32) (ht : tokL (s.drop p) = some (tk, n)) : lexAt s o p = lexAt s (o ++ [tk.put p]) (p + n) ∧ 0 < n ∧ p + n ≤ s.length := by
  obtain ⟨e, hp⟩ := drop_at h
  have hn := tokL_pos ht
  rw [List.length_drop] at hn
  refine ⟨?_, hn.1, by omega⟩
  unfold lexAt
  rw [e] at ht
  rw [show s.drop (p + n) = (s.drop p).drop n from by rw [List.drop_drop], e]
  rw [show s.length - p = s.length - (p + 1) + 1 from by omega, lexF_tok _ _ _ _ hc, ht]
  simp only
  have hl : ((c :: s.drop (p + 1)).drop n).length = s.length - (p + n) := by
    rw [← e, List.drop_drop, List.length_drop]
  rw [lexF_fuel (s.length - (p + 1)) (s.length - (p + n)) (p + n) _ (by omega) (by omega)]
  cases hr : lexF (s.length - (p + n)) (p + n) ((c :: s.drop (p + 1)).drop n) with
  | mk r q =>
    cases r with
    | none => rfl
    | some r =>
      show (some (o ++ tk.put p :: r), 0) = (some (o ++ [tk.put p] ++ r), 0)
      rw [List.append_assoc]
      rfl
/-- a right answer has no more tokens than bytes -/
theorem lexL_length {s : List UInt8} {x : List Tk} {q : Nat} (h : lexL s = (some x, q)) : x.length ≤ s.length ∧ s.length ≤ 2000 ∧ q = 0 := by
  unfold lexL at h
  by_cases hs : 2000 < s.length
  · rw [if_pos hs] at h; cases h
  · rw [if_neg hs] at h
    exact ⟨(lexF_stand _ _ _ _ _ h).2.2, by omega, lexF_zero h⟩
/-- the tokens of two texts with a blank between -/
theorem lexL_join {a b : List UInt8} {x y : List Tk} {p q : Nat} (ha : lexL a = (some x, p)) (hb : lexL b = (some y, q)) (h : a.length + 1 + b.length ≤ 2000) : lexL (a ++ 32 :: b) = (some (x ++ shiftL (a.length + 1) y), 0) := by
  obtain ⟨-, a2, rfl⟩ := lexL_length ha
  obtain ⟨-, b2, rfl⟩ := lexL_length hb
  unfold lexL at ha hb ⊢
  rw [if_neg (by omega)] at ha hb
  rw [if_neg (by simp only [List.length_append, List.length_cons]; omega)]
  have hs := lexF_shift b.length 0 (a.length + 1) b y 0 hb
  have := lexF_join a.length 0 a b x _ (Nat.le_refl _) ha b.length (Nat.le_refl _) (by rw [← hs]; congr 1)
  rw [← this]
  congr 1
  simp only [List.length_append, List.length_cons]; omega
/-- blanks ahead of the tokens -/
theorem lexL_wide {a : List UInt8} {x : List Tk} {p : Nat} (k : Nat) (ha : lexL a = (some x, p)) (h : (wideF k a.length a).length ≤ 2000) : ∃ y, lexL (wideF k a.length a) = (some y, 0) ∧ bare y = bare x := by
  obtain ⟨-, a2, rfl⟩ := lexL_length ha
  unfold lexL at ha ⊢
  rw [if_neg (by omega)] at ha
  rw [if_neg (by omega)]
  exact lexF_wide k a.length 0 0 a x (Nat.le_refl _) ha
theorem wideF_length (k f : Nat) (l : List UInt8) : (wideF k f l).length ≤ (k + 1) * l.length := by
  induction f generalizing l with
  | zero => show l.length ≤ _; exact Nat.le_mul_of_pos_left _ (by omega)
  | succ f ih =>
    cases l with
    | nil => exact Nat.zero_le _
    | cons c t =>
      unfold wideF
      by_cases hc : c = 32
      · simp only [if_pos hc, List.length_cons]
        have := ih t
        rw [Nat.mul_succ]; omega
      · simp only [if_neg hc]
        cases ht : tokL (c :: t) with
        | none => exact Nat.le_mul_of_pos_left _ (by omega)
        | some y =>
          obtain ⟨tk, n⟩ := y
          obtain ⟨n0, n1⟩ := tokL_pos ht
          have := ih ((c :: t).drop n)
          simp only [List.length_append, List.length_replicate, List.length_take, List.length_cons, List.length_drop] at this n1 ⊢
          have e : (k + 1) * (t.length + 1) = (k + 1) * (t.length + 1 - n) + (k + 1) * n := by rw [← Nat.mul_add]; congr 1; omega
          have e2 : k + n ≤ (k + 1) * n := by
            rw [Nat.add_mul, Nat.one_mul]
            have : k * 1 ≤ k * n := Nat.mul_le_mul_left k n0
            omega
          omega
end Go.Proofs.YtfkghfmgeholeaaGreatDoor
namespace Go.Proofs.YtfkghfmgeholeaaGreatDoor
open Go.RowKit

/-- bytes of a text from one place to another -/
def cutL (s : List UInt8) (a b : Nat) : List UInt8 := (s.drop a).take (b - a)
theorem cutL_add (s : List UInt8) (a b c : Nat) (h : a ≤ b) (h2 : b ≤ c) : cutL s a c = cutL s a b ++ cutL s b c := by
  unfold cutL
  have e : s.drop b = (s.drop a).drop (b - a) := by rw [List.drop_drop]; congr 1; omega
  rw [e, show c - a = (b - a) + (c - b) from by omega, List.take_add]
theorem cutL_rest (s : List UInt8) (a b : Nat) (h : a ≤ b) : s.drop a = cutL s a b ++ s.drop b := by
  unfold cutL
  have e : s.drop b = (s.drop a).drop (b - a) := by rw [List.drop_drop]; congr 1; omega
  rw [e, List.take_append_drop]
/-- what a loop over the tokens x makes from the place `last` on -/
def wideX (k : Nat) (s : List UInt8) : Nat → List Tk → List UInt8
  | last, [] => s.drop last
  | last, t :: x => cutL s last t.pos ++ (List.replicate k 32 ++ wideX k s t.pos x)
theorem wideX_eq (k f : Nat) (s : List UInt8) : ∀ (p last : Nat) (x : List Tk) (q : Nat), (s.drop p).length ≤ f → last ≤ p → lexF f p (s.drop p) = (some x, q) → wideX k s last x = cutL s last p ++ wideF k f (s.drop p) := by
  induction f with
  | zero =>
    intro p last x q hl hp h
    have e : s.drop p = [] := List.eq_nil_of_length_eq_zero (by omega)
    cases h
    show s.drop last = _
    rw [cutL_rest s last p hp]
    rfl
  | succ f ih =>
    intro p last x q hl hp h
    cases hd : s.drop p with
    | nil =>
      rw [hd] at h
      cases h
      show s.drop last = _
      rw [cutL_rest s last p hp, hd]
      rfl
    | cons c t =>
      have hlt : p < s.length := by
        rcases Nat.lt_or_ge p s.length with h | h
        · exact h
        · rw [List.drop_eq_nil_of_le h] at hd; cases hd
      have hd1 : s.drop (p + 1) = t := by rw [show p + 1 = p + 1 from rfl, ← List.drop_drop, hd]; rfl
      rw [hd] at h hl
      simp only [List.length_cons] at hl
      by_cases hc : c = 32
      · subst hc
        rw [lexF_blank, ← hd1] at h
        have := ih (p + 1) last x q (by rw [hd1]; omega) (by omega) h
        rw [this, cutL_add s last p (p + 1) hp (by omega), List.append_assoc]
        have e : wideF k (f + 1) (32 :: t) = 32 :: wideF k f t := by
          show (if (32 : UInt8) = 32 then 32 :: wideF k f t else match tokL (32 :: t) with | none => 32 :: t | some (_, n) => List.replicate k 32 ++ ((32 :: t).take n ++ wideF k f ((32 :: t).drop n))) = _
          rw [if_pos rfl]
        have e2 : cutL s p (p + 1) = [32] := by
          unfold cutL
          rw [hd, show p + 1 - p = 1 from by omega]; rfl
        rw [e, e2, hd1]
        rfl
      · rw [lexF_tok f _ c t hc] at h
        cases ht : tokL (c :: t) with
        | none => rw [ht] at h; cases h
        | some z =>
          obtain ⟨tk, n⟩ := z
          rw [ht] at h
          obtain ⟨n0, n1⟩ := tokL_pos ht
          simp only [List.length_cons] at n1
          simp only at h
          have e : wideF k (f + 1) (c :: t) = List.replicate k 32 ++ ((c :: t).take n ++ wideF k f ((c :: t).drop n)) := by
            show (if c = 32 then 32 :: wideF k f t else match tokL (c :: t) with | none => c :: t | some (_, n) => List.replicate k 32 ++ ((c :: t).take n ++ wideF k f ((c :: t).drop n))) = _
            rw [if_neg hc, ht]
          have hdn : (c :: t).drop n = s.drop (p + n) := by rw [← hd, List.drop_drop]
          have hln : (s.drop (p + n)).length = t.length + 1 - n := by rw [← hdn, List.length_drop]; rfl
          rw [hdn] at h e
          cases hr : lexF f (p + n) (s.drop (p + n)) with
          | mk r q2 =>
            rw [hr] at h
            cases r with
            | none => cases h
            | some r =>
              simp only [Prod.mk.injEq, Option.some.injEq] at h
              obtain ⟨rfl, rfl⟩ := h
              have := ih (p + n) p r q2 (by omega) (by omega) hr
              show cutL s last p ++ (List.replicate k 32 ++ wideX k s p r) = _
              rw [this, e]
              have e3 : cutL s p (p + n) = (c :: t).take n := by
                unfold cutL
                rw [hd, show p + n - p = n from by omega]
              rw [e3]
theorem wideX_lex {s : List UInt8} {x : List Tk} {q : Nat} (k : Nat) (h : lexL s = (some x, q)) : wideX k s 0 x = wideF k s.length s := by
  have hl := lexL_length h
  unfold lexL at h
  rw [if_neg (by omega)] at h
  have := wideX_eq k s.length s 0 0 x q (by rw [List.drop_zero]; exact Nat.le_refl _) (Nat.le_refl _) (by rw [List.drop_zero]; exact h)
  rw [this, List.drop_zero]
  unfold cutL
  simp
/-- the place of a token is a place of the text; places grow -/
theorem lexL_stand {s : List UInt8} {x : List Tk} {q : Nat} (h : lexL s = (some x, q)) : (∀ t ∈ x, Stand 0 s t) ∧ x.Pairwise (fun a b => a.pos < b.pos) ∧ x.length ≤ s.length := by
  have hl := lexL_length h
  unfold lexL at h
  rw [if_neg (by omega)] at h
  exact lexF_stand _ _ _ _ _ h
end Go.Proofs.YtfkghfmgeholeaaGreatDoor
namespace Go.Proofs.YtfkghfmgeholeaaGreatDoor
open Go.RowKit

/-- the byte c at the place j of a name -/
def okN (j : Nat) (c : UInt8) : Bool := lowB c || (decide (0 < j) && (digB c || c == 95))
theorem nameB_iff (l : List UInt8) : nameB l = true ↔ (∀ j c, l[j]? = some c → okN j c = true) ∧ 1 ≤ l.length ∧ l.length ≤ 16 := by
  cases l with
  | nil => simp [nameB]
  | cons c t =>
    constructor
    · intro h
      simp only [nameB, Bool.and_eq_true, List.all_eq_true, decide_eq_true_eq] at h
      refine ⟨fun j d hj => ?_, by simp, by simp only [List.length_cons]; omega⟩
      cases j with
      | zero => simp at hj; subst hj; simp [okN, h.1.1]
      | succ k =>
        have := h.1.2 d (List.mem_of_getElem? (by simpa using hj))
        unfold smallB at this
        simpa [okN, Bool.or_assoc] using this
    · rintro ⟨h1, -, h3⟩
      simp only [nameB, Bool.and_eq_true, List.all_eq_true, decide_eq_true_eq]
      refine ⟨⟨by simpa [okN] using h1 0 c rfl, fun d hd => ?_⟩, by simp only [List.length_cons] at h3; omega⟩
      obtain ⟨k, hk⟩ := List.getElem?_of_mem hd
      have := h1 (k + 1) d (by simpa using hk)
      unfold smallB
      simpa [okN, Bool.or_assoc] using this
/-- the same of a number -/
def lowD (I : Int) : Prop := 97 ≤ I ∧ I ≤ 122
def upD (I : Int) : Prop := 65 ≤ I ∧ I ≤ 90
def digD (I : Int) : Prop := 48 ≤ I ∧ I ≤ 57
theorem byte_eq (c k : UInt8) : (c == k) = true ↔ (c.toNat : Int) = (k.toNat : Int) := by
  rw [beq_iff_eq]
  constructor
  · rintro rfl; rfl
  · intro h; exact UInt8.toNat_inj.1 (by omega)
theorem smallB_iff (c : UInt8) : smallB c = true ↔ lowD c.toNat ∨ digD c.toNat ∨ (c.toNat : Int) = 95 := by
  have := byte_eq c 95
  have e1 : UInt8.toNat 95 = 95 := rfl
  simp only [smallB, lowB, digB, Bool.or_eq_true, Bool.and_eq_true, decide_eq_true_eq, this, lowD, digD]
  omega
theorem wordB_iff (c : UInt8) : wordB c = true ↔ lowD c.toNat ∨ upD c.toNat ∨ digD c.toNat ∨ (c.toNat : Int) = 45 ∨ (c.toNat : Int) = 46 := by
  have h1 := byte_eq c 45
  have h2 := byte_eq c 46
  have e1 : UInt8.toNat 45 = 45 := rfl
  have e2 : UInt8.toNat 46 = 46 := rfl
  simp only [wordB, lowB, upB, digB, Bool.or_eq_true, Bool.and_eq_true, decide_eq_true_eq, h1, h2, lowD, upD, digD]
  omega
theorem okN_iff (j : Nat) (c : UInt8) : okN j c = true ↔ lowD c.toNat ∨ 0 < j ∧ (digD c.toNat ∨ (c.toNat : Int) = 95) := by
  have h1 := byte_eq c 95
  have e1 : UInt8.toNat 95 = 95 := rfl
  simp only [okN, lowB, digB, Bool.or_eq_true, Bool.and_eq_true, decide_eq_true_eq, h1, lowD, digD]
  omega
theorem ret_b {x b : Bool} {p : Prop} (h : b = true ↔ p) (hx : x = true ↔ p) : Ending.returned (.bool x) = .returned (.bool b) := by
  have : x = b := by cases x <;> cases b <;> simp_all
  rw [this]
set_option maxHeartbeats 8000000 in
set_option maxRecDepth 100000 in
theorem small_any (w : World) (c : UInt8) : Calls Tryz.prog 69 #[.int .u8 (c.toNat : Int)] w fun e w' => e = .returned (.bool (smallB c)) ∧ w' = w := by
  have hs := smallB_iff c
  generalize smallB c = b at *
  have hc : (c.toNat : Int) < 256 ∧ 0 ≤ (c.toNat : Int) := by have := c.toNat_lt; omega
  generalize (c.toNat : Int) = I at *
  have Hs := Lib.hid hs
  clear hs
  go_enter Tryz.func69, Tryz.ntmps69
  go_wp2_with fail
  all_goals
    go_ret
    exact ⟨ret_b Hs.out (by simp only [lowD, digD, decide_eq_true_eq, beq_iff_eq, Bool.or_eq_true, Bool.and_eq_true, Bool.false_eq_true, eq_self, true_iff, false_iff]; omega), rfl⟩
set_option maxHeartbeats 8000000 in
set_option maxRecDepth 100000 in
theorem wordy_any (w : World) (c : UInt8) : Calls Tryz.prog 70 #[.int .u8 (c.toNat : Int)] w fun e w' => e = .returned (.bool (wordB c)) ∧ w' = w := by
  have hs := wordB_iff c
  generalize wordB c = b at *
  have hc : (c.toNat : Int) < 256 ∧ 0 ≤ (c.toNat : Int) := by have := c.toNat_lt; omega
  generalize (c.toNat : Int) = I at *
  have Hs := Lib.hid hs
  clear hs
  go_enter Tryz.func70, Tryz.ntmps70
  go_wp2_with fail
  all_goals
    go_ret
    exact ⟨ret_b Hs.out (by simp only [lowD, upD, digD, decide_eq_true_eq, beq_iff_eq, Bool.or_eq_true, Bool.and_eq_true, Bool.false_eq_true, eq_self, true_iff, false_iff]; omega), rfl⟩
theorem rune_at (s : ByteArray) (pos : Nat) (h : pos < s.size) {c : UInt8} (hc : s[pos] = c) : ∃ (R D : Nat), Utf8.decode s pos = (R, D) ∧ 1 ≤ D ∧ R ≤ 2147483647 ∧ (c.toNat < 128 → R = c.toNat ∧ D = 1) ∧ (128 ≤ c.toNat → 128 ≤ R) := by
  refine ⟨(Utf8.decode s pos).1, (Utf8.decode s pos).2, rfl, ?_, decode_le s pos, fun h2 => ?_, fun h2 => ?_⟩
  · rcases Nat.lt_or_ge (s[pos]'h).toNat 128 with h2 | h2
    · rw [decode_ascii s pos h h2]; exact Nat.le_refl _
    · exact (decode_high s pos h h2).2
  · subst hc
    rw [decode_ascii s pos h h2]; exact ⟨rfl, rfl⟩
  · subst hc
    exact (decode_high s pos h h2).1
set_option maxHeartbeats 8000000 in
set_option maxRecDepth 100000 in
theorem nameL_any (w : World) (s : ByteArray) (hs : s.size ≤ 100000) : Calls Tryz.prog 40 #[.string s] w fun e w' => e = .returned (.bool (nameB s.data.toList)) ∧ Below w.heap.size w w' := by
  have hn := nameB_iff s.data.toList
  have hlen : s.data.toList.length = s.size := Lib.size_eq s
  rw [hlen] at hn
  generalize nameB s.data.toList = b at *
  have Hn := Lib.hid hn; have Hs := Lib.hid hs
  clear hn hs hlen
  have hsi : (s.size : Int) ≤ 100000 := by have := Hs.out; omega
  go_enter Tryz.func40, Tryz.ntmps40
  go_wp2_with fail
  go_loopg [] s.size (fun g wx => ∃ i : Nat, i + g = s.size ∧ wx = w.iter s i ∧ Hid (∀ j c, j < i → s.data.toList[j]? = some c → okN j c = true))
  case atStart => exact ⟨0, by omega, rfl, Lib.hid fun j c hj => by omega⟩
  case round =>
    obtain ⟨i, hig, rfl, HI⟩ := hrel
    by_cases hi : i < s.size
    · obtain ⟨c, hc⟩ : ∃ c, s[i] = c := ⟨_, rfl⟩
      have hlc : s.data.toList[i]? = some c := by rw [byte_at s i hi, hc]
      obtain ⟨R, D, hD, hD1, hR1, hR2, hR3⟩ := rune_at s i hi hc
      have hok := okN_iff i c
      have Hlc := Lib.hid hlc; have Hok := Lib.hid hok
      have HR : Hid ((c.toNat < 128 → R = c.toNat ∧ D = 1) ∧ (128 ≤ c.toNat → 128 ≤ R)) := Lib.hid ⟨hR2, hR3⟩
      have hnx := fun ty => run_next_any (P := Tryz.prog) w s i ty hi
      rw [hD] at hnx
      simp only at hnx
      have hgk : 0 < gk := by omega
      have Hgk := Lib.hid hgk; have Hig := Lib.hid hig
      obtain ⟨J, hJ⟩ : ∃ J : Int, J = (i : Int) := ⟨_, rfl⟩
      obtain ⟨Q, hQ⟩ : ∃ Q : Int, Q = (R : Int) := ⟨_, rfl⟩
      rw [← hJ, ← hQ] at hnx
      have HJ := Lib.hid hJ; have HQ := Lib.hid hQ
      have hfin : okN i c = true → Hid (Q = (c.toNat : Int) ∧ D = 1 ∧ ∀ (j : Nat) (d : UInt8), j < i + 1 → s.data.toList[j]? = some d → okN j d = true) := fun ho => Lib.hid (by
        have h1 := hok.1 ho
        simp only [lowD, digD] at h1
        obtain ⟨h2, h3⟩ := hR2 (by omega)
        refine ⟨by omega, h3, fun j d hj hd => ?_⟩
        rcases Nat.lt_or_ge j i with h | h
        · exact HI.out j d h hd
        · obtain rfl : j = i := by omega
          rw [hlc] at hd
          cases hd
          exact ho)
      have hbad : okN i c = false → Hid (b = false) := fun ho => Lib.hid (by
        rw [Bool.eq_false_iff]
        intro hb
        rw [(Hn.out.1 hb).1 i c hlc] at ho
        cases ho)
      cases ho : okN i c with
      | true =>
        obtain ⟨hQc, hD1, hall⟩ := (hfin ho).out
        have h1 := hok.1 ho
        rw [← hQc, ho] at hok
        rw [hD1] at hnx
        have Hall := Lib.hid hall
        have h2 : 97 ≤ Q ∧ Q ≤ 122 ∨ (¬ 97 ≤ Q ∧ 0 < J ∧ 48 ≤ Q ∧ Q ≤ 57) ∨ (¬ 97 ≤ Q ∧ 0 < J ∧ 48 ≤ Q ∧ ¬ Q ≤ 57 ∧ Q = 95) := by
          rw [← hQc] at h1
          simp only [lowD, digD] at h1
          omega
        clear hlc hok hc hR2 hR3 hD hgk hig hJ hQ hR1 hfin hbad ho hQc hD1 hall h1
        rcases h2 with ⟨k1, k2⟩ | ⟨k1, k2, k3, k4⟩ | ⟨k1, k2, k3, k4, k5⟩
        · go_wp2_with fail
          go_roundg (gk - 1)
          case measure => have := Hgk.out; omega
          case rel => exact ⟨i + 1, by have := Hig.out; have := Hgk.out; omega, rfl, Hall⟩
        · go_wp2_with fail
          go_roundg (gk - 1)
          case measure => have := Hgk.out; omega
          case rel => exact ⟨i + 1, by have := Hig.out; have := Hgk.out; omega, rfl, Hall⟩
        · subst k5
          go_wp2_with fail
          go_roundg (gk - 1)
          case measure => have := Hgk.out; omega
          case rel => exact ⟨i + 1, by have := Hig.out; have := Hgk.out; omega, rfl, Hall⟩
      | false =>
        obtain rfl := (hbad ho).out
        have h1 : ¬ (97 ≤ Q ∧ Q ≤ 122) ∧ (¬ 0 < J ∨ ¬ (48 ≤ Q ∧ Q ≤ 57) ∧ ¬ Q = 95) := by
          rw [ho] at hok
          simp only [Bool.false_eq_true, false_iff, lowD, digD] at hok
          rcases Nat.lt_or_ge c.toNat 128 with h | h
          · have := hR2 h; omega
          · have := hR3 h; omega
        clear hlc hok hc hR2 hR3 hD hgk hig hJ hQ hR1 hfin hbad ho hD1
        obtain ⟨k1, k2⟩ := h1
        rcases (by omega : ¬ 97 ≤ Q ∨ 97 ≤ Q ∧ ¬ Q ≤ 122) with g1 | ⟨g1, g2⟩ <;> rcases (by omega : ¬ 0 < J ∨ (0 < J ∧ ¬ 48 ≤ Q ∧ ¬ Q ≤ 57 ∧ ¬ Q = 95) ∨ (0 < J ∧ ¬ 48 ≤ Q ∧ Q ≤ 57 ∧ ¬ Q = 95) ∨ (0 < J ∧ 48 ≤ Q ∧ ¬ Q ≤ 57 ∧ ¬ Q = 95)) with g3 | ⟨g3, g4, g5, g6⟩ | ⟨g3, g4, g5, g6⟩ | ⟨g3, g4, g5, g6⟩
        all_goals
          first
          | (exfalso; omega)
          | (clear k1 k2
             try (have g7 : (Q == 95) = false := beq_eq_false_iff_ne.2 (by assumption))
             go_wp2_with fail
             go_ret
             exact ⟨rfl, (Below.refl _ _).alloc (Nat.le_refl _) _⟩)
    · obtain rfl : i = s.size := by omega
      have hnx := fun ty => run_next_end (P := Tryz.prog) w s s.size ty hi
      go_wp2_with fail
      all_goals
        go_ret
        refine ⟨ret_b Hn.out ?_, (Below.refl _ _).alloc (Nat.le_refl _) _⟩
        have hall : ∀ (j : Nat) (c : UInt8), s.data.toList[j]? = some c → okN j c = true := fun j c hj => HI.out j c (by have := (List.getElem?_eq_some_iff.1 hj).1; rw [Lib.size_eq]; exact this) hj
        have e : (∀ (j : Nat) (c : UInt8), s.data.toList[j]? = some c → okN j c = true) ↔ True := ⟨fun _ => trivial, fun _ => hall⟩
        rw [e]
        simp only [decide_eq_true_eq, beq_iff_eq, Bool.false_eq_true, eq_self, true_and, true_iff, false_iff]
        omega
/-- a row of bytes at the beginning that are such -/
theorem takeWhile_at (p : UInt8 → Bool) (l : List UInt8) (j : Nat) (h : ∀ i c, i < j → l[i]? = some c → p c = true) (hj : l[j]? = none ∨ ∃ c, l[j]? = some c ∧ p c = false) : l.takeWhile p = l.take j := by
  induction l generalizing j with
  | nil => simp
  | cons a t ih =>
    cases j with
    | zero =>
      rcases hj with hj | ⟨c, hc, hp⟩
      · simp at hj
      · simp at hc; subst hc; rw [List.takeWhile_cons, hp]; rfl
    | succ k =>
      rw [List.takeWhile_cons, h 0 a (by omega) rfl]
      simp only [if_true, List.take_succ_cons]
      rw [ih k (fun i c hi hc => h (i + 1) c (by omega) (by simpa using hc)) (by simpa using hj)]
set_option maxHeartbeats 8000000 in
set_option maxRecDepth 100000 in
theorem row_any (w : World) (k : Nat) (p : UInt8 → Bool) (he : ∀ args w, (callFunc k args).run Tryz.prog w = .ok (.enter k args) w) (hk : ∀ (W : World) (c : UInt8), Calls Tryz.prog k #[.int .u8 (c.toNat : Int)] W fun e w' => e = .returned (.bool (p c)) ∧ w' = W) (s : ByteArray) (hs : s.size ≤ 100000) :
    Calls Tryz.prog 68 #[.string s, .func (.func k) #[] #[]] w fun e w' => e = .returned (.string ⟨(s.data.toList.takeWhile p).toArray⟩) ∧ w' = w := by
  have Hk := Lib.hid hk; have Hs := Lib.hid hs
  clear hk hs
  have hsi : (s.size : Int) ≤ 100000 := by have := Hs.out; omega
  go_enter Tryz.func68, Tryz.ntmps68
  go_wp2_with fail
  go_loopg [8] s.size (fun g i wx => ∃ (j : Nat) (I : Int), j + g = s.size ∧ Hid (I = (j : Int)) ∧ i = .int .i64 I ∧ wx = w ∧ Hid (∀ (i : Nat) (c : UInt8), i < j → s.data.toList[i]? = some c → p c = true))
  case atStart => exact ⟨0, 0, by omega, Lib.hid rfl, rfl, rfl, Lib.hid fun i c hi => by omega⟩
  case round =>
    obtain ⟨j, I, hj, HI, rfl, rfl, HA⟩ := hrel
    have hI0 : 0 ≤ I := by have := HI.out; omega
    by_cases hm : gk = 0
    · have hI1 : ¬ I < (s.size : Int) := by have := HI.out; omega
      have hall : s.data.toList.takeWhile p = s.data.toList := by
        rw [takeWhile_at p s.data.toList s.size (fun i c hi hc => HA.out i c (by omega) hc) (.inl (List.getElem?_eq_none (by rw [← Lib.size_eq]; exact Nat.le_refl _)))]
        exact List.take_of_length_le (by rw [← Lib.size_eq]; exact Nat.le_refl _)
      have Hall := Lib.hid hall
      clear hall
      go_wp2_with fail
      go_ret
      exact ⟨by rw [Hall.out]; rfl, rfl⟩
    · have hI1 : I < (s.size : Int) := by have := HI.out; omega
      have hIj : I.toNat = j := by have := HI.out; omega
      have hjs : j < s.size := by omega
      obtain ⟨c, hc⟩ : ∃ c, s[j] = c := ⟨_, rfl⟩
      have hlc := byte_at s j hjs
      rw [hc] at hlc
      have Hlc := Lib.hid hlc; have Hm := Lib.hid hm; have Hj := Lib.hid hj
      have Hc := Hk.out wr c
      clear hlc hm hj
      cases hp : p c with
      | true =>
        rw [hp] at Hc
        have HA2 : Hid (∀ (i : Nat) (c : UInt8), i < j + 1 → s.data.toList[i]? = some c → p c = true) := Lib.hid fun i d hi hd => by
          rcases Nat.lt_or_ge i j with h | h
          · exact HA.out i d h hd
          · obtain rfl : i = j := by omega
            rw [Hlc.out] at hd
            cases hd
            exact hp
        clear hp
        go_wp2_with fail
        refine Hc.mono ?_
        rintro e W' ⟨rfl, rfl⟩
        go_wp2_with fail
        go_roundg (s.size - (j + 1))
        case measure => have := Hj.out; have := Hm.out; omega
        case rel => exact ⟨j + 1, I + 1, by have := Hj.out; have := Hm.out; omega, Lib.hid (by have := HI.out; omega), by go_num, rfl, HA2⟩
      | false =>
        rw [hp] at Hc
        have hall : s.data.toList.takeWhile p = s.data.toList.take j := takeWhile_at p s.data.toList j HA.out (.inr ⟨c, Hlc.out, hp⟩)
        have Hall := Lib.hid hall
        clear hall hp
        go_wp2_with fail
        refine Hc.mono ?_
        rintro e W' ⟨rfl, rfl⟩
        go_wp2_with fail
        go_ret
        have he : s.extract 0 j = ⟨(s.data.toList.takeWhile p).toArray⟩ := by rw [Hall.out, Lib.extract_eq, List.drop_zero, Nat.sub_zero]
        exact ⟨congrArg Ending.returned (congrArg Value.string he), rfl⟩
end Go.Proofs.YtfkghfmgeholeaaGreatDoor
namespace Go.Proofs.YtfkghfmgeholeaaGreatDoor
open Go.RowKit

/-- a word as a token -/
def wordT (l : List UInt8) : Tk := if kwB l then ⟨3, 0, l, 0, zeroVal⟩ else ⟨1, 0, [], 0, parseVal l⟩
def wordOk (l : List UInt8) : Bool := kwB l || okV l
/-- the token at the beginning of a text that is no comparison -/
def tokW : List UInt8 → Option (Tk × Nat)
  | [] => none
  | c :: t =>
    if c = 40 then some (Tk.plain 4 0, 1)
    else if c = 41 then some (Tk.plain 5 0, 1)
    else if c = 36 then (if nameB (t.takeWhile smallB) then some (⟨0, 0, t.takeWhile smallB, 0, zeroVal⟩, 1 + (t.takeWhile smallB).length) else none)
    else if wordOk ((c :: t).takeWhile wordB) = true ∧ (c :: t).takeWhile wordB ≠ [] then some (wordT ((c :: t).takeWhile wordB), ((c :: t).takeWhile wordB).length) else none
theorem pre1 (c a : UInt8) (t : List UInt8) : Lib.hasPrefix (c :: t) [a] = (a == c) := by simp [Lib.hasPrefix, List.isPrefixOf]
theorem beq_swap (b d : UInt8) : (b == d) = (d == b) := by
  by_cases h : b = d
  · rw [h]
  · rw [beq_eq_false_iff_ne.2 h, beq_eq_false_iff_ne.2 (fun e => h e.symm)]
theorem pre2 (c a b : UInt8) (t : List UInt8) : Lib.hasPrefix (c :: t) [a, b] = (a == c && t.head? == some b) := by
  cases t with
  | nil => simp [Lib.hasPrefix, List.isPrefixOf]
  | cons d t =>
    simp only [Lib.hasPrefix, List.isPrefixOf, Bool.and_true, List.head?_cons]
    congr 1
    show (b == d) = (d == b)
    exact beq_swap b d
/-- the comparisons in the code's order, and what they are -/
def opL : List (List UInt8 × Int) := [([61], 0), ([33, 61], 1), ([60, 61], 3), ([62, 61], 5), ([60], 2), ([62], 4)]
theorem tok_op {c : UInt8} {t : List UInt8} {i : Nat} {o : List UInt8} {k : Int} (ho : opL[i]? = some (o, k)) (h : Lib.hasPrefix (c :: t) o = true) (hb : ∀ j q r, j < i → opL[j]? = some (q, r) → Lib.hasPrefix (c :: t) q = false) : tokL (c :: t) = some (Tk.plain 2 k, o.length) := by
  have hi : i < 6 := (List.getElem?_eq_some_iff.1 ho).1
  have b2 := hb 2 [60, 61] 3
  have b3 := hb 3 [62, 61] 5
  rw [tokL_cons]
  match i, hi with
  | 0, _ => cases ho; rw [pre1, beq_iff_eq] at h; subst h; rfl
  | 1, _ => cases ho; rw [pre2, Bool.and_eq_true, beq_iff_eq, beq_iff_eq] at h; obtain ⟨rfl, h⟩ := h; simp [h]
  | 2, _ => cases ho; rw [pre2, Bool.and_eq_true, beq_iff_eq, beq_iff_eq] at h; obtain ⟨rfl, h⟩ := h; simp [h]
  | 3, _ => cases ho; rw [pre2, Bool.and_eq_true, beq_iff_eq, beq_iff_eq] at h; obtain ⟨rfl, h⟩ := h; simp [h]
  | 4, _ =>
    cases ho
    rw [pre1, beq_iff_eq] at h
    subst h
    have := b2 (by omega) rfl
    rw [pre2] at this
    have h2 : ¬ t.head? = some 61 := by simpa using this
    simp [h2]
  | 5, _ =>
    cases ho
    rw [pre1, beq_iff_eq] at h
    subst h
    have := b3 (by omega) rfl
    rw [pre2] at this
    have h2 : ¬ t.head? = some 61 := by simpa using this
    simp [h2]
theorem tok_none {c : UInt8} {t : List UInt8} (hb : ∀ j q r, j < 6 → opL[j]? = some (q, r) → Lib.hasPrefix (c :: t) q = false) : tokL (c :: t) = tokW (c :: t) := by
  have b0 := hb 0 [61] 0 (by omega) rfl
  have b1 := hb 1 [33, 61] 1 (by omega) rfl
  have b4 := hb 4 [60] 2 (by omega) rfl
  have b5 := hb 5 [62] 4 (by omega) rfl
  rw [pre1] at b0 b4 b5
  rw [pre2] at b1
  have c0 : ¬ c = 61 := fun e => by subst e; simp at b0
  have c4 : ¬ c = 60 := fun e => by subst e; simp at b4
  have c5 : ¬ c = 62 := fun e => by subst e; simp at b5
  have e := tokL_cons c t
  rw [e]
  show _ = (if c = 40 then some (Tk.plain 4 0, 1) else if c = 41 then some (Tk.plain 5 0, 1) else if c = 36 then (if nameB (t.takeWhile smallB) then some (⟨0, 0, t.takeWhile smallB, 0, zeroVal⟩, 1 + (t.takeWhile smallB).length) else none) else if wordOk ((c :: t).takeWhile wordB) = true ∧ (c :: t).takeWhile wordB ≠ [] then some (wordT ((c :: t).takeWhile wordB), ((c :: t).takeWhile wordB).length) else none)
  by_cases h33 : c = 33
  · subst h33
    have h2 : ¬ t.head? = some 61 := by simpa using b1
    have h3 : ((33 : UInt8) :: t).takeWhile wordB = [] := by
      rw [List.takeWhile_cons, show wordB 33 = false from by decide]; rfl
    rw [if_neg (by decide), if_pos rfl, if_neg h2, if_neg (by decide), if_neg (by decide), if_neg (by decide), if_neg (by rw [h3]; exact fun h => h.2 rfl)]
  · rw [if_neg c0, if_neg h33, if_neg c4, if_neg c5]
    by_cases h40 : c = 40
    · rw [if_pos h40, if_pos h40]
    rw [if_neg h40, if_neg h40]
    by_cases h41 : c = 41
    · rw [if_pos h41, if_pos h41]
    rw [if_neg h41, if_neg h41]
    by_cases h36 : c = 36
    · rw [if_pos h36, if_pos h36]
    rw [if_neg h36, if_neg h36]
    generalize (c :: t).takeWhile wordB = q
    unfold wordOk wordT
    by_cases hq : q = []
    · rw [if_pos hq, if_neg (by simp [hq])]
    · rw [if_neg hq]
      cases hk : kwB q with
      | true => simp [hq]
      | false =>
        cases ho : okV q with
        | true => simp [hq]
        | false => simp
/-- what the code says of the beginning of a text -/
def TokAns (l : List UInt8) (t : Tk) (n : Nat) (b : Bool) : Prop := match tokL l with | some (tk, m) => b = true ∧ t = tk ∧ n = m | none => b = false
theorem tokAns_op {c : UInt8} {t : List UInt8} {i : Nat} {o : List UInt8} {k : Int} (ho : opL[i]? = some (o, k)) (h : Lib.hasPrefix (c :: t) o = true) (hb : ∀ j q r, j < i → opL[j]? = some (q, r) → Lib.hasPrefix (c :: t) q = false) : TokAns (c :: t) (Tk.plain 2 k) o.length true := by
  unfold TokAns
  rw [tok_op ho h hb]
  exact ⟨rfl, rfl, rfl⟩
section
variable {c : UInt8} {t : List UInt8} (hb : ∀ j q r, j < 6 → opL[j]? = some (q, r) → Lib.hasPrefix (c :: t) q = false)
include hb
theorem tokAns_open (h : c = 40) : TokAns (c :: t) (Tk.plain 4 0) 1 true := by
  unfold TokAns; rw [tok_none hb]; subst h; exact ⟨rfl, rfl, rfl⟩
theorem tokAns_close (h : c = 41) : TokAns (c :: t) (Tk.plain 5 0) 1 true := by
  unfold TokAns; rw [tok_none hb]; subst h; exact ⟨rfl, rfl, rfl⟩
theorem tokAns_col (h : c = 36) : TokAns (c :: t) ⟨0, 0, t.takeWhile smallB, 0, zeroVal⟩ (1 + (t.takeWhile smallB).length) (nameB (t.takeWhile smallB)) := by
  unfold TokAns
  rw [tok_none hb]
  subst h
  show match (if nameB (t.takeWhile smallB) then some ((⟨0, 0, t.takeWhile smallB, 0, zeroVal⟩ : Tk), 1 + (t.takeWhile smallB).length) else none) with | some (tk, m) => _ | none => _
  cases hn : nameB (t.takeWhile smallB) with
  | true => exact ⟨rfl, rfl, rfl⟩
  | false => rfl
theorem tokAns_word (h1 : ¬ c = 40) (h2 : ¬ c = 41) (h3 : ¬ c = 36) : TokAns (c :: t) (wordT ((c :: t).takeWhile wordB)) ((c :: t).takeWhile wordB).length (wordOk ((c :: t).takeWhile wordB) && decide ((c :: t).takeWhile wordB ≠ [])) := by
  unfold TokAns
  rw [tok_none hb]
  unfold tokW
  simp only [if_neg h1, if_neg h2, if_neg h3]
  by_cases hq : wordOk ((c :: t).takeWhile wordB) = true ∧ (c :: t).takeWhile wordB ≠ []
  · rw [if_pos hq]
    exact ⟨by simp [hq.1, hq.2], rfl, rfl⟩
  · rw [if_neg hq]
    show _ = false
    simpa using hq
end
theorem fields_kw : Lib.fields [97, 110, 100, 32, 111, 114, 32, 110, 111, 116, 32, 105, 115] = [kAnd, kOr, kNot, kIs] := by decide
theorem contains_kw (s : ByteArray) : Lib.containsS ([kAnd, kOr, kNot, kIs].map fun l => (⟨l.toArray⟩ : ByteArray)) s = kwB s.data.toList := by
  have e : ∀ k : List UInt8, s = ⟨k.toArray⟩ ↔ s.data.toList = k := fun k => by
    constructor
    · rintro rfl; simp
    · intro h; cases s with | mk d => cases d with | mk a => simp at h; subst h; rfl
  have := Lib.containsS_iff ([kAnd, kOr, kNot, kIs].map fun l => (⟨l.toArray⟩ : ByteArray)) s
  simp only [List.map_cons, List.map_nil, List.mem_cons, List.not_mem_nil, or_false, e] at this
  have h2 : kwB s.data.toList = true ↔ (s.data.toList = kAnd ∨ s.data.toList = kOr ∨ s.data.toList = kNot ∨ s.data.toList = kIs) := by
    simp only [kwB, Bool.or_eq_true, beq_iff_eq, or_assoc]
  cases h3 : kwB s.data.toList <;> cases h4 : Lib.containsS ([kAnd, kOr, kNot, kIs].map fun l => (⟨l.toArray⟩ : ByteArray)) s <;> simp_all
end Go.Proofs.YtfkghfmgeholeaaGreatDoor
namespace Go.Proofs.YtfkghfmgeholeaaGreatDoor
open Go.RowKit

/-- a token as a value -/
def Tk.val (t : Tk) : Value := .agg #[.int .i64 t.k, .int .i64 (t.pos : Int), .string ⟨t.text.toArray⟩, .int .i64 t.op, .int .i64 t.v.k, .int .i64 t.v.n, .string t.v.s, .int .u64 t.v.f]
/-- a token's cells -/
def encT1 (t : Tk) : List Value := [.int .i64 t.k, .int .i64 (t.pos : Int), .string ⟨t.text.toArray⟩, .int .i64 t.op, .int .i64 t.v.k, .int .i64 t.v.n, .string t.v.s, .int .u64 t.v.f]
def encTs (l : List Tk) : List Value := l.flatMap encT1
theorem encTs_append (a b : List Tk) : encTs (a ++ b) = encTs a ++ encTs b := List.flatMap_append
theorem encTs_len (l : List Tk) : (encTs l).length = l.length * 8 := by
  induction l with
  | nil => rfl
  | cons t l ih => show (encT1 t ++ encTs l).length = _; rw [List.length_append, ih, List.length_cons]; show 8 + _ = _; omega
theorem encTs_one (t : Tk) : encTs [t] = encT1 t := by simp [encTs]
theorem encTs_get {l : List Tk} {i : Nat} {t : Tk} (h : l[i]? = some t) (k : Nat) (hk : k < 8) : (encTs l)[i * 8 + k]? = (encT1 t)[k]? := by
  induction l generalizing i with
  | nil => simp at h
  | cons a l ih =>
    show (encT1 a ++ encTs l)[i * 8 + k]? = _
    cases i with
    | zero =>
      simp at h
      subst h
      rw [List.getElem?_append_left (by show 0 * 8 + k < 8; omega), Nat.zero_mul, Nat.zero_add]
    | succ j =>
      rw [List.getElem?_append_right (by show 8 ≤ _; omega), show (j + 1) * 8 + k - (encT1 a).length = j * 8 + k from by show _ - 8 = _; omega]
      exact ih (by simpa using h)
theorem encT1_one (t : Tk) : ∀ u ∈ encT1 t, u.oneCell' = true := by
  intro u hu
  simp only [encT1, List.mem_cons, List.not_mem_nil, or_false] at hu
  rcases hu with rfl | rfl | rfl | rfl | rfl | rfl | rfl | rfl <;> rfl
theorem encTs_ones (l : List Tk) : ∀ u ∈ encTs l, u.oneCell' = true := by
  intro u hu
  obtain ⟨t, -, h⟩ := List.mem_flatMap.1 hu
  exact encT1_one t u h
/-- a slice of tokens that the call owns -/
structure TBuf (w wr : World) (v : Value) (l : List Tk) : Prop where
  below : Below w.heap.size w wr
  own : wr.ownsRow w.heap.size 93 8 v l.length (encTs l)
theorem TBuf.start (w : World) : TBuf w w (.slice none 0 0) [] := ⟨Below.refl _ _, rfl, .inl ⟨rfl, rfl⟩⟩
theorem TBuf.later {w wr W : World} {v : Value} {l : List Tk} (h : TBuf w wr v l) (hb : Below wr.heap.size wr W) : TBuf w W v l :=
  ⟨h.below.trans (hb.mono h.below.size), own_later h.own hb⟩
theorem infoTok : (Tryz.prog.info? 93).map (fun i => (i.zero, i.size, i.bytes)) = some (some (.agg #[.int .i64 0, .int .i64 0, .string ⟨#[]⟩, .int .i64 0, .int .i64 0, .int .i64 0, .string ⟨#[]⟩, .int .u64 0]), 8, 80) := by kernel_rfl
/-- a slice of tokens, wherever it lies -/
def TSl (w : World) (v : Value) (l : List Tk) : Prop := (v = .slice none 0 0 ∧ l = []) ∨ ∃ a c, v = .slice (some a) l.length c ∧ l.length ≤ c ∧ ∀ j u, (encTs l)[j]? = some u → w.cell? (a.add j) = some u
theorem TBuf.sl {w wr : World} {v : Value} {l : List Tk} (h : TBuf w wr v l) : TSl wr v l := by
  have ho := h.own
  rcases h.own.2 with ⟨hv, hn⟩ | ⟨g, cap, cur, hv, _, _, hcap, _⟩
  · exact .inl ⟨hv, List.eq_nil_of_length_eq_zero hn⟩
  · subst hv
    exact .inr ⟨_, _, rfl, hcap, fun j u hj => ho.cells rfl j _ hj⟩
theorem tbuf_grown {w wr W w1 : World} {v v' : Value} {l bs : List Tk} (hB : TBuf w wr v l) (hb : Below wr.heap.size wr W) (h1 : w1.ownsRow w.heap.size 93 8 v' (l.length + bs.length) (encTs l ++ encTs bs)) (h2 : W.grownBy w1 v.ownBlock) : TBuf w w1 v' (l ++ bs) := by
  refine ⟨?_, ?_⟩
  · refine (hB.below.trans (hb.mono hB.below.size)).grown h2 (Nat.le_trans hB.below.size hb.size) ?_
    intro k hk
    exact (hB.own.lt k hk).1
  · rw [List.length_append, encTs_append]
    exact h1
/-- what an append of tokens does to a slice of the call's own -/
theorem run_tbuf (W : World) (ty : TypeId) (w wr : World) (v xv : Value) (l bs : List Tk) (hB : TBuf w wr v l) (hlen : l.length + bs.length ≤ 100000) (hb : Below wr.heap.size wr W) (hX : TSl W xv bs) :
    ∃ v' w1, (Builtin.append_ #[73, 73] ty #[v, xv]).run Tryz.prog W = .ok v' w1 ∧ TBuf w w1 v' (l ++ bs) := by
  obtain ⟨i0, hi0, hz0, hz1, hz2⟩ := info_parts infoTok
  rcases hX with ⟨rfl, rfl⟩ | ⟨ad, c, rfl, -, hc⟩
  · refine ⟨v, W, run_append_owned_none (P := Tryz.prog) (w := W) w.heap.size 73 ty 93 i0 8 Tryz.underlying73 hi0 v l.length (encTs l) (own_later hB.own hb), ?_⟩
    rw [List.append_nil]
    exact hB.later hb
  · obtain ⟨v', w1, hr, h2, h3, h4⟩ := run_append_own (P := Tryz.prog) W w.heap.size 73 ty 93 i0 _ 8 80 Tryz.underlying73 hi0 hz0 hz1 hz2 rfl (by decide) v l.length (encTs l) (own_later hB.own hb) ad bs.length c (encTs bs) (encTs_len bs) hc
      (encTs_ones bs) (by unfold maxLen; omega) (by omega) (Nat.le_trans hB.below.size hb.size)
    exact ⟨v', w1, hr, tbuf_grown hB hb h2 h3⟩
theorem wpList_tbuf {ops : Array Oper} {rest : List Oper} {o : Oper} {a : Act} {Q : Exit → Act → World → Prop} {W : World} (hgd : o.guard = none) (s x : Operand)
    (ho : o.op = .call { callee := .builtin .append, args := #[s, x], argTypes := #[73, 73] })
    (w wr : World) (v xv : Value) (l bs : List Tk) (hB : TBuf w wr v l) (hlen : l.length + bs.length ≤ 100000) (hb : Below wr.heap.size wr W) (hX : TSl W xv bs)
    (hs : a.eval s = v) (hx : a.eval x = xv)
    (h : ∀ v' w1, TBuf w w1 v' (l ++ bs) → wpList Tryz.prog ops Q rest (a.put o.dst v') w1) : wpList Tryz.prog ops Q (o :: rest) a W := by
  refine wpList_plain hgd fun K hK => ?_
  obtain ⟨v', w1, hr, h2⟩ := run_tbuf W o.type w wr v xv l bs hB hlen hb hX
  unfold Oper.wp execOp
  simp only [ho, resolve, invoke, builtin, Sem.run_bind, Sem.run_pure, Result.andThen_ok, List.map_toArray, List.map_cons, List.map_nil, hs, hx, hr]
  exact hK _ _ (h v' w1 h2)
theorem step_tbuf {ops : Array Oper} {o : Oper} {a : Act} {K : Act → World → Prop} {Q : Exit → Act → World → Prop} {E : Prop} {W : World} (hgd : o.guard = none) (s x : Operand)
    (ho : o.op = .call { callee := .builtin .append, args := #[s, x], argTypes := #[73, 73] })
    (w wr : World) (v xv : Value) (l bs : List Tk) (hB : TBuf w wr v l) (hlen : l.length + bs.length ≤ 100000) (hb : Below wr.heap.size wr W) (hX : TSl W xv bs)
    (hs : a.eval s = v) (hx : a.eval x = xv)
    (h : ∀ v' w1, TBuf w w1 v' (l ++ bs) → K (a.put o.dst v') w1) :
    if Region.wanted o (yielded ops a.tmps) = true then Oper.wp Tryz.prog o a W K Q else E := by
  have hw : Region.wanted o (yielded ops a.tmps) = true := by simp [Region.wanted, hgd]
  rw [if_pos hw]
  obtain ⟨v', w1, hr, h2⟩ := run_tbuf W o.type w wr v xv l bs hB hlen hb hX
  unfold Oper.wp execOp
  simp only [ho, resolve, invoke, builtin, Sem.run_bind, Sem.run_pure, Result.andThen_ok, List.map_toArray, List.map_cons, List.map_nil, hs, hx, hr]
  exact h v' w1 h2
/-- one token in a block of its own, as a slice -/
theorem TSl.one {W : World} {b c : Nat} {t : Tk} (hc : 1 ≤ c) (h : ∀ k, k < 8 → W.cell? ⟨b, k, none⟩ = (encT1 t)[k]?) : TSl W (.slice (some ⟨b, 0, none⟩) 1 c) [t] := by
  refine .inr ⟨_, _, rfl, hc, fun j u hj => ?_⟩
  rw [encTs_one] at hj
  have hlt : j < 8 := (List.getElem?_eq_some_iff.1 hj).1
  have : (⟨b, 0, none⟩ : Addr).add j = ⟨b, j, none⟩ := by unfold Addr.add; split <;> simp_all
  rw [this, h j hlt, hj]
theorem TSl.cell {W : World} {v : Value} {l : List Tk} {i : Nat} {t : Tk} (h : TSl W v l) (ht : l[i]? = some t) : ∃ a c, v = .slice (some a) l.length c ∧ l.length ≤ c ∧ ∀ k, k < 8 → W.cell? (a.add (i * 8 + k)) = (encT1 t)[k]? := by
  rcases h with ⟨-, rfl⟩ | ⟨a, c, rfl, hc, h⟩
  · simp at ht
  · refine ⟨a, c, rfl, hc, fun k hk => ?_⟩
    have := encTs_get ht k hk
    have hk2 : k < (encT1 t).length := hk
    rw [List.getElem?_eq_getElem hk2] at this ⊢
    exact h _ _ this
/-- a token lies in a block of its own -/
structure TAt (w : World) (b : Nat) (t : Tk) : Prop where
  c0 : w.cell? ⟨b, 0, none⟩ = some (.int .i64 t.k)
  c1 : w.cell? ⟨b, 1, none⟩ = some (.int .i64 (t.pos : Int))
  c2 : w.cell? ⟨b, 2, none⟩ = some (.string ⟨t.text.toArray⟩)
  c3 : w.cell? ⟨b, 3, none⟩ = some (.int .i64 t.op)
  c4 : w.cell? ⟨b, 4, none⟩ = some (.int .i64 t.v.k)
  c5 : w.cell? ⟨b, 5, none⟩ = some (.int .i64 t.v.n)
  c6 : w.cell? ⟨b, 6, none⟩ = some (.string t.v.s)
  c7 : w.cell? ⟨b, 7, none⟩ = some (.int .u64 t.v.f)
  z : ∀ o, w.frozen? ⟨b, o, none⟩ = false
  lt : b < w.heap.size
abbrev Tk.cells (t : Tk) : Array Value := #[.int .i64 t.k, .int .i64 (t.pos : Int), .string ⟨t.text.toArray⟩, .int .i64 t.op, .int .i64 t.v.k, .int .i64 t.v.n, .string t.v.s, .int .u64 t.v.f]
theorem TAt.new (w : World) (t : Tk) (ty : TypeId) : TAt (w.alloc (.cells t.cells ty)) w.heap.size t where
  c0 := by simp
  c1 := by simp
  c2 := by simp
  c3 := by simp
  c4 := by simp
  c5 := by simp
  c6 := by simp
  c7 := by simp
  z := fun o => by simp
  lt := by simp
theorem TAt.below {w w' : World} {b B : Nat} {t : Tk} (h : TAt w b t) (hb : Below B w w') (hB : b < B) : TAt w' b t where
  c0 := (hb.cell hB).trans h.c0
  c1 := (hb.cell hB).trans h.c1
  c2 := (hb.cell hB).trans h.c2
  c3 := (hb.cell hB).trans h.c3
  c4 := (hb.cell hB).trans h.c4
  c5 := (hb.cell hB).trans h.c5
  c6 := (hb.cell hB).trans h.c6
  c7 := (hb.cell hB).trans h.c7
  z := fun o => (hb.frozen hB).trans (h.z o)
  lt := Nat.lt_of_lt_of_le h.lt hb.size
theorem TAt.sl {w : World} {b c : Nat} {t : Tk} (h : TAt w b t) (hc : 1 ≤ c) : TSl w (.slice (some ⟨b, 0, none⟩) 1 c) [t] := by
  refine TSl.one hc fun k hk => ?_
  match k, hk with
  | 0, _ => exact h.c0
  | 1, _ => exact h.c1
  | 2, _ => exact h.c2
  | 3, _ => exact h.c3
  | 4, _ => exact h.c4
  | 5, _ => exact h.c5
  | 6, _ => exact h.c6
  | 7, _ => exact h.c7
theorem TAt.put {w : World} {b : Nat} {t : Tk} (h : TAt w b t) (p : Nat) : TAt (w.setCell ⟨b, 1, none⟩ (.int .i64 (p : Int))) b (t.put p) := by
  have ne : ∀ j : Nat, 1 ≠ j → (⟨b, 1, none⟩ : Addr) ≠ ⟨b, j, none⟩ := fun j e h => by injection h with _ h; exact e h
  obtain ⟨h0, h1, h2, h3, h4, h5, h6, h7, hz, hl⟩ := h
  refine ⟨cell_off h0 (ne 0 (by decide)), cell_at h1 rfl, cell_off h2 (ne 2 (by decide)), cell_off h3 (ne 3 (by decide)), cell_off h4 (ne 4 (by decide)), cell_off h5 (ne 5 (by decide)), cell_off h6 (ne 6 (by decide)), cell_off h7 (ne 7 (by decide)), fun o => ?_, by simpa [World.setCell] using hl⟩
  rw [World.frozen?_setCell]
  exact hz o
abbrev Tk.zero : Tk := ⟨0, 0, [], 0, zeroVal⟩
theorem TAt.zero (w : World) (ty : TypeId) : TAt (w.alloc (.cells #[.int .i64 0, .int .i64 0, .string ⟨#[]⟩, .int .i64 0, .int .i64 0, .int .i64 0, .string ⟨#[]⟩, .int .u64 0] ty)) w.heap.size Tk.zero := TAt.new w Tk.zero ty
end Go.Proofs.YtfkghfmgeholeaaGreatDoor
namespace Go.Proofs.YtfkghfmgeholeaaGreatDoor
open Go.RowKit

/-- the table of blanks holds what the library's text lays -/
structure Spc (w : World) : Prop where
  sp : Lib.TabIs Tryz.prog w "strings.asciiSpace" .u8 Lib.asciiSpaceTab
theorem Spc.below {w w' : World} (h : Spc w) (hb : Below w.heap.size w w') : Spc w' := ⟨var_below h.sp hb⟩
abbrev kwText : ByteArray := ⟨#[97, 110, 100, 32, 111, 114, 32, 110, 111, 116, 32, 105, 115]⟩
abbrev kwVals : Array Value := #[.string ⟨#[97, 110, 100]⟩, .string ⟨#[111, 114]⟩, .string ⟨#[110, 111, 116]⟩, .string ⟨#[105, 115]⟩]
theorem fields_any (w : World) (h : Spc w) : Calls Tryz.prog 83 #[.string kwText] w fun e w' => e = .returned (.slice (some ⟨w.heap.size, 0, none⟩) 4 4) ∧ w' = w.alloc (.cells kwVals 9) := by
  have hc := Tryz.strings_Fields_laid kwText w (by decide) (by
    intro j b hj
    have hm := List.mem_of_getElem? hj
    have : ∀ b ∈ kwText.data.toList, b.toNat < 128 := by decide
    exact this b hm) h.sp
  have e : Lib.fields kwText.data.toList = [kAnd, kOr, kNot, kIs] := fields_kw
  rw [e] at hc
  exact hc
theorem contains_any (w : World) (b : Nat) (t : TypeId) (s : ByteArray) (hb : ∀ j u, kwVals[j]? = some u → w.cell? ⟨b, j, none⟩ = some u) : Calls Tryz.prog 82 #[.slice (some ⟨b, 0, none⟩) 4 4, .string s] w fun e w' => e = .returned (.bool (kwB s.data.toList)) ∧ w' = w := by
  have hc := Tryz.slices_Contains_string b 0 4 4 ([kAnd, kOr, kNot, kIs].map fun l => (⟨l.toArray⟩ : ByteArray)) s w (by decide) (by decide) (by
    intro j hj
    have hj4 : j < 4 := hj
    rw [Nat.zero_add]
    match j, hj4 with
    | 0, _ => exact hb 0 _ rfl
    | 1, _ => exact hb 1 _ rfl
    | 2, _ => exact hb 2 _ rfl
    | 3, _ => exact hb 3 _ rfl)
  rw [List.take_of_length_le (by decide), contains_kw] at hc
  exact hc
theorem kwVals_at (w : World) (t : TypeId) (j : Nat) (u : Value) (h : kwVals[j]? = some u) : (w.alloc (.cells kwVals t)).cell? ⟨w.heap.size, j, none⟩ = some u := by
  rw [World.cell?_alloc_at _ _ _ _ rfl]
  exact h
set_option maxHeartbeats 8000000 in
set_option maxRecDepth 100000 in
theorem word_any (w : World) (hl : Laid w) (hs : Spc w) (s : ByteArray) (hn : s.size ≤ 100000) :
    Calls Tryz.prog 71 #[.string s] w fun e w' => e = .returned (.tuple #[(wordT s.data.toList).val, .bool (wordOk s.data.toList)]) ∧ Below w.heap.size w w' := by
  have Hl := Lib.hid hl; have Hs := Lib.hid hs
  have Hp : Hid (∀ W : World, Laid W → Calls Tryz.prog 84 #[.string s] W fun e w' => e = .returned (.tuple #[(parseVal s.data.toList).v, .bool (okV s.data.toList)]) ∧ Below W.heap.size W w') := Lib.hid fun W h => parseV_any W h s hn
  have Hc : Hid (∀ W b, (∀ j u, kwVals[j]? = some u → W.cell? ⟨b, j, none⟩ = some u) → Calls Tryz.prog 82 #[.slice (some ⟨b, 0, none⟩) 4 4, .string s] W fun e w' => e = .returned (.bool (kwB s.data.toList)) ∧ w' = W) := Lib.hid fun W b h => contains_any W b 0 s h
  have Hf : Hid (∀ W, Spc W → Calls Tryz.prog 83 #[.string kwText] W fun e w' => e = .returned (.slice (some ⟨W.heap.size, 0, none⟩) 4 4) ∧ w' = W.alloc (.cells kwVals 9)) := Lib.hid fun W h => fields_any W h
  have hsd : (⟨s.data.toList.toArray⟩ : ByteArray) = s := rfl
  have hT : wordT s.data.toList = if kwB s.data.toList then ⟨3, 0, s.data.toList, 0, zeroVal⟩ else ⟨1, 0, [], 0, parseVal s.data.toList⟩ := rfl
  have hO : wordOk s.data.toList = (kwB s.data.toList || okV s.data.toList) := rfl
  clear hl hs hn
  cases hk : kwB s.data.toList with
  | true =>
    rw [hk] at hT hO Hc
    simp only [if_true, Bool.true_or] at hT hO
    rw [hT, hO]
    simp only [Tk.val, zeroVal, Val.v, hsd]
    clear hT hO hk hsd Hp
    go_enter Tryz.func71, Tryz.ntmps71
    go_wp2_with fail
    have hb0 : Below w.heap.size w (w.alloc (.cells #[.int .i64 0, .int .i64 0, .string ⟨#[]⟩, .int .i64 0, .int .i64 0, .int .i64 0, .string ⟨#[]⟩, .int .u64 0] 93)) := (Below.refl _ _).alloc (Nat.le_refl _) _
    have ht0 := TAt.zero w 93
    have Hb0 := Lib.hid hb0; have Ht0 := Lib.hid ht0
    clear hb0 ht0
    generalize (w.alloc _) = W0 at Hb0 Ht0 ⊢
    refine (Hf.out W0 (Hs.out.below Hb0.out)).mono ?_
    rintro e w1 ⟨rfl, rfl⟩
    have hcon := Hc.out _ W0.heap.size (kwVals_at W0 9)
    have hb1 : Below w.heap.size w (W0.alloc (.cells kwVals 9)) := Hb0.out.alloc Hb0.out.size _
    have ht1 : TAt (W0.alloc (.cells kwVals 9)) w.heap.size Tk.zero := Ht0.out.below ((Below.refl _ _).alloc (Nat.le_refl _) _) Ht0.out.lt
    have Hcon := Lib.hid hcon; have Hb1 := Lib.hid hb1; have Ht1 := Lib.hid ht1
    clear hcon hb1 ht1 Hc Hf
    generalize (W0.alloc _) = W1 at Hcon Hb1 Ht1 ⊢
    go_wp2_with fail
    refine Hcon.out.mono ?_
    rintro e w2 ⟨rfl, rfl⟩
    obtain ⟨d0, d1, d2, d3, d4, d5, d6, d7, dz, -⟩ := Ht1.out
    have z0 := dz 0; have z1 := dz 1; have z2 := dz 2; have z3 := dz 3; have z4 := dz 4; have z5 := dz 5; have z6 := dz 6; have z7 := dz 7
    simp only [Tk.zero, zeroVal] at d0 d1 d2 d3 d4 d5 d6 d7
    clear dz
    go_wp2_with fail
    exact bodyPost_ret (v := .tuple #[.agg #[.int .i64 3, .int .i64 0, .string s, .int .i64 0, .int .i64 0, .int .i64 0, .string ⟨#[]⟩, .int .u64 0], .bool true]) (by simp [results, Tryz.results71, go_sem, d0, d1, d2, d3, d4, d5, d6, d7]) rfl ⟨rfl, ((((((((Hb1.out).setCell (Nat.le_refl _) _).setCell (Nat.le_refl _) _).setCell (Nat.le_refl _) _).setCell (Nat.le_refl _) _).setCell (Nat.le_refl _) _).setCell (Nat.le_refl _) _).setCell (Nat.le_refl _) _).setCell (Nat.le_refl _) _⟩
  | false =>
    rw [hk] at hT hO Hc
    simp only [Bool.false_eq_true, if_false, Bool.false_or] at hT hO
    rw [hT, hO]
    generalize parseVal s.data.toList = pv at *
    generalize okV s.data.toList = ok at *
    obtain ⟨vk, vn, vs, vf⟩ := pv
    simp only [Tk.val, Val.v] at Hp ⊢
    clear hT hO hk hsd
    have hb0 : Below w.heap.size w (w.alloc (.cells #[.int .i64 0, .int .i64 0, .string ⟨#[]⟩, .int .i64 0, .int .i64 0, .int .i64 0, .string ⟨#[]⟩, .int .u64 0] 93)) := (Below.refl _ _).alloc (Nat.le_refl _) _
    have ht0 := TAt.zero w 93
    have Hb0 := Lib.hid hb0; have Ht0 := Lib.hid ht0
    clear hb0 ht0
    go_enter Tryz.func71, Tryz.ntmps71
    go_wp2_with fail
    generalize (w.alloc _) = W0 at Hb0 Ht0 ⊢
    refine (Hf.out W0 (Hs.out.below Hb0.out)).mono ?_
    rintro e w1 ⟨rfl, rfl⟩
    have hcon := Hc.out _ W0.heap.size (kwVals_at W0 9)
    have hb1 : Below w.heap.size w (W0.alloc (.cells kwVals 9)) := Hb0.out.alloc Hb0.out.size _
    have ht1 : TAt (W0.alloc (.cells kwVals 9)) w.heap.size Tk.zero := Ht0.out.below ((Below.refl _ _).alloc (Nat.le_refl _) _) Ht0.out.lt
    have Hcon := Lib.hid hcon; have Hb1 := Lib.hid hb1; have Ht1 := Lib.hid ht1
    clear hcon hb1 ht1 Hc Hf
    generalize (W0.alloc _) = W1 at Hcon Hb1 Ht1 ⊢
    go_wp2_with fail
    refine Hcon.out.mono ?_
    rintro e w2 ⟨rfl, rfl⟩
    go_wp2_with fail
    refine (Hp.out _ (Hl.out.below Hb1.out)).mono ?_
    rintro e w3 ⟨rfl, hb⟩
    have hb3 := Hb1.out.trans (hb.mono Hb1.out.size)
    have ht3 := Ht1.out.below hb Ht1.out.lt
    have hat := At.new w3 vk vn vs vf 26
    have hb4 : Below w.heap.size w (w3.alloc (.cells #[.int .i64 vk, .int .i64 vn, .string vs, .int .u64 vf] 26)) := hb3.alloc hb3.size _
    have ht4 : TAt (w3.alloc (.cells #[.int .i64 vk, .int .i64 vn, .string vs, .int .u64 vf] 26)) w.heap.size Tk.zero := ht3.below ((Below.refl _ _).alloc (Nat.le_refl _) _) ht3.lt
    have Hat := Lib.hid hat; have Hb4 := Lib.hid hb4; have Ht4 := Lib.hid ht4
    clear hb hb3 ht3 hat hb4 ht4 Hcon Hb1 Ht1 Hb0 Ht0 Hp
    go_upto_region 4 with fail
    generalize (w3.alloc _) = W4 at Hat Hb4 Ht4 ⊢
    obtain ⟨c0, c1, c2, c3, -, -⟩ := Hat.out
    obtain ⟨d0, d1, d2, d3, d4, d5, d6, d7, dz, -⟩ := Ht4.out
    have z0 := dz 0; have z1 := dz 1; have z2 := dz 2; have z3 := dz 3; have z4 := dz 4; have z5 := dz 5; have z6 := dz 6; have z7 := dz 7
    simp only [Tk.zero, zeroVal] at d0 d1 d2 d3 d4 d5 d6 d7
    clear dz
    go_wp2_with fail
    exact bodyPost_ret (v := .tuple #[.agg #[.int .i64 1, .int .i64 0, .string ⟨#[]⟩, .int .i64 0, .int .i64 vk, .int .i64 vn, .string vs, .int .u64 vf], .bool ok]) (by simp [results, Tryz.results71, go_sem, d0, d1, d2, d3, d4, d5, d6, d7]) rfl ⟨rfl, ((((((((Hb4.out).setCell (Nat.le_refl _) _).setCell (Nat.le_refl _) _).setCell (Nat.le_refl _) _).setCell (Nat.le_refl _) _).setCell (Nat.le_refl _) _).setCell (Nat.le_refl _) _).setCell (Nat.le_refl _) _).setCell (Nat.le_refl _) _⟩
end Go.Proofs.YtfkghfmgeholeaaGreatDoor
namespace Go.Proofs.YtfkghfmgeholeaaGreatDoor
open Go.RowKit

def TokPost (l : List UInt8) (e : Ending) : Prop := ∃ t n b, e = .returned (.tuple #[t.val, .int .i64 ((n : Nat) : Int), .bool b]) ∧ TokAns l t n b
theorem prefix_case {c : UInt8} {t : List UInt8} {s o : ByteArray} {W : World} {b : Bool} (h : Calls Tryz.prog 67 #[.string s, .string o] W fun e w' => e = .returned (.bool (Lib.hasPrefix (c :: t) o.data.toList)) ∧ w' = W) (hb : Lib.hasPrefix (c :: t) o.data.toList = b) : Calls Tryz.prog 67 #[.string s, .string o] W fun e w' => e = .returned (.bool b) ∧ w' = W := by
  rwa [hb] at h
theorem below_tok {B : Nat} {w W : World} {b : Nat} (h : Below B w W) (hb : B ≤ b) (v0 v1 v2 v3 v4 v5 v6 v7 : Value) : Below B w ((((((((W.setCell ⟨b, 0, none⟩ v0).setCell ⟨b, 1, none⟩ v1).setCell ⟨b, 2, none⟩ v2).setCell ⟨b, 3, none⟩ v3).setCell ⟨b, 4, none⟩ v4).setCell ⟨b, 5, none⟩ v5).setCell ⟨b, 6, none⟩ v6).setCell ⟨b, 7, none⟩ v7) :=
  (((((((h.setCell hb _).setCell hb _).setCell hb _).setCell hb _).setCell hb _).setCell hb _).setCell hb _).setCell hb _
abbrev opTexts : Array Value := #[.string ⟨#[61]⟩, .string ⟨#[33, 61]⟩, .string ⟨#[60, 61]⟩, .string ⟨#[62, 61]⟩, .string ⟨#[60]⟩, .string ⟨#[62]⟩]
abbrev opKinds : Array Value := #[.int .i64 0, .int .i64 1, .int .i64 3, .int .i64 5, .int .i64 2, .int .i64 4]
set_option maxRecDepth 100000 in
theorem ixText0 (W : World) : (Instr.index 103 (.agg opTexts) (.int .i64 0)).run Tryz.prog W = .ok (.string ⟨#[61]⟩) W := by kernel_rfl
theorem ixKind0 (W : World) : (Instr.index 105 (.agg opKinds) (.int .i64 0)).run Tryz.prog W = .ok (.int .i64 0) W := by kernel_rfl
theorem ixText1 (W : World) : (Instr.index 103 (.agg opTexts) (.int .i64 1)).run Tryz.prog W = .ok (.string ⟨#[33, 61]⟩) W := by kernel_rfl
theorem ixKind1 (W : World) : (Instr.index 105 (.agg opKinds) (.int .i64 1)).run Tryz.prog W = .ok (.int .i64 1) W := by kernel_rfl
theorem ixText2 (W : World) : (Instr.index 103 (.agg opTexts) (.int .i64 2)).run Tryz.prog W = .ok (.string ⟨#[60, 61]⟩) W := by kernel_rfl
theorem ixKind2 (W : World) : (Instr.index 105 (.agg opKinds) (.int .i64 2)).run Tryz.prog W = .ok (.int .i64 3) W := by kernel_rfl
theorem ixText3 (W : World) : (Instr.index 103 (.agg opTexts) (.int .i64 3)).run Tryz.prog W = .ok (.string ⟨#[62, 61]⟩) W := by kernel_rfl
theorem ixKind3 (W : World) : (Instr.index 105 (.agg opKinds) (.int .i64 3)).run Tryz.prog W = .ok (.int .i64 5) W := by kernel_rfl
theorem ixText4 (W : World) : (Instr.index 103 (.agg opTexts) (.int .i64 4)).run Tryz.prog W = .ok (.string ⟨#[60]⟩) W := by kernel_rfl
theorem ixKind4 (W : World) : (Instr.index 105 (.agg opKinds) (.int .i64 4)).run Tryz.prog W = .ok (.int .i64 2) W := by kernel_rfl
theorem ixText5 (W : World) : (Instr.index 103 (.agg opTexts) (.int .i64 5)).run Tryz.prog W = .ok (.string ⟨#[62]⟩) W := by kernel_rfl
theorem ixKind5 (W : World) : (Instr.index 105 (.agg opKinds) (.int .i64 5)).run Tryz.prog W = .ok (.int .i64 4) W := by kernel_rfl
theorem opL_step {l : List UInt8} {k : Nat} {o : List UInt8} {r : Int} (h : ∀ j q r, j < k → opL[j]? = some (q, r) → Lib.hasPrefix l q = false) (ho : opL[k]? = some (o, r)) (hb : Lib.hasPrefix l o = false) : ∀ j q r, j < k + 1 → opL[j]? = some (q, r) → Lib.hasPrefix l q = false := fun j q r' hj hq => by
  rcases Nat.lt_or_ge j k with h1 | h1
  · exact h j q r' h1 hq
  · obtain rfl : j = k := by omega
    rw [ho] at hq
    cases hq
    exact hb
set_option maxHeartbeats 16000000 in
set_option maxRecDepth 100000 in
theorem token_any (w : World) (hl : Laid w) (hs : Spc w) (s : ByteArray) (c : UInt8) (t : List UInt8) (hc : s.data.toList = c :: t) (hn : s.size ≤ 100000) :
    Calls Tryz.prog 52 #[.string s] w fun e w' => TokPost (c :: t) e ∧ Below w.heap.size w w' := by
  have Hl := Lib.hid hl; have Hs := Lib.hid hs; have Hc := Lib.hid hc; have Hn := Lib.hid hn
  have Hp : Hid (∀ W o, Calls Tryz.prog 67 #[.string s, .string o] W fun e w' => e = .returned (.bool (Lib.hasPrefix (c :: t) o.data.toList)) ∧ w' = W) := Lib.hid fun W o => by
    rw [← hc]
    exact Tryz.strings_HasPrefix s o W
  have hb0 : Below w.heap.size w (w.alloc (.cells #[.int .i64 0, .int .i64 0, .string ⟨#[]⟩, .int .i64 0, .int .i64 0, .int .i64 0, .string ⟨#[]⟩, .int .u64 0] 93)) := (Below.refl _ _).alloc (Nat.le_refl _) _
  have ht0 := TAt.zero w 93
  have Hb0 := Lib.hid hb0; have Ht0 := Lib.hid ht0
  have hsz : 0 < s.size := by rw [Lib.size_eq, hc]; simp
  have Hsz := Lib.hid hsz
  clear hl hs hn hb0 ht0 hc hsz
  go_enter Tryz.func52, Tryz.ntmps52
  go_wp2_with fail
  generalize (w.alloc _) = W0 at Hb0 Ht0 ⊢
  obtain ⟨d0, d1, d2, d3, d4, d5, d6, d7, dz, -⟩ := Ht0.out
  have z0 := dz 0; have z1 := dz 1; have z2 := dz 2; have z3 := dz 3; have z4 := dz 4; have z5 := dz 5; have z6 := dz 6; have z7 := dz 7
  simp only [Tk.zero, zeroVal] at d0 d1 d2 d3 d4 d5 d6 d7
  clear dz
  go_loopg [12] 6 (fun g i wx => ∃ (k : Nat) (I : Int), Hid (k + g = 6) ∧ Hid (I = (k : Int)) ∧ i = .int .i64 I ∧ wx = W0 ∧ Hid (∀ j q r, j < k → opL[j]? = some (q, r) → Lib.hasPrefix (c :: t) q = false))
  case atStart => exact ⟨0, 0, Lib.hid rfl, Lib.hid rfl, rfl, rfl, Lib.hid fun j q r hj => by omega⟩
  case round =>
    obtain ⟨k, I, Hk, HI, rfl, rfl, HA⟩ := hrel
    rcases (by have := Hk.out; omega : k = 0 ∨ k = 1 ∨ k = 2 ∨ k = 3 ∨ k = 4 ∨ k = 5 ∨ k = 6) with hk | hk | hk | hk | hk | hk | hk
    · subst hk
      obtain rfl : I = 0 := by have := HI.out; omega
      cases hb : Lib.hasPrefix (c :: t) [61] with
      | true =>
        have Hq := Lib.hid (prefix_case (Hp.out wr ⟨#[61]⟩) hb)
        have Ha : Hid (TokAns (c :: t) (Tk.plain 2 0) 1 true) := Lib.hid (tokAns_op (i := 0) (o := [61]) rfl hb HA.out)
        have ix := ixText0 wr
        have iy := ixKind0 wr
        clear hb Hp
        go_wp2_with fail
        refine Hq.out.mono ?_
        rintro e w1 ⟨rfl, rfl⟩
        go_wp2_with fail
        exact bodyPost_ret (v := .tuple #[.agg #[.int .i64 2, .int .i64 0, .string ⟨#[]⟩, .int .i64 0, .int .i64 0, .int .i64 0, .string ⟨#[]⟩, .int .u64 0], .int .i64 1, .bool true]) (by simp [results, Tryz.results52, go_sem, d0, d1, d2, d3, d4, d5, d6, d7]) rfl ⟨⟨Tk.plain 2 0, 1, true, rfl, Ha.out⟩, below_tok Hb0.out (Nat.le_refl _) _ _ _ _ _ _ _ _⟩
      | false =>
        have Hq := Lib.hid (prefix_case (Hp.out wr ⟨#[61]⟩) hb)
        have HA2 := Lib.hid (opL_step HA.out (show opL[0]? = some ([61], 0) from rfl) hb)
        have ix := ixText0 wr
        have iy := ixKind0 wr
        clear hb Hp
        go_wp2_with fail
        refine Hq.out.mono ?_
        rintro e w1 ⟨rfl, rfl⟩
        go_wp2_with fail
        go_roundg 5
        case measure => have := Hk.out; omega
        case rel => exact ⟨1, 1, Lib.hid rfl, Lib.hid rfl, rfl, rfl, HA2⟩
    · subst hk
      obtain rfl : I = 1 := by have := HI.out; omega
      cases hb : Lib.hasPrefix (c :: t) [33, 61] with
      | true =>
        have Hq := Lib.hid (prefix_case (Hp.out wr ⟨#[33, 61]⟩) hb)
        have Ha : Hid (TokAns (c :: t) (Tk.plain 2 1) 2 true) := Lib.hid (tokAns_op (i := 1) (o := [33, 61]) rfl hb HA.out)
        have ix := ixText1 wr
        have iy := ixKind1 wr
        clear hb Hp
        go_wp2_with fail
        refine Hq.out.mono ?_
        rintro e w1 ⟨rfl, rfl⟩
        go_wp2_with fail
        exact bodyPost_ret (v := .tuple #[.agg #[.int .i64 2, .int .i64 0, .string ⟨#[]⟩, .int .i64 1, .int .i64 0, .int .i64 0, .string ⟨#[]⟩, .int .u64 0], .int .i64 2, .bool true]) (by simp [results, Tryz.results52, go_sem, d0, d1, d2, d3, d4, d5, d6, d7]) rfl ⟨⟨Tk.plain 2 1, 2, true, rfl, Ha.out⟩, below_tok Hb0.out (Nat.le_refl _) _ _ _ _ _ _ _ _⟩
      | false =>
        have Hq := Lib.hid (prefix_case (Hp.out wr ⟨#[33, 61]⟩) hb)
        have HA2 := Lib.hid (opL_step HA.out (show opL[1]? = some ([33, 61], 1) from rfl) hb)
        have ix := ixText1 wr
        have iy := ixKind1 wr
        clear hb Hp
        go_wp2_with fail
        refine Hq.out.mono ?_
        rintro e w1 ⟨rfl, rfl⟩
        go_wp2_with fail
        go_roundg 4
        case measure => have := Hk.out; omega
        case rel => exact ⟨2, 2, Lib.hid rfl, Lib.hid rfl, rfl, rfl, HA2⟩
    · subst hk
      obtain rfl : I = 2 := by have := HI.out; omega
      cases hb : Lib.hasPrefix (c :: t) [60, 61] with
      | true =>
        have Hq := Lib.hid (prefix_case (Hp.out wr ⟨#[60, 61]⟩) hb)
        have Ha : Hid (TokAns (c :: t) (Tk.plain 2 3) 2 true) := Lib.hid (tokAns_op (i := 2) (o := [60, 61]) rfl hb HA.out)
        have ix := ixText2 wr
        have iy := ixKind2 wr
        clear hb Hp
        go_wp2_with fail
        refine Hq.out.mono ?_
        rintro e w1 ⟨rfl, rfl⟩
        go_wp2_with fail
        exact bodyPost_ret (v := .tuple #[.agg #[.int .i64 2, .int .i64 0, .string ⟨#[]⟩, .int .i64 3, .int .i64 0, .int .i64 0, .string ⟨#[]⟩, .int .u64 0], .int .i64 2, .bool true]) (by simp [results, Tryz.results52, go_sem, d0, d1, d2, d3, d4, d5, d6, d7]) rfl ⟨⟨Tk.plain 2 3, 2, true, rfl, Ha.out⟩, below_tok Hb0.out (Nat.le_refl _) _ _ _ _ _ _ _ _⟩
      | false =>
        have Hq := Lib.hid (prefix_case (Hp.out wr ⟨#[60, 61]⟩) hb)
        have HA2 := Lib.hid (opL_step HA.out (show opL[2]? = some ([60, 61], 3) from rfl) hb)
        have ix := ixText2 wr
        have iy := ixKind2 wr
        clear hb Hp
        go_wp2_with fail
        refine Hq.out.mono ?_
        rintro e w1 ⟨rfl, rfl⟩
        go_wp2_with fail
        go_roundg 3
        case measure => have := Hk.out; omega
        case rel => exact ⟨3, 3, Lib.hid rfl, Lib.hid rfl, rfl, rfl, HA2⟩
    · subst hk
      obtain rfl : I = 3 := by have := HI.out; omega
      cases hb : Lib.hasPrefix (c :: t) [62, 61] with
      | true =>
        have Hq := Lib.hid (prefix_case (Hp.out wr ⟨#[62, 61]⟩) hb)
        have Ha : Hid (TokAns (c :: t) (Tk.plain 2 5) 2 true) := Lib.hid (tokAns_op (i := 3) (o := [62, 61]) rfl hb HA.out)
        have ix := ixText3 wr
        have iy := ixKind3 wr
        clear hb Hp
        go_wp2_with fail
        refine Hq.out.mono ?_
        rintro e w1 ⟨rfl, rfl⟩
        go_wp2_with fail
        exact bodyPost_ret (v := .tuple #[.agg #[.int .i64 2, .int .i64 0, .string ⟨#[]⟩, .int .i64 5, .int .i64 0, .int .i64 0, .string ⟨#[]⟩, .int .u64 0], .int .i64 2, .bool true]) (by simp [results, Tryz.results52, go_sem, d0, d1, d2, d3, d4, d5, d6, d7]) rfl ⟨⟨Tk.plain 2 5, 2, true, rfl, Ha.out⟩, below_tok Hb0.out (Nat.le_refl _) _ _ _ _ _ _ _ _⟩
      | false =>
        have Hq := Lib.hid (prefix_case (Hp.out wr ⟨#[62, 61]⟩) hb)
        have HA2 := Lib.hid (opL_step HA.out (show opL[3]? = some ([62, 61], 5) from rfl) hb)
        have ix := ixText3 wr
        have iy := ixKind3 wr
        clear hb Hp
        go_wp2_with fail
        refine Hq.out.mono ?_
        rintro e w1 ⟨rfl, rfl⟩
        go_wp2_with fail
        go_roundg 2
        case measure => have := Hk.out; omega
        case rel => exact ⟨4, 4, Lib.hid rfl, Lib.hid rfl, rfl, rfl, HA2⟩
    · subst hk
      obtain rfl : I = 4 := by have := HI.out; omega
      cases hb : Lib.hasPrefix (c :: t) [60] with
      | true =>
        have Hq := Lib.hid (prefix_case (Hp.out wr ⟨#[60]⟩) hb)
        have Ha : Hid (TokAns (c :: t) (Tk.plain 2 2) 1 true) := Lib.hid (tokAns_op (i := 4) (o := [60]) rfl hb HA.out)
        have ix := ixText4 wr
        have iy := ixKind4 wr
        clear hb Hp
        go_wp2_with fail
        refine Hq.out.mono ?_
        rintro e w1 ⟨rfl, rfl⟩
        go_wp2_with fail
        exact bodyPost_ret (v := .tuple #[.agg #[.int .i64 2, .int .i64 0, .string ⟨#[]⟩, .int .i64 2, .int .i64 0, .int .i64 0, .string ⟨#[]⟩, .int .u64 0], .int .i64 1, .bool true]) (by simp [results, Tryz.results52, go_sem, d0, d1, d2, d3, d4, d5, d6, d7]) rfl ⟨⟨Tk.plain 2 2, 1, true, rfl, Ha.out⟩, below_tok Hb0.out (Nat.le_refl _) _ _ _ _ _ _ _ _⟩
      | false =>
        have Hq := Lib.hid (prefix_case (Hp.out wr ⟨#[60]⟩) hb)
        have HA2 := Lib.hid (opL_step HA.out (show opL[4]? = some ([60], 2) from rfl) hb)
        have ix := ixText4 wr
        have iy := ixKind4 wr
        clear hb Hp
        go_wp2_with fail
        refine Hq.out.mono ?_
        rintro e w1 ⟨rfl, rfl⟩
        go_wp2_with fail
        go_roundg 1
        case measure => have := Hk.out; omega
        case rel => exact ⟨5, 5, Lib.hid rfl, Lib.hid rfl, rfl, rfl, HA2⟩
    · subst hk
      obtain rfl : I = 5 := by have := HI.out; omega
      cases hb : Lib.hasPrefix (c :: t) [62] with
      | true =>
        have Hq := Lib.hid (prefix_case (Hp.out wr ⟨#[62]⟩) hb)
        have Ha : Hid (TokAns (c :: t) (Tk.plain 2 4) 1 true) := Lib.hid (tokAns_op (i := 5) (o := [62]) rfl hb HA.out)
        have ix := ixText5 wr
        have iy := ixKind5 wr
        clear hb Hp
        go_wp2_with fail
        refine Hq.out.mono ?_
        rintro e w1 ⟨rfl, rfl⟩
        go_wp2_with fail
        exact bodyPost_ret (v := .tuple #[.agg #[.int .i64 2, .int .i64 0, .string ⟨#[]⟩, .int .i64 4, .int .i64 0, .int .i64 0, .string ⟨#[]⟩, .int .u64 0], .int .i64 1, .bool true]) (by simp [results, Tryz.results52, go_sem, d0, d1, d2, d3, d4, d5, d6, d7]) rfl ⟨⟨Tk.plain 2 4, 1, true, rfl, Ha.out⟩, below_tok Hb0.out (Nat.le_refl _) _ _ _ _ _ _ _ _⟩
      | false =>
        have Hq := Lib.hid (prefix_case (Hp.out wr ⟨#[62]⟩) hb)
        have HA2 := Lib.hid (opL_step HA.out (show opL[5]? = some ([62], 4) from rfl) hb)
        have ix := ixText5 wr
        have iy := ixKind5 wr
        clear hb Hp
        go_wp2_with fail
        refine Hq.out.mono ?_
        rintro e w1 ⟨rfl, rfl⟩
        go_wp2_with fail
        go_roundg 0
        case measure => have := Hk.out; omega
        case rel => exact ⟨6, 6, Lib.hid rfl, Lib.hid rfl, rfl, rfl, HA2⟩
    · subst hk
      obtain rfl : I = 6 := by have := HI.out; omega
      have hs0 : s[0]'Hsz.out = c := by
        have h1 := byte_at s 0 Hsz.out
        rw [Hc.out] at h1
        exact (Option.some.inj h1).symm
      have hsp := Hsz.out
      have hext : (s.extract 1 s.size).data.toList = t := by
        rw [Lib.extract_eq, Hc.out]
        show List.take (s.size - 1) t = t
        exact List.take_of_length_le (by rw [Lib.size_eq, Hc.out]; simp)
      have hexs : (s.extract 1 s.size).size ≤ 100000 := by
        rw [Lib.size_eq, hext]
        have := Hn.out
        rw [Lib.size_eq, Hc.out, List.length_cons] at this
        omega
      by_cases h40 : c = 40
      · have hq : ((c.toNat : Int) == 40) = true := by rw [h40]; rfl
        have Ha := Lib.hid (tokAns_open HA.out h40)
        clear h40 hext hexs
        go_wp2_with fail
        exact bodyPost_ret (v := .tuple #[.agg #[.int .i64 4, .int .i64 0, .string ⟨#[]⟩, .int .i64 0, .int .i64 0, .int .i64 0, .string ⟨#[]⟩, .int .u64 0], .int .i64 1, .bool true]) (by simp [results, Tryz.results52, go_sem, d0, d1, d2, d3, d4, d5, d6, d7]) rfl ⟨⟨Tk.plain 4 0, 1, true, rfl, Ha.out⟩, below_tok Hb0.out (Nat.le_refl _) _ _ _ _ _ _ _ _⟩
      have hq1 : ((c.toNat : Int) == 40) = false := beq_eq_false_iff_ne.2 fun e => h40 (UInt8.toNat_inj.1 (by have h9 : UInt8.toNat 40 = 40 := rfl; omega))
      by_cases h41 : c = 41
      · have hq : ((c.toNat : Int) == 41) = true := by rw [h41]; rfl
        have Ha := Lib.hid (tokAns_close HA.out h41)
        clear h40 h41 hext hexs
        go_wp2_with fail
        exact bodyPost_ret (v := .tuple #[.agg #[.int .i64 5, .int .i64 0, .string ⟨#[]⟩, .int .i64 0, .int .i64 0, .int .i64 0, .string ⟨#[]⟩, .int .u64 0], .int .i64 1, .bool true]) (by simp [results, Tryz.results52, go_sem, d0, d1, d2, d3, d4, d5, d6, d7]) rfl ⟨⟨Tk.plain 5 0, 1, true, rfl, Ha.out⟩, below_tok Hb0.out (Nat.le_refl _) _ _ _ _ _ _ _ _⟩
      have hq2 : ((c.toNat : Int) == 41) = false := beq_eq_false_iff_ne.2 fun e => h41 (UInt8.toNat_inj.1 (by have h9 : UInt8.toNat 41 = 41 := rfl; omega))
      by_cases h36 : c = 36
      · have hq : ((c.toNat : Int) == 36) = true := by rw [h36]; rfl
        have Ha := Lib.hid (tokAns_col HA.out h36)
        obtain ⟨X, hX⟩ : ∃ X : ByteArray, X = ⟨(t.takeWhile smallB).toArray⟩ := ⟨_, rfl⟩
        have hXl : X.data.toList = t.takeWhile smallB := by rw [hX]
        have hXs : X.size = (t.takeWhile smallB).length := by rw [Lib.size_eq, hXl]
        have Hr : Hid (∀ W : World, Calls Tryz.prog 68 #[.string (s.extract 1 s.size), .func (.func 69) #[] #[]] W fun e w' => e = .returned (.string X) ∧ w' = W) := Lib.hid fun W => by
          have := row_any W 69 smallB (enters_of Tryz.func69 (by kernel_rfl) rfl) small_any (s.extract 1 s.size) hexs
          rwa [hext, ← hX] at this
        have hXb : X.size ≤ 100000 := by
          have h1 := takeWhile_length smallB t
          have := Hn.out
          rw [Lib.size_eq, Hc.out, List.length_cons] at this
          omega
        have Hm : Hid (∀ W : World, Calls Tryz.prog 40 #[.string X] W fun e w' => e = .returned (.bool (nameB (t.takeWhile smallB))) ∧ Below W.heap.size W w') := Lib.hid fun W => by
          have := nameL_any W X hXb
          rwa [hXl] at this
        have HX := Lib.hid (show (⟨(t.takeWhile smallB).toArray⟩ : ByteArray) = X from hX.symm)
        have HXs := Lib.hid hXs
        have hXi : (X.size : Int) ≤ 100000 := by omega
        generalize nameB (t.takeWhile smallB) = bb at *
        clear h40 h41 h36 hext hexs hX hXl hXs hXb Hp
        go_wp2_with fail
        refine (Hr.out _).mono ?_
        rintro e w1 ⟨rfl, rfl⟩
        go_wp2_with fail
        refine (Hm.out _).mono ?_
        rintro e w2 ⟨rfl, hb⟩
        have hb2 := Hb0.out.trans (hb.mono Hb0.out.size)
        have ht2 := Ht0.out.below hb Ht0.out.lt
        have Hb2 := Lib.hid hb2
        clear d0 d1 d2 d3 d4 d5 d6 d7 z0 z1 z2 z3 z4 z5 z6 z7 hb hb2
        obtain ⟨d0, d1, d2, d3, d4, d5, d6, d7, dz, -⟩ := ht2
        have z0 := dz 0; have z1 := dz 1; have z2 := dz 2; have z3 := dz 3; have z4 := dz 4; have z5 := dz 5; have z6 := dz 6; have z7 := dz 7
        simp only [Tk.zero, zeroVal] at d0 d1 d2 d3 d4 d5 d6 d7
        clear dz
        go_wp2_with fail
        exact bodyPost_ret (v := .tuple #[.agg #[.int .i64 0, .int .i64 0, .string X, .int .i64 0, .int .i64 0, .int .i64 0, .string ⟨#[]⟩, .int .u64 0], .int .i64 (1 + (X.size : Int)), .bool bb]) (by simp [results, Tryz.results52, go_sem, d0, d1, d2, d3, d4, d5, d6, d7]) rfl ⟨⟨⟨0, 0, t.takeWhile smallB, 0, zeroVal⟩, 1 + (t.takeWhile smallB).length, bb, by rw [← HXs.out, ← HX.out]; rfl, Ha.out⟩, below_tok Hb2.out (Nat.le_refl _) _ _ _ _ _ _ _ _⟩
      have hq3 : ((c.toNat : Int) == 36) = false := beq_eq_false_iff_ne.2 fun e => h36 (UInt8.toNat_inj.1 (by have h9 : UInt8.toNat 36 = 36 := rfl; omega))
      have Ha := Lib.hid (tokAns_word HA.out h40 h41 h36)
      obtain ⟨X, hX⟩ : ∃ X : ByteArray, X = ⟨((c :: t).takeWhile wordB).toArray⟩ := ⟨_, rfl⟩
      have hXl : X.data.toList = (c :: t).takeWhile wordB := by rw [hX]
      have hXs : X.size = ((c :: t).takeWhile wordB).length := by rw [Lib.size_eq, hXl]
      have Hr : Hid (∀ W : World, Calls Tryz.prog 68 #[.string s, .func (.func 70) #[] #[]] W fun e w' => e = .returned (.string X) ∧ w' = W) := Lib.hid fun W => by
        have := row_any W 70 wordB (enters_of Tryz.func70 (by kernel_rfl) rfl) wordy_any s Hn.out
        rwa [Hc.out, ← hX] at this
      have hXb : X.size ≤ 100000 := by
        have h1 := takeWhile_length wordB (c :: t)
        have := Hn.out
        rw [Lib.size_eq, Hc.out] at this
        omega
      have Hw : Hid (∀ W : World, Laid W → Spc W → Calls Tryz.prog 71 #[.string X] W fun e w' => e = .returned (.tuple #[(wordT ((c :: t).takeWhile wordB)).val, .bool (wordOk ((c :: t).takeWhile wordB))]) ∧ Below W.heap.size W w') := Lib.hid fun W h1 h2 => by
        have := word_any W h1 h2 X hXb
        rwa [hXl] at this
      have hdec : decide ((c :: t).takeWhile wordB ≠ []) = !X.toList.isEmpty := by
        rw [ByteArray.toList_eq, hXl]
        cases (c :: t).takeWhile wordB <;> rfl
      rw [hdec] at Ha
      have hXi : (X.size : Int) ≤ 100000 := by omega
      have HXs := Lib.hid hXs
      clear hdec h40 h41 h36 hext hexs hX hXl hXb hXs Hp
      generalize (wordT ((c :: t).takeWhile wordB)) = T at *
      generalize (wordOk ((c :: t).takeWhile wordB)) = ok at *
      obtain ⟨tk, tp, tx, op, ⟨vk, vn, vs, vf⟩⟩ := T
      simp only [Tk.val] at Hw
      go_wp2_with fail
      refine (Hr.out _).mono ?_
      rintro e w1 ⟨rfl, rfl⟩
      go_wp2_with fail
      refine (Hw.out _ (Hl.out.below Hb0.out) (Hs.out.below Hb0.out)).mono ?_
      rintro e w2 ⟨rfl, hb⟩
      have hb2 := Hb0.out.trans (hb.mono Hb0.out.size)
      have ht2 := Ht0.out.below hb Ht0.out.lt
      have hat := TAt.new w2 ⟨tk, tp, tx, op, ⟨vk, vn, vs, vf⟩⟩ 93
      have hb4 : Below w.heap.size w (w2.alloc (.cells (Tk.cells ⟨tk, tp, tx, op, ⟨vk, vn, vs, vf⟩⟩) 93)) := hb2.alloc hb2.size _
      have ht4 : TAt (w2.alloc (.cells (Tk.cells ⟨tk, tp, tx, op, ⟨vk, vn, vs, vf⟩⟩) 93)) w.heap.size Tk.zero := ht2.below ((Below.refl _ _).alloc (Nat.le_refl _) _) ht2.lt
      have Hat := Lib.hid hat; have Hb4 := Lib.hid hb4; have Ht4 := Lib.hid ht4
      clear hb hb2 ht2 hat hb4 ht4 d0 d1 d2 d3 d4 d5 d6 d7 z0 z1 z2 z3 z4 z5 z6 z7 Hw Hr
      go_upto_region 17 with fail
      generalize (w2.alloc _) = W4 at Hat Hb4 Ht4 ⊢
      obtain ⟨c0, c1, c2, c3, c4, c5, c6, c7, -, -⟩ := Hat.out
      obtain ⟨d0, d1, d2, d3, d4, d5, d6, d7, dz, -⟩ := Ht4.out
      have z0 := dz 0; have z1 := dz 1; have z2 := dz 2; have z3 := dz 3; have z4 := dz 4; have z5 := dz 5; have z6 := dz 6; have z7 := dz 7
      simp only [Tk.zero, zeroVal] at d0 d1 d2 d3 d4 d5 d6 d7
      simp only at c0 c1 c2 c3 c4 c5 c6 c7
      clear dz
      cases ok with
      | true =>
        rw [Bool.true_and] at Ha
        go_wp2_with fail
        exact bodyPost_ret (v := .tuple #[.agg #[.int .i64 tk, .int .i64 (tp : Int), .string ⟨tx.toArray⟩, .int .i64 op, .int .i64 vk, .int .i64 vn, .string vs, .int .u64 vf], .int .i64 (X.size : Int), .bool (!X.toList.isEmpty)]) (by simp [results, Tryz.results52, go_sem, d0, d1, d2, d3, d4, d5, d6, d7]) rfl ⟨⟨⟨tk, tp, tx, op, ⟨vk, vn, vs, vf⟩⟩, _, !X.toList.isEmpty, by rw [HXs.out]; rfl, Ha.out⟩, below_tok Hb4.out (Nat.le_refl _) _ _ _ _ _ _ _ _⟩
      | false =>
        rw [Bool.false_and] at Ha
        go_wp2_with fail
        exact bodyPost_ret (v := .tuple #[.agg #[.int .i64 tk, .int .i64 (tp : Int), .string ⟨tx.toArray⟩, .int .i64 op, .int .i64 vk, .int .i64 vn, .string vs, .int .u64 vf], .int .i64 (X.size : Int), .bool false]) (by simp [results, Tryz.results52, go_sem, d0, d1, d2, d3, d4, d5, d6, d7]) rfl ⟨⟨⟨tk, tp, tx, op, ⟨vk, vn, vs, vf⟩⟩, _, false, by rw [HXs.out]; rfl, Ha.out⟩, below_tok Hb4.out (Nat.le_refl _) _ _ _ _ _ _ _ _⟩
end Go.Proofs.YtfkghfmgeholeaaGreatDoor
namespace Go.Proofs.YtfkghfmgeholeaaGreatDoor
open Go.RowKit

def lexE (r : Option (List Tk) × Nat) : Int := if r.1 = none then 160 else 0
def lexT (r : Option (List Tk) × Nat) : List Tk := r.1.getD []
/-- what lex.Lex hands back -/
def LexAns (w w' : World) (r : Option (List Tk) × Nat) (e : Ending) : Prop := ∃ v, e = .returned (.tuple #[v, .int .i64 (r.2 : Int), .int .i64 (lexE r)]) ∧ TBuf w w' v (lexT r)
theorem lexAns_none {w W : World} {r : Option (List Tk) × Nat} {p : Nat} {P : Int} (h : r = (none, p)) (hp : P = (p : Int)) (hb : Below w.heap.size w W) : LexAns w W r (.returned (.tuple #[.slice none 0 0, .int .i64 P, .int .i64 160])) := by
  subst h hp
  exact ⟨_, rfl, (TBuf.start w).later hb⟩
theorem lexAns_some {w W : World} {r : Option (List Tk) × Nat} {x : List Tk} {v : Value} (h : r = (some x, 0)) (hb : TBuf w W v x) : LexAns w W r (.returned (.tuple #[v, .int .i64 0, .int .i64 0])) := by
  subst h
  exact ⟨_, rfl, hb⟩
theorem below_own {w wr W : World} {v : Value} {l : List Tk} (h : TBuf w wr v l) (hb : Below wr.heap.size wr W) : Below w.heap.size w W := h.below.trans (hb.mono h.below.size)
set_option maxHeartbeats 16000000 in
set_option maxRecDepth 100000 in
theorem lex_any (w : World) (hl : Laid w) (hs : Spc w) (s : ByteArray) (hn : s.size ≤ 100000) :
    Calls Tryz.prog 36 #[.string s] w fun e w' => LexAns w w' (lexL s.data.toList) e := by
  have Hl := Lib.hid hl; have Hs := Lib.hid hs; have Hn := Lib.hid hn
  have hlen : s.data.toList.length = s.size := (Lib.size_eq s).symm
  have hni : (s.size : Int) ≤ 100000 := by omega
  by_cases h2 : 2000 < s.size
  · have hr : lexL s.data.toList = (none, 2000) := by unfold lexL; rw [hlen, if_pos h2]
    have Hr := Lib.hid hr
    have h2i : 2000 < (s.size : Int) := by omega
    generalize lexL s.data.toList = r at *
    clear hr hlen hl hs hn h2
    go_enter Tryz.func36, Tryz.ntmps36
    go_wp2_with fail
    exact bodyPost_ret (v := .tuple #[.slice none 0 0, .int .i64 2000, .int .i64 160]) (by simp [results, Tryz.results36, go_sem]) rfl (lexAns_none Hr.out rfl (Below.refl _ _))
  · have hr : lexAt s.data.toList [] 0 = lexL s.data.toList := lexAt_zero _ (by rw [hlen]; omega)
    have Hr := Lib.hid hr
    have h2i : ¬ 2000 < (s.size : Int) := by omega
    have H2 := Lib.hid h2
    have Hlen := Lib.hid hlen
    generalize lexL s.data.toList = r at *
    clear hr hlen hl hs hn h2
    go_enter Tryz.func36, Tryz.ntmps36
    go_wp2_with fail
    go_loopg [5, 6] s.size (fun g v i wr => ∃ (p : Nat) (I : Int) (o : List Tk), Hid (p + g = s.size ∧ I = (p : Int) ∧ lexAt s.data.toList o p = r ∧ o.length ≤ p) ∧ i = .int .i64 I ∧ TBuf w wr v o)
    case atStart => exact ⟨0, 0, [], Lib.hid ⟨by omega, rfl, Hr.out, Nat.le_refl _⟩, rfl, TBuf.start w⟩
    case round =>
      obtain ⟨p, I, o, HI, rfl, hb⟩ := hrel
      have Hb := Lib.hid hb; clear hb
      have hI0 : 0 ≤ I := by have := HI.out.2.1; omega
      by_cases hm : gk = 0
      · have hI1 : ¬ I < (s.size : Int) := by have := HI.out; omega
        have he : r = (some o, 0) := by rw [← HI.out.2.2.1, lexAt_end _ _ _ (by rw [Hlen.out]; have := HI.out.1; omega)]
        have He := Lib.hid he
        clear he hm
        go_wp2_with fail
        exact bodyPost_ret (v := .tuple #[_, .int .i64 0, .int .i64 0]) (by simp [results, Tryz.results36, go_sem]) rfl (lexAns_some He.out Hb.out)
      · have hI1 : I < (s.size : Int) := by have := HI.out; omega
        have hIj : I.toNat = p := by have := HI.out.2.1; omega
        have hps : p < s.size := by have := HI.out; omega
        obtain ⟨c, hc⟩ : ∃ c, s[p] = c := ⟨_, rfl⟩
        have hlc := byte_at s p hps
        rw [hc] at hlc
        have Hm := Lib.hid hm
        by_cases h32 : c = 32
        · have hq : ((c.toNat : Int) == 32) = true := by rw [h32]; rfl
          have hst : lexAt s.data.toList o (p + 1) = r := by rw [← HI.out.2.2.1, lexAt_blank s.data.toList o p (by rw [hlc, h32])]
          have Hst := Lib.hid hst
          clear hst h32 hlc hm
          go_wp2_with fail
          go_roundg (s.size - (p + 1))
          case measure => have := HI.out; have := Hm.out; omega
          case rel => exact ⟨p + 1, I + 1, o, Lib.hid ⟨by have := HI.out; have := Hm.out; omega, by have := HI.out; omega, Hst.out, by have := HI.out; omega⟩, by go_num, Hb.out⟩
        · have hq : ((c.toNat : Int) == 32) = false := beq_eq_false_iff_ne.2 fun e => h32 (UInt8.toNat_inj.1 (by have h9 : UInt8.toNat 32 = 32 := rfl; omega))
          have hd := drop_at hlc
          have hext : (s.extract p s.size).data.toList = c :: s.data.toList.drop (p + 1) := by
            rw [Lib.extract_eq, ← hd.1]
            show List.take (s.size - p) (s.data.toList.drop p) = _
            exact List.take_of_length_le (by rw [List.length_drop, Hlen.out]; exact Nat.le_refl _)
          have hexs : (s.extract p s.size).size ≤ 100000 := by
            rw [Lib.size_eq, hext, ← hd.1, List.length_drop, Hlen.out]
            have := Hn.out
            omega
          have Ht : Hid (∀ W : World, Laid W → Spc W → Calls Tryz.prog 52 #[.string (s.extract p s.size)] W fun e w' => TokPost (c :: s.data.toList.drop (p + 1)) e ∧ Below W.heap.size W w') := Lib.hid fun W h1 h2 => token_any W h1 h2 _ _ _ hext hexs
          have Hc := Lib.hid hlc; have H32 := Lib.hid h32; have Hd := Lib.hid hd.1
          clear hd hext hexs hlc h32 hm
          go_wp2_with fail
          refine (Ht.out _ (Hl.out.below Hb.out.below) (Hs.out.below Hb.out.below)).mono ?_
          rintro e w1 ⟨⟨⟨tk, tp, tx, op, ⟨vk, vn, vs, vf⟩⟩, n, b, rfl, ht⟩, hb1⟩
          simp only [Tk.val]
          unfold TokAns at ht
          cases htk : tokL (c :: s.data.toList.drop (p + 1)) with
          | none =>
            rw [htk] at ht
            obtain rfl : b = false := ht
            have he : r = (none, p) := by rw [← HI.out.2.2.1, lexAt_bad s.data.toList o p Hc.out H32.out (by rw [Hd.out]; exact htk)]
            have He := Lib.hid he; have Hb1 := Lib.hid hb1
            clear hb1 Ht he htk
            go_wp2_with fail
            exact bodyPost_ret (v := .tuple #[.slice none 0 0, .int .i64 I, .int .i64 160]) (by simp [results, Tryz.results36, go_sem]) rfl (lexAns_none He.out HI.out.2.1 (by first | exact (below_own Hb.out Hb1.out).alloc (below_own Hb.out Hb1.out).size _ | exact below_own Hb.out Hb1.out))
          | some q =>
            obtain ⟨tk2, m⟩ := q
            rw [htk] at ht
            obtain ⟨rfl, rfl, rfl⟩ := ht
            have he := lexAt_tok s.data.toList o p Hc.out H32.out (by rw [Hd.out]; exact htk)
            rw [HI.out.2.2.1] at he
            have He := Lib.hid he; have Hb1 := Lib.hid hb1
            have hni2 : (n : Int) ≤ 100000 := by have := Hn.out; have := Hlen.out; omega
            have hat := TAt.new w1 ⟨tk, tp, tx, op, ⟨vk, vn, vs, vf⟩⟩ 93
            have hbw : Below wr.heap.size wr (w1.alloc (.cells (Tk.cells ⟨tk, tp, tx, op, ⟨vk, vn, vs, vf⟩⟩) 93)) := Hb1.out.alloc Hb1.out.size _
            have Hat := Lib.hid hat; have Hbw := Lib.hid hbw
            have hlt : wr.heap.size ≤ w1.heap.size := Hb1.out.size
            have Hlt := Lib.hid hlt
            clear hb1 Ht he htk hat hbw hlt
            go_upto_region 11 with fail
            generalize (w1.alloc _) = W2 at Hat Hbw ⊢
            have hc1 := Hat.out.c1
            have hz1 := Hat.out.z 1
            have hat3 := Hat.out.put p
            have hbw3 : Below wr.heap.size wr (W2.setCell ⟨w1.heap.size, 1, none⟩ (.int .i64 (p : Int))) := Hbw.out.setCell Hlt.out _
            rw [← HI.out.2.1] at hat3 hbw3
            have Hat3 := Lib.hid hat3; have Hbw3 := Lib.hid hbw3
            clear hat3 hbw3
            go_upto_region 12 with fail
            generalize (W2.setCell _ _) = W3 at Hat3 Hbw3 ⊢
            obtain ⟨c0, c1, c2, c3, c4, c5, c6, c7, -, -⟩ := Hat3.out
            simp only [Tk.put] at c0 c1 c2 c3 c4 c5 c6 c7
            have hol : o.length + 1 ≤ 100000 := by have := HI.out; have := Hn.out; omega
            have Hol := Lib.hid hol
            clear hol hc1 hz1
            go_wp2_with (at_builtin; refine wpList_tbuf rfl (.tmp 36) (.tmp 38) rfl w wr _ _ o [Tk.put ⟨tk, tp, tx, op, ⟨vk, vn, vs, vf⟩⟩ p] Hb.out Hol.out (Hbw3.out.alloc Hbw3.out.size _) ((TAt.new W3 (Tk.put ⟨tk, tp, tx, op, ⟨vk, vn, vs, vf⟩⟩ p) 93).sl (Nat.le_refl _)) rfl rfl ?_; intro v' w4 hb4; have Hb4 := Lib.hid hb4; clear hb4)
            go_roundg (s.size - (p + n))
            case measure => have := HI.out; have := Hm.out; have := He.out.2.1; omega
            case rel => exact ⟨p + n, I + (n : Int), o ++ [Tk.put ⟨tk, tp, tx, op, ⟨vk, vn, vs, vf⟩⟩ p], Lib.hid ⟨by have := He.out.2.2; rw [Hlen.out] at this; omega, by have := HI.out.2.1; omega, He.out.1.symm, by rw [List.length_append]; have := HI.out; have := He.out.2.1; simp only [List.length_cons, List.length_nil]; omega⟩, by go_num, Hb4.out⟩
end Go.Proofs.YtfkghfmgeholeaaGreatDoor
namespace Go.Proofs.YtfkghfmgeholeaaGreatDoor
open Go.RowKit

/-- the token number i of a row in the block b -/
structure RAt (w : World) (b i : Nat) (t : Tk) : Prop where
  c0 : w.cell? ⟨b, i * 8, none⟩ = some (.int .i64 t.k)
  c1 : w.cell? ⟨b, i * 8 + 1, none⟩ = some (.int .i64 (t.pos : Int))
  c2 : w.cell? ⟨b, i * 8 + 2, none⟩ = some (.string ⟨t.text.toArray⟩)
  c3 : w.cell? ⟨b, i * 8 + 3, none⟩ = some (.int .i64 t.op)
  c4 : w.cell? ⟨b, i * 8 + 4, none⟩ = some (.int .i64 t.v.k)
  c5 : w.cell? ⟨b, i * 8 + 5, none⟩ = some (.int .i64 t.v.n)
  c6 : w.cell? ⟨b, i * 8 + 6, none⟩ = some (.string t.v.s)
  c7 : w.cell? ⟨b, i * 8 + 7, none⟩ = some (.int .u64 t.v.f)
theorem RAt.below {w w' : World} {b i : Nat} {t : Tk} (h : RAt w b i t) (hb : Below w.heap.size w w') : RAt w' b i t := by
  have hlt : b < w.heap.size := World.block_lt_of_cell? w _ h.c0
  exact ⟨(hb.cell (p := ⟨b, _, none⟩) hlt).trans h.c0, (hb.cell (p := ⟨b, _, none⟩) hlt).trans h.c1, (hb.cell (p := ⟨b, _, none⟩) hlt).trans h.c2, (hb.cell (p := ⟨b, _, none⟩) hlt).trans h.c3, (hb.cell (p := ⟨b, _, none⟩) hlt).trans h.c4, (hb.cell (p := ⟨b, _, none⟩) hlt).trans h.c5, (hb.cell (p := ⟨b, _, none⟩) hlt).trans h.c6, (hb.cell (p := ⟨b, _, none⟩) hlt).trans h.c7⟩
/-- a row of tokens at the beginning of a block -/
def TRow (w : World) (v : Value) (l : List Tk) : Prop := (v = .slice none 0 0 ∧ l = []) ∨ ∃ b c, v = .slice (some ⟨b, 0, none⟩) l.length c ∧ l.length ≤ c ∧ ∀ j u, (encTs l)[j]? = some u → w.cell? ⟨b, j, none⟩ = some u
theorem TBuf.row {w wr : World} {v : Value} {l : List Tk} (h : TBuf w wr v l) : TRow wr v l := by
  have ho := h.own
  rcases h.own.2 with ⟨hv, hn⟩ | ⟨g, cap, cur, hv, _, _, hcap, _⟩
  · exact .inl ⟨hv, List.eq_nil_of_length_eq_zero hn⟩
  · subst hv
    refine .inr ⟨_, _, rfl, hcap, fun j u hj => ?_⟩
    have := ho.cells rfl j _ hj
    have e : (⟨g, 0, none⟩ : Addr).add j = ⟨g, j, none⟩ := by unfold Addr.add; split <;> simp_all
    rwa [e] at this
theorem TRow.at {w : World} {v : Value} {l : List Tk} (h : TRow w v l) {i : Nat} {t : Tk} (ht : l[i]? = some t) : ∃ b c, v = .slice (some ⟨b, 0, none⟩) l.length c ∧ l.length ≤ c ∧ RAt w b i t := by
  rcases h with ⟨-, rfl⟩ | ⟨b, c, rfl, hc, h⟩
  · simp at ht
  · exact ⟨b, c, rfl, hc, h _ _ (encTs_get ht 0 (by decide)), h _ _ (encTs_get ht 1 (by decide)), h _ _ (encTs_get ht 2 (by decide)), h _ _ (encTs_get ht 3 (by decide)), h _ _ (encTs_get ht 4 (by decide)), h _ _ (encTs_get ht 5 (by decide)), h _ _ (encTs_get ht 6 (by decide)), h _ _ (encTs_get ht 7 (by decide))⟩
theorem TRow.form {w : World} {v : Value} {l : List Tk} (h : TRow w v l) : ∃ a c, v = .slice a l.length c := by
  rcases h with ⟨rfl, rfl⟩ | ⟨b, c, rfl, -⟩
  · exact ⟨none, 0, rfl⟩
  · exact ⟨_, _, rfl⟩
end Go.Proofs.YtfkghfmgeholeaaGreatDoor
namespace Go.Proofs.YtfkghfmgeholeaaGreatDoor
open Go.RowKit

theorem zero_wf : zeroVal.Wf := wf_small _ _ _ _ (by omega) (by omega) (by omega) (by omega) (by omega) (by omega)
theorem parseVal_wf (l : List UInt8) : (parseVal l).Wf := by
  unfold parseVal
  cases okV l with
  | true => exact candVal_wf l
  | false => exact zero_wf
theorem tokL_wf {l : List UInt8} {tk : Tk} {n : Nat} (h : tokL l = some (tk, n)) : tk.v.Wf := by
  cases l with
  | nil => cases h
  | cons c t =>
    rw [tokL_cons] at h
    repeat' split at h
    all_goals first | (cases h; done) | skip
    all_goals
      simp only [Option.some.injEq, Prod.mk.injEq] at h
      obtain ⟨rfl, -⟩ := h
      first | exact zero_wf | exact parseVal_wf _
theorem lexF_wf (f : Nat) : ∀ (p : Nat) (l : List UInt8) (x : List Tk) (q : Nat), lexF f p l = (some x, q) → ∀ t ∈ x, t.v.Wf := by
  induction f with
  | zero => intro p l x q h; cases h; simp
  | succ f ih =>
    intro p l x q h
    cases l with
    | nil => cases h; simp
    | cons c t =>
      by_cases hc : c = 32
      · subst hc
        rw [lexF_blank] at h
        exact ih _ _ _ _ h
      · rw [lexF_tok f p c t hc] at h
        cases ht : tokL (c :: t) with
        | none => rw [ht] at h; cases h
        | some z =>
          obtain ⟨tk, n⟩ := z
          rw [ht] at h
          simp only at h
          cases hr : lexF f (p + n) ((c :: t).drop n) with
          | mk r q2 =>
            rw [hr] at h
            cases r with
            | none => cases h
            | some r =>
              simp only [Prod.mk.injEq, Option.some.injEq] at h
              obtain ⟨rfl, -⟩ := h
              intro u hu
              rcases List.mem_cons.1 hu with rfl | hu
              · exact tokL_wf (tk := tk) ht
              · exact ih _ _ _ _ hr u hu
theorem lexL_wf {s : List UInt8} {x : List Tk} {q : Nat} (h : lexL s = (some x, q)) : ∀ t ∈ x, t.v.Wf := by
  unfold lexL at h
  by_cases hs : 2000 < s.length
  · rw [if_pos hs] at h; cases h
  · rw [if_neg hs] at h; exact lexF_wf _ _ _ _ _ h
set_option maxHeartbeats 8000000 in
set_option maxRecDepth 100000 in
theorem lex_all (w : World) (hl : Laid w) (hs : Spc w) (s : ByteArray) :
    Calls Tryz.prog 36 #[.string s] w fun e w' => LexAns w w' (lexL s.data.toList) e := by
  by_cases h2 : 2000 < s.size
  · have hr : lexL s.data.toList = (none, 2000) := by unfold lexL; rw [← Lib.size_eq, if_pos h2]
    have Hr := Lib.hid hr
    have h2i : 2000 < (s.size : Int) := by omega
    generalize lexL s.data.toList = r at *
    clear hr hl hs h2
    go_enter Tryz.func36, Tryz.ntmps36
    go_wp2_with fail
    exact bodyPost_ret (v := .tuple #[.slice none 0 0, .int .i64 2000, .int .i64 160]) (by simp [results, Tryz.results36, go_sem]) rfl (lexAns_none Hr.out rfl (Below.refl _ _))
  · exact lex_any w hl hs s (by omega)
end Go.Proofs.YtfkghfmgeholeaaGreatDoor
namespace Go.Proofs.YtfkghfmgeholeaaGreatDoor
open Go.RowKit

set_option maxHeartbeats 8000000 in
set_option maxRecDepth 100000 in
theorem inR_any (w : World) (c a z : Int) : Calls Tryz.prog 55 #[.int .u8 c, .int .u8 a, .int .u8 z] w fun e w' => e = .returned (.bool (decide (a ≤ c) && decide (c ≤ z))) ∧ w' = w := by
  by_cases h1 : a ≤ c <;> by_cases h2 : c ≤ z
  all_goals
    go_enter Tryz.func55, Tryz.ntmps55
    go_wp2_with fail
    go_ret
    exact ⟨by simp [*], rfl⟩
theorem in_case (W : World) (c a z : Int) (h : a ≤ c ∧ c ≤ z) : Calls Tryz.prog 55 #[.int .u8 c, .int .u8 a, .int .u8 z] W fun e w' => e = .returned (.bool true) ∧ W = w' :=
  (inR_any W c a z).mono fun e w' q => ⟨by rw [q.1, decide_eq_true h.1, decide_eq_true h.2]; rfl, q.2.symm⟩
theorem out_case (W : World) (c a z : Int) (h : ¬ (a ≤ c ∧ c ≤ z)) : Calls Tryz.prog 55 #[.int .u8 c, .int .u8 a, .int .u8 z] W fun e w' => e = .returned (.bool false) ∧ W = w' :=
  (inR_any W c a z).mono fun e w' q => ⟨by
    rw [q.1]
    have : (decide (a ≤ c) && decide (c ≤ z)) = false := by
      rw [Bool.eq_false_iff]
      intro e
      rw [Bool.and_eq_true, decide_eq_true_eq, decide_eq_true_eq] at e
      exact h e
    rw [this], q.2.symm⟩
theorem empty_iff (s : ByteArray) : s.toList = [] ↔ s.size = 0 := by
  rw [ByteArray.toList_eq, Lib.size_eq]
  exact List.length_eq_zero_iff.symm
theorem fin_name (s : ByteArray) (h : s.toList = []) : false = true ↔ 1 ≤ s.size ∧ s.size ≤ 16 := by
  have := (empty_iff s).1 h
  simp only [Bool.false_eq_true, false_iff]
  omega
theorem fin_name2 (s : ByteArray) (h : ¬ s.toList = []) : (!s.toList.isEmpty && decide ((s.size : Int) ≤ 16)) = true ↔ 1 ≤ s.size ∧ s.size ≤ 16 := by
  have h1 : ¬ s.size = 0 := fun e => h ((empty_iff s).2 e)
  have h2 : s.toList.isEmpty = false := by
    generalize s.toList = l at h
    cases l with
    | nil => exact absurd rfl h
    | cons a l => rfl
  rw [h2]
  simp only [Bool.not_false, Bool.true_and, decide_eq_true_eq]
  omega
set_option maxHeartbeats 8000000 in
set_option maxRecDepth 100000 in
theorem nameR_any (w : World) (s : ByteArray) (hs : s.size ≤ 100000) : Calls Tryz.prog 41 #[.string s] w fun e w' => e = .returned (.bool (nameB s.data.toList)) ∧ w' = w := by
  have hn := nameB_iff s.data.toList
  have hlen : s.data.toList.length = s.size := (Lib.size_eq s).symm
  rw [hlen] at hn
  generalize nameB s.data.toList = b at *
  have Hn := Lib.hid hn; have Hs := Lib.hid hs
  clear hn hs hlen
  have hsi : (s.size : Int) ≤ 100000 := by have := Hs.out; omega
  go_enter Tryz.func41, Tryz.ntmps41
  go_wp2_with fail
  go_loopg [3] s.size (fun g i wx => ∃ (j : Nat) (I : Int), j + g = s.size ∧ Hid (I = (j : Int)) ∧ i = .int .i64 I ∧ wx = w ∧ Hid (∀ (i : Nat) (c : UInt8), i < j → s.data.toList[i]? = some c → okN i c = true))
  case atStart => exact ⟨0, 0, by omega, Lib.hid rfl, rfl, rfl, Lib.hid fun i c hi => by omega⟩
  case round =>
    obtain ⟨j, I, hj, HI, rfl, rfl, HA⟩ := hrel
    have hI0 : 0 ≤ I := by have := HI.out; omega
    by_cases hm : gk = 0
    · have hI1 : ¬ I < (s.size : Int) := by have := HI.out; omega
      have hall : ∀ (i : Nat) (c : UInt8), s.data.toList[i]? = some c → okN i c = true := fun i c hc => HA.out i c (by have := (List.getElem?_eq_some_iff.1 hc).1; rw [← Lib.size_eq] at this; omega) hc
      have e : (∀ (i : Nat) (c : UInt8), s.data.toList[i]? = some c → okN i c = true) ↔ True := ⟨fun _ => trivial, fun _ => hall⟩
      have Hb2 := Hn.out
      rw [e, true_and] at Hb2
      have HB := Lib.hid Hb2
      clear hall e Hb2
      by_cases he : s.toList = []
      · have H0 := fin_name s he
        have H1 := Lib.hid H0
        clear H0
        go_wp2_with fail
        go_ret
        exact ⟨ret_b HB.out H1.out, rfl⟩
      · have H0 := fin_name2 s he
        have H1 := Lib.hid H0
        clear H0
        go_wp2_with fail
        go_ret
        exact ⟨ret_b HB.out H1.out, rfl⟩
    · have hI1 : I < (s.size : Int) := by have := HI.out; omega
      have hIj : I.toNat = j := by have := HI.out; omega
      have hjs : j < s.size := by omega
      obtain ⟨c, hc⟩ : ∃ c, s[j] = c := ⟨_, rfl⟩
      have hlc := byte_at s j hjs
      rw [hc] at hlc
      have hok := okN_iff j c
      have Hlc := Lib.hid hlc; have Hm := Lib.hid hm; have Hj := Lib.hid hj
      cases ho : okN j c with
      | true =>
        have HA2 : Hid (∀ (i : Nat) (c : UInt8), i < j + 1 → s.data.toList[i]? = some c → okN i c = true) := Lib.hid fun i d hi hd => by
          rcases Nat.lt_or_ge i j with h | h
          · exact HA.out i d h hd
          · obtain rfl : i = j := by omega
            rw [Hlc.out] at hd
            cases hd
            exact ho
        have h1 := hok.1 ho
        simp only [lowD, digD] at h1
        obtain ⟨C, hC⟩ : ∃ C : Int, C = (c.toNat : Int) := ⟨_, rfl⟩
        rw [← hC] at h1 hok
        have hcc : (c.toNat : Int) = C := hC.symm
        clear hC
        have h2 : (97 ≤ C ∧ C ≤ 122) ∨ (¬ (97 ≤ C ∧ C ≤ 122) ∧ ¬ I = 0 ∧ 48 ≤ C ∧ C ≤ 57) ∨ (¬ (97 ≤ C ∧ C ≤ 122) ∧ ¬ I = 0 ∧ ¬ (48 ≤ C ∧ C ≤ 57) ∧ C = 95) := by
          have := HI.out
          omega
        clear hlc hm hj hok ho h1
        rcases h2 with k1 | ⟨k1, k2, k3⟩ | ⟨k1, k2, k3, k4⟩
        · have Hc := Lib.hid fun W => in_case W C 97 122 k1
          clear k1
          go_wp2_with fail
          refine (Hc.out _).mono ?_
          rintro e W ⟨rfl, rfl⟩
          go_wp2_with fail
          go_roundg (s.size - (j + 1))
          case measure => have := Hj.out; have := Hm.out; omega
          case rel => exact ⟨j + 1, I + 1, by have := Hj.out; have := Hm.out; omega, Lib.hid (by have := HI.out; omega), rfl, rfl, HA2⟩
        · have Hc := Lib.hid fun W => out_case W C 97 122 k1
          have Hc2 := Lib.hid fun W => in_case W C 48 57 k3
          have kb : (I == 0) = false := beq_eq_false_iff_ne.2 k2
          clear k1 k3
          go_wp2_with fail
          refine (Hc.out _).mono ?_
          rintro e W ⟨rfl, rfl⟩
          go_wp2_with fail
          refine (Hc2.out _).mono ?_
          rintro e W ⟨rfl, rfl⟩
          go_wp2_with fail
          go_roundg (s.size - (j + 1))
          case measure => have := Hj.out; have := Hm.out; omega
          case rel => exact ⟨j + 1, I + 1, by have := Hj.out; have := Hm.out; omega, Lib.hid (by have := HI.out; omega), rfl, rfl, HA2⟩
        · have Hc := Lib.hid fun W => out_case W C 97 122 k1
          have Hc2 := Lib.hid fun W => out_case W C 48 57 k3
          have kb : (I == 0) = false := beq_eq_false_iff_ne.2 k2
          clear k1 k3
          subst k4
          go_wp2_with fail
          refine (Hc.out _).mono ?_
          rintro e W ⟨rfl, rfl⟩
          go_wp2_with fail
          refine (Hc2.out _).mono ?_
          rintro e W ⟨rfl, rfl⟩
          go_wp2_with fail
          go_roundg (s.size - (j + 1))
          case measure => have := Hj.out; have := Hm.out; omega
          case rel => exact ⟨j + 1, I + 1, by have := Hj.out; have := Hm.out; omega, Lib.hid (by have := HI.out; omega), rfl, rfl, HA2⟩
      | false =>
        have hbad : b = false := by
          rw [Bool.eq_false_iff]
          intro hb
          rw [(Hn.out.1 hb).1 j c hlc] at ho
          cases ho
        subst hbad
        have h1 := hok
        rw [ho] at h1
        simp only [Bool.false_eq_true, false_iff, lowD, digD] at h1
        obtain ⟨C, hC⟩ : ∃ C : Int, C = (c.toNat : Int) := ⟨_, rfl⟩
        rw [← hC] at h1 hok
        have hcc : (c.toNat : Int) = C := hC.symm
        clear hC
        have k1 : ¬ (97 ≤ C ∧ C ≤ 122) := by omega
        have k2 : I = 0 ∨ ¬ I = 0 ∧ ¬ (48 ≤ C ∧ C ≤ 57) ∧ ¬ C = 95 := by have := HI.out; omega
        have Hc := Lib.hid fun W => out_case W C 97 122 k1
        clear hlc hm hj hok ho h1 k1
        rcases k2 with k2 | ⟨k2, k3, k4⟩
        · subst k2
          go_wp2_with fail
          refine (Hc.out _).mono ?_
          rintro e W ⟨rfl, rfl⟩
          go_wp2_with fail
          go_ret
          exact ⟨rfl, rfl⟩
        · have Hc2 := Lib.hid fun W => out_case W C 48 57 k3
          have kb : (I == 0) = false := beq_eq_false_iff_ne.2 k2
          have kc : (C == 95) = false := beq_eq_false_iff_ne.2 k4
          clear k3
          go_wp2_with fail
          refine (Hc.out _).mono ?_
          rintro e W ⟨rfl, rfl⟩
          go_wp2_with fail
          refine (Hc2.out _).mono ?_
          rintro e W ⟨rfl, rfl⟩
          go_wp2_with fail
          all_goals
            go_ret
            exact ⟨rfl, rfl⟩
end Go.Proofs.YtfkghfmgeholeaaGreatDoor
namespace Go.Proofs.YtfkghfmgeholeaaGreatDoor
open Go.ChangeShapes Go.WideShapes Go.ChangeAt Go.RowKit

def laidL2 : List (String × DataW Unit) := [("math/bits.deBruijn32tab", Rows.laid_math_bits_deBruijn32tab), ("math/bits.deBruijn64tab", Rows.laid_math_bits_deBruijn64tab), ("internal/strconv.uint64pow10", Rows.laid_internal_strconv_uint64pow10), ("strconv.ErrRange", Rows.laid_strconv_ErrRange), ("strconv.ErrSyntax", Rows.laid_strconv_ErrSyntax), ("unicode.White_Space", Rows.laid_unicode_White_Space), ("strings.asciiSpace", Rows.laid_strings_asciiSpace)]
theorem spc_data : (Rows.laid_strings_asciiSpace : DataW Unit) = Lib.tabData .u8 Lib.asciiSpaceTab := by kernel_rfl
theorem laid_of2 {W : World} (h : laidMetH Tryz.prog laidL2 W) : Laid W ∧ Spc W := by
  rw [MakeChecks.laidMetH_plain _ _ _ (by kernel_rfl)] at h
  have h1 := h.tail
  have h2 := h1.tail
  have h3 := h2.tail
  have h4 := h3.tail
  have h5 := h4.tail
  have h6 := h5.tail
  refine ⟨⟨?_, ?_, ?_, ?_⟩, ⟨?_⟩⟩
  · rw [pow_data] at h2
    exact Lib.tabIs_of_head (by kernel_rfl : Tryz.prog.globalNamed "internal/strconv.uint64pow10" = some 6) (by kernel_rfl : _ = some 220) Tryz.underlying220 Tryz.underlying24 (by kernel_rfl) (by kernel_rfl) h2
  · rw [tz_data] at h1
    have ht := Lib.tabIs_of_head (by kernel_rfl : Tryz.prog.globalNamed "math/bits.deBruijn64tab" = some 8) (by kernel_rfl : _ = some 229) Tryz.underlying229 Tryz.underlying5 (by kernel_rfl) (by kernel_rfl) h1
    have := World.var?_cell (by kernel_rfl : Tryz.prog.globalNamed "math/bits.deBruijn64tab" = some 8) ht 15
    rw [this]
    rfl
  · obtain ⟨a, s, hv, _⟩ := laid_sentinel h4 (by kernel_rfl : Tryz.prog.globalNamed "strconv.ErrSyntax" = some 4) (by kernel_rfl : _ = some 152) Tryz.underlying152 row_err Tryz.underlying215 Tryz.underlying217 rfl rfl Tryz.underlying9 (by kernel_rfl) (by kernel_rfl)
    exact ⟨_, _, hv⟩
  · obtain ⟨a, s, hv, _⟩ := laid_sentinel h3 (by kernel_rfl : Tryz.prog.globalNamed "strconv.ErrRange" = some 5) (by kernel_rfl : _ = some 152) Tryz.underlying152 row_err Tryz.underlying215 Tryz.underlying217 rfl rfl Tryz.underlying9 (by kernel_rfl) (by kernel_rfl)
    exact ⟨_, _, hv⟩
  · rw [spc_data] at h6
    exact Lib.tabIs_of_head (by kernel_rfl : Tryz.prog.globalNamed "strings.asciiSpace" = some 1) (by kernel_rfl : _ = some 133) Tryz.underlying133 Tryz.underlying5 (by kernel_rfl) (by kernel_rfl) h6
end Go.Proofs.YtfkghfmgeholeaaGreatDoor
