/- Fields, and what is wrong with a test over them. No code is stepped through. -/
import Derived.Test.YtfkghfmgeholeaaGreatDoorPa8
set_option linter.unusedVariables false
set_option linter.unusedSimpArgs false
namespace Go.Proofs.YtfkghfmgeholeaaGreatDoor
open Go.RowKit

/-- a field -/
structure Fd where
  name : List UInt8
  kind : Int
/-- the number of the first field of a name; -1: there is none -/
def idxL : List Fd → List UInt8 → Int
  | [], _ => -1
  | f :: l, s => if f.name = s then 0 else if idxL l s < 0 then -1 else idxL l s + 1
def kindL : List Fd → List UInt8 → Option Int
  | [], _ => none
  | f :: l, s => if f.name = s then some f.kind else kindL l s
theorem idxL_lo : ∀ (l : List Fd) (s : List UInt8), -1 ≤ idxL l s ∧ idxL l s < l.length
  | [], s => by rw [idxL]; simp
  | f :: l, s => by
    have := idxL_lo l s
    rw [idxL, List.length_cons]
    split
    · omega
    · split <;> omega
theorem idxL_none : ∀ (l : List Fd) (s : List UInt8), idxL l s < 0 ↔ kindL l s = none
  | [], s => by simp [idxL, kindL]
  | f :: l, s => by
    have h := idxL_none l s
    rw [idxL, kindL]
    split
    · simp
    · split
      · rename_i h1
        simp [h.1 h1]
      · rename_i h1
        rw [← h]
        constructor <;> intro h2 <;> omega
theorem idxL_some : ∀ (l : List Fd) (s : List UInt8) (i : Nat), idxL l s = (i : Int) → ∃ f, l[i]? = some f ∧ f.name = s ∧ kindL l s = some f.kind
  | [], s, i, h => by rw [idxL] at h; omega
  | f :: l, s, i, h => by
    rw [idxL] at h
    rw [kindL]
    split at h
    · rename_i h1
      obtain rfl : i = 0 := by omega
      exact ⟨f, rfl, h1, by rw [if_pos h1]⟩
    · rename_i h1
      split at h
      · omega
      · obtain ⟨j, rfl⟩ : ∃ j, i = j + 1 := ⟨i - 1, by omega⟩
        obtain ⟨g, h2, h3, h4⟩ := idxL_some l s j (by omega)
        exact ⟨g, by simpa using h2, h3, by rw [if_neg h1]; exact h4⟩
/-- how far a search has come: none of the first j is it -/
theorem idxL_skip : ∀ (l : List Fd) (s : List UInt8) (j : Nat), (∀ i f, i < j → l[i]? = some f → f.name ≠ s) → j ≤ l.length → idxL l s = if idxL (l.drop j) s < 0 then -1 else idxL (l.drop j) s + j
  | l, s, 0, h, hj => by
    have := idxL_lo l s
    rw [List.drop_zero]
    split <;> omega
  | [], s, j + 1, h, hj => by simp at hj
  | f :: l, s, j + 1, h, hj => by
    have h0 := h 0 f (by omega) rfl
    have h1 := idxL_skip l s j (fun i g hi hg => h (i + 1) g (by omega) (by simpa using hg)) (by simpa using hj)
    rw [idxL, if_neg h0, h1, List.drop_succ_cons]
    have := idxL_lo (l.drop j) s
    split <;> split <;> omega
theorem idxL_end {l : List Fd} {s : List UInt8} {j : Nat} (h : ∀ i f, i < j → l[i]? = some f → f.name ≠ s) (hj : j = l.length) : idxL l s = -1 := by
  subst hj
  rw [idxL_skip l s l.length h (Nat.le_refl _), List.drop_length, idxL]
  simp
theorem idxL_hit {l : List Fd} {s : List UInt8} {j : Nat} {f : Fd} (h : ∀ i f, i < j → l[i]? = some f → f.name ≠ s) (hf : l[j]? = some f) (hs : f.name = s) : idxL l s = (j : Int) := by
  have hlt : j < l.length := by
    rcases Nat.lt_or_ge j l.length with h1 | h1
    · exact h1
    · rw [List.getElem?_eq_none h1] at hf; cases hf
  rw [idxL_skip l s j h (Nat.le_of_lt hlt)]
  rw [List.getElem?_eq_getElem hlt] at hf
  injection hf with hf
  rw [List.drop_eq_getElem_cons hlt, hf, idxL, if_pos hs]
  simp
/-- is a field right, behind those before it? -/
def okField (l : List Fd) (i : Nat) : Bool := match l[i]? with
  | none => true
  | some f => nameB f.name && decide (1 ≤ f.kind) && decide (f.kind ≤ 4) && decide (idxL (l.take i) f.name < 0)
def okTo (l : List Fd) (j : Nat) : Bool := (List.range j).all (okField l)
theorem okTo_succ (l : List Fd) (j : Nat) : okTo l (j + 1) = (okTo l j && okField l j) := by
  unfold okTo
  rw [List.range_succ, List.all_append]
  simp
theorem okTo_bad {l : List Fd} {j : Nat} (h : okField l j = false) : ∀ n, j < n → okTo l n = false := by
  intro n
  induction n with
  | zero => intro h1; omega
  | succ n ih =>
    intro h1
    rw [okTo_succ]
    rcases Nat.lt_or_ge j n with h2 | h2
    · rw [ih h2]; rfl
    · obtain rfl : j = n := by omega
      rw [h]; simp
/-- are fields right? -/
def fieldsB (l : List Fd) : Bool := okTo l l.length && decide (1 ≤ l.length) && decide (l.length ≤ 8)
/-- the kind of an operand; none: there is no such field -/
def opK (l : List Fd) (t : Tree) : Option Int := if t.k = 1 then some t.v.k else kindL l t.col
/-- the fault of an operand: its place, its error -/
def opF (l : List Fd) (t : Tree) : Option (Int × Int) := match opK l t with
  | none => some (t.pos, 180)
  | some _ => none
def opV (l : List Fd) (t : Tree) : Int := (opK l t).getD 0
/-- the first of two faults -/
def orF : Option (Int × Int) → Option (Int × Int) → Option (Int × Int)
  | some x, _ => some x
  | none, b => b
def boolF (l : List Fd) (t : Tree) : Option (Int × Int) := if opV l t ≠ 2 ∧ opV l t ≠ 0 then some (t.pos, 181) else none
def pairF (l : List Fd) (p : Int) (a b : Tree) : Option (Int × Int) := if opV l a ≠ opV l b ∧ opV l a ≠ 0 ∧ opV l b ≠ 0 then some (p, 181) else none
def cmpFt (l : List Fd) (p : Int) : List Tree → Option (Int × Int)
  | [a, b] => orF (opF l a) (orF (opF l b) (pairF l p a b))
  | _ => none
def nullF (l : List Fd) : List Tree → Option (Int × Int)
  | [a] => opF l a
  | _ => none
mutual
/-- the first thing that is wrong with a test -/
def firstT (l : List Fd) : Tree → Option (Int × Int)
  | .mk k p c o v kids =>
    if k = 0 ∨ k = 1 then orF (opF l (.mk k p c o v kids)) (boolF l (.mk k p c o v kids))
    else if k = 2 then cmpFt l p kids
    else if k = 3 then nullF l kids
    else firstTs l kids
def firstTs (l : List Fd) : List Tree → Option (Int × Int)
  | [] => none
  | t :: r => orF (firstT l t) (firstTs l r)
end
/-- what a checker holds behind a fault or none -/
def updF (s : Int × Int) (o : Option (Int × Int)) : Int × Int := if s.2 = 0 then o.getD s else s
theorem updF_or (s : Int × Int) (a b : Option (Int × Int)) (ha : ∀ x, a = some x → x.2 ≠ 0) : updF (updF s a) b = updF s (orF a b) := by
  unfold updF orF
  by_cases h : s.2 = 0
  · rw [if_pos h, if_pos h]
    cases a with
    | none => simp [h]
    | some x => simp [ha x rfl]
  · rw [if_neg h, if_neg h, if_neg h]
theorem updF_none (s : Int × Int) : updF s none = s := by unfold updF; split <;> rfl
theorem opF_err {l : List Fd} {t : Tree} {x : Int × Int} (h : opF l t = some x) : x.2 ≠ 0 := by
  unfold opF at h
  split at h
  · injection h with h; subst h; exact (by decide : ¬ (180 : Int) = 0)
  · cases h
theorem boolF_err {l : List Fd} {t : Tree} {x : Int × Int} (h : boolF l t = some x) : x.2 ≠ 0 := by
  unfold boolF at h
  split at h
  · injection h with h; subst h; exact (by decide : ¬ (181 : Int) = 0)
  · cases h
theorem pairF_err {l : List Fd} {p : Int} {a b : Tree} {x : Int × Int} (h : pairF l p a b = some x) : x.2 ≠ 0 := by
  unfold pairF at h
  split at h
  · injection h with h; subst h; exact (by decide : ¬ (181 : Int) = 0)
  · cases h
theorem orF_err {a b : Option (Int × Int)} (ha : ∀ x, a = some x → x.2 ≠ 0) (hb : ∀ x, b = some x → x.2 ≠ 0) : ∀ x, orF a b = some x → x.2 ≠ 0 := by
  intro x h
  cases a with
  | none => exact hb x h
  | some y => exact ha x h
theorem cmpFt_err {l : List Fd} {p : Int} {k : List Tree} {x : Int × Int} (h : cmpFt l p k = some x) : x.2 ≠ 0 := by
  unfold cmpFt at h
  split at h
  · exact orF_err (fun _ => opF_err) (orF_err (fun _ => opF_err) (fun _ => pairF_err)) x h
  · cases h
theorem nullF_err {l : List Fd} {k : List Tree} {x : Int × Int} (h : nullF l k = some x) : x.2 ≠ 0 := by
  unfold nullF at h
  split at h
  · exact opF_err h
  · cases h
mutual
theorem firstT_err (l : List Fd) : ∀ (t : Tree) (x : Int × Int), firstT l t = some x → x.2 ≠ 0
  | .mk k p c o v kids, x, h => by
    rw [firstT] at h
    split at h
    · exact orF_err (fun _ => opF_err) (fun _ => boolF_err) x h
    · split at h
      · exact cmpFt_err h
      · split at h
        · exact nullF_err h
        · exact firstTs_err l kids x h
theorem firstTs_err (l : List Fd) : ∀ (k : List Tree) (x : Int × Int), firstTs l k = some x → x.2 ≠ 0
  | [], x, h => by rw [firstTs] at h; cases h
  | t :: r, x, h => by
    rw [firstTs] at h
    exact orF_err (firstT_err l t) (firstTs_err l r) x h
end
theorem firstTs_append (l : List Fd) : ∀ (a b : List Tree), firstTs l (a ++ b) = orF (firstTs l a) (firstTs l b)
  | [], b => by rw [List.nil_append, firstTs]; rfl
  | t :: r, b => by
    rw [List.cons_append, firstTs, firstTs, firstTs_append l r b]
    cases firstT l t <;> rfl
/-- what check.Check answers: the place, the error -/
def checkF (t : Tree) (l : List Fd) : Int × Int := if rightT 0 t && fieldsB l then (firstT l t).getD (0, 0) else (0, 2)
end Go.Proofs.YtfkghfmgeholeaaGreatDoor
