/- Joined texts: Pa0; Pa1; Pa2; Pa3; Pa4; Pa5; Pa6; Pa7. -/
import Derived.Test.YtfkghfmgeholeaaGreatDoorGL
import Derived.Test.YtfkghfmgeholeaaGreatDoorGE
set_option linter.unusedVariables false
set_option linter.unusedSimpArgs false
namespace Go.Proofs.YtfkghfmgeholeaaGreatDoor
open Go.RowKit

/-- a test -/
inductive Tree where
  | mk (k : Int) (pos : Int) (col : List UInt8) (op : Int) (v : Val) (kids : List Tree)
namespace Tree
def k : Tree → Int | .mk k _ _ _ _ _ => k
def pos : Tree → Int | .mk _ p _ _ _ _ => p
def col : Tree → List UInt8 | .mk _ _ c _ _ _ => c
def op : Tree → Int | .mk _ _ _ o _ _ => o
def v : Tree → Val | .mk _ _ _ _ v _ => v
def kids : Tree → List Tree | .mk _ _ _ _ _ l => l
end Tree
abbrev Tree.node (k : Int) (pos : Nat) (kids : List Tree) : Tree := .mk k (pos : Int) [] 0 zeroVal kids
mutual
/-- how deep a test is -/
def Tree.depth : Tree → Nat
  | .mk _ _ _ _ _ l => Tree.deep l + 1
def Tree.deep : List Tree → Nat
  | [] => 0
  | t :: l => max t.depth (Tree.deep l)
end
/-- what reading gives: a test and the tokens behind, or the place of the fault -/
inductive PRes where
  | ok (t : Tree) (r : List Tk)
  | bad (p : Nat)
def isTok (k : Int) (w : List UInt8) : List Tk → Bool
  | [] => false
  | t :: _ => t.k == k && t.text == w
/-- the place of the next token -/
def pAt (e : Nat) : List Tk → Nat
  | [] => e
  | t :: _ => t.pos
def pOper (e : Nat) : List Tk → PRes
  | [] => .bad e
  | t :: r => if t.k = 0 then .ok (.mk 0 (t.pos : Int) t.text 0 zeroVal []) r else if t.k = 1 then .ok (.mk 1 (t.pos : Int) [] 0 t.v []) r else .bad t.pos
/-- null: is it, is it not -/
def nullT (k : Int) : List Tk → Bool
  | [] => false
  | t :: _ => t.k == 1 && t.text == [] && t.v.k == k
def pNull (e : Nat) (a : Tree) (p : Nat) (l : List Tk) : PRes :=
  if isTok 3 kNot l then (if nullT 0 l.tail then .ok (.node 4 p [.node 3 p [a]]) l.tail.tail else .bad (pAt e l.tail))
  else if nullT 0 l then .ok (.node 3 p [a]) l.tail else .bad (pAt e l)
def pAtom (e : Nat) (l : List Tk) : PRes := match pOper e l with
  | .bad p => .bad p
  | .ok a r =>
    if isTok 3 kIs r then pNull e a (pAt e r) r.tail
    else if isTok 2 [] r then (match r with
      | [] => .bad 0
      | t :: r' => match pOper e r' with
        | .bad p => .bad p
        | .ok b r2 => .ok (.mk 2 (t.pos : Int) [] t.op zeroVal [a, b]) r2)
    else .ok a r
/-- a row of tests with a word between -/
def rowP (kind : Int) (w : List UInt8) (part : List Tk → PRes) (e : Nat) : Nat → Tree → List Tk → PRes
  | 0, t, l => .ok t l
  | m + 1, t, l => if isTok 3 w l then (match part l.tail with
    | .bad p => .bad p
    | .ok u r => rowP kind w part e m (.node kind (pAt e l) [t, u]) r) else .ok t l
def row (kind : Int) (w : List UInt8) (part : List Tk → PRes) (e : Nat) (l : List Tk) : PRes := match part l with
  | .bad p => .bad p
  | .ok t r => rowP kind w part e r.length t r
def pPiece (e : Nat) : Nat → Nat → List Tk → PRes
  | 0, _, _ => .bad 0
  | n + 1, d, l =>
    if isTok 3 kNot l then (if 20 ≤ d then .bad (pAt e l) else match pPiece e n (d + 1) l.tail with
      | .bad p => .bad p
      | .ok t r => .ok (.node 4 (pAt e l) [t]) r)
    else if isTok 4 [] l then (if 20 ≤ d then .bad (pAt e l) else match row 6 kOr (row 5 kAnd (pPiece e n (d + 1)) e) e l.tail with
      | .bad p => .bad p
      | .ok t r => if isTok 5 [] r then .ok t r.tail else .bad (pAt e r))
    else pAtom e l
def pPart (e n d : Nat) : List Tk → PRes := row 5 kAnd (pPiece e n d) e
def pTest (e n d : Nat) : List Tk → PRes := row 6 kOr (pPart e n d) e
theorem pPiece_succ (e n d : Nat) (l : List Tk) : pPiece e (n + 1) d l = (
    if isTok 3 kNot l then (if 20 ≤ d then .bad (pAt e l) else match pPiece e n (d + 1) l.tail with
      | .bad p => .bad p
      | .ok t r => .ok (.node 4 (pAt e l) [t]) r)
    else if isTok 4 [] l then (if 20 ≤ d then .bad (pAt e l) else match pTest e n (d + 1) l.tail with
      | .bad p => .bad p
      | .ok t r => if isTok 5 [] r then .ok t r.tail else .bad (pAt e r))
    else pAtom e l) := rfl
/-- a text's test -/
def parseL (e : Nat) (l : List Tk) : PRes := match pTest e (l.length + 1) 0 l with
  | .bad p => .bad p
  | .ok t r => if r ≠ [] then .bad (pAt e r) else if 40 < t.depth then .bad 0 else .ok t []
theorem tail_len {l : List Tk} {k : Int} {w : List UInt8} (h : isTok k w l = true) : l.tail.length + 1 = l.length := by
  cases l with
  | nil => cases h
  | cons t l => rfl
theorem null_len {l : List Tk} {k : Int} (h : nullT k l = true) : l.tail.length + 1 = l.length := by
  cases l with
  | nil => cases h
  | cons t l => rfl
theorem pOper_len {e : Nat} {l : List Tk} {t : Tree} {r : List Tk} (h : pOper e l = .ok t r) : r.length < l.length := by
  cases l with
  | nil => cases h
  | cons a l =>
    simp only [pOper] at h
    repeat' split at h
    all_goals first | (cases h; done) | (cases h; exact Nat.lt_succ_self _)
theorem pNull_len {e : Nat} {a : Tree} {p : Nat} {l : List Tk} {t : Tree} {r : List Tk} (h : pNull e a p l = .ok t r) : r.length < l.length := by
  unfold pNull at h
  split at h
  · rename_i h1
    split at h
    · rename_i h2
      cases h
      have := tail_len h1; have := null_len h2; omega
    · cases h
  · split at h
    · rename_i h2
      cases h
      have := null_len h2; omega
    · cases h
theorem pAtom_len {e : Nat} {l : List Tk} {t : Tree} {r : List Tk} (h : pAtom e l = .ok t r) : r.length < l.length := by
  unfold pAtom at h
  cases ho : pOper e l with
  | bad p => rw [ho] at h; cases h
  | ok a q =>
    rw [ho] at h
    have h1 := pOper_len ho
    simp only at h
    split at h
    · rename_i h2
      have := pNull_len h; have := tail_len h2; omega
    · split at h
      · cases q with
        | nil => cases h
        | cons b q =>
          simp only at h
          cases hb : pOper e q with
          | bad p => rw [hb] at h; cases h
          | ok c q2 =>
            rw [hb] at h
            cases h
            have := pOper_len hb
            simp only [List.length_cons] at h1
            omega
      · cases h; exact h1
theorem rowP_len {kind : Int} {w : List UInt8} {part : List Tk → PRes} {e : Nat} (hp : ∀ l t r, part l = .ok t r → r.length < l.length) : ∀ (m : Nat) (a : Tree) (l : List Tk) (t : Tree) (r : List Tk), rowP kind w part e m a l = .ok t r → r.length ≤ l.length := by
  intro m
  induction m with
  | zero => intro a l t r h; cases h; exact Nat.le_refl _
  | succ m ih =>
    intro a l t r h
    unfold rowP at h
    split at h
    · rename_i h1
      cases hq : part l.tail with
      | bad p => rw [hq] at h; cases h
      | ok u q =>
        rw [hq] at h
        have := ih _ _ _ _ h
        have := hp _ _ _ hq
        have := tail_len h1
        omega
    · cases h; exact Nat.le_refl _
theorem row_len {kind : Int} {w : List UInt8} {part : List Tk → PRes} {e : Nat} (hp : ∀ l t r, part l = .ok t r → r.length < l.length) (l : List Tk) (t : Tree) (r : List Tk) (h : row kind w part e l = .ok t r) : r.length < l.length := by
  unfold row at h
  cases hq : part l with
  | bad p => rw [hq] at h; cases h
  | ok u q =>
    rw [hq] at h
    have := rowP_len hp _ _ _ _ _ h
    have := hp _ _ _ hq
    omega
theorem pPiece_len (e n : Nat) : ∀ (d : Nat) (l : List Tk) (t : Tree) (r : List Tk), pPiece e n d l = .ok t r → r.length < l.length := by
  induction n with
  | zero => intro d l t r h; cases h
  | succ n ih =>
    intro d l t r h
    rw [pPiece_succ] at h
    split at h
    · rename_i h1
      split at h
      · cases h
      · cases hq : pPiece e n (d + 1) l.tail with
        | bad p => rw [hq] at h; cases h
        | ok u q =>
          rw [hq] at h
          cases h
          have := ih _ _ _ _ hq; have := tail_len h1; omega
    · split at h
      · rename_i h1
        split at h
        · cases h
        · cases hq : pTest e n (d + 1) l.tail with
          | bad p => rw [hq] at h; cases h
          | ok u q =>
            rw [hq] at h
            simp only at h
            split at h
            · rename_i h2
              cases h
              have := row_len (fun l t r h => row_len (ih (d + 1)) l t r h) _ _ _ hq
              have := tail_len h1; have := tail_len h2; omega
            · cases h
      · exact pAtom_len h
theorem pTest_len (e n d : Nat) (l : List Tk) (t : Tree) (r : List Tk) (h : pTest e n d l = .ok t r) : r.length < l.length :=
  row_len (fun l t r h => row_len (pPiece_len e n d) l t r h) l t r h
/-- rows of parts that agree on shorter lists -/
theorem rowP_same {kind : Int} {w : List UInt8} {p1 p2 : List Tk → PRes} {e N : Nat} (hp : ∀ l, l.length ≤ N → p1 l = p2 l) (hl : ∀ l t r, p1 l = .ok t r → r.length < l.length) : ∀ (m : Nat) (a : Tree) (l : List Tk), l.length ≤ N → rowP kind w p1 e m a l = rowP kind w p2 e m a l := by
  intro m
  induction m with
  | zero => intro a l h; rfl
  | succ m ih =>
    intro a l h
    unfold rowP
    split
    · rename_i h1
      have := tail_len h1
      rw [← hp l.tail (by omega)]
      cases hq : p1 l.tail with
      | bad p => rfl
      | ok u q => exact ih _ _ (by have := hl _ _ _ hq; omega)
    · rfl
theorem row_same {kind : Int} {w : List UInt8} {p1 p2 : List Tk → PRes} {e N : Nat} (hp : ∀ l, l.length ≤ N → p1 l = p2 l) (hl : ∀ l t r, p1 l = .ok t r → r.length < l.length) (l : List Tk) (h : l.length ≤ N) : row kind w p1 e l = row kind w p2 e l := by
  unfold row
  rw [← hp l h]
  cases hq : p1 l with
  | bad p => rfl
  | ok u q => exact rowP_same hp hl _ _ _ (by have := hl _ _ _ hq; omega)
/-- more fuel than tokens changes nothing -/
theorem pPiece_fuel (e n : Nat) : ∀ (m d : Nat) (l : List Tk), l.length < n → l.length < m → pPiece e n d l = pPiece e m d l := by
  induction n with
  | zero => intro m d l h; omega
  | succ n ih =>
    intro m d l h1 h2
    obtain ⟨m, rfl⟩ : ∃ k, m = k + 1 := ⟨m - 1, by omega⟩
    rw [pPiece_succ, pPiece_succ]
    split
    · rename_i h
      have := tail_len h
      rw [ih m (d + 1) l.tail (by omega) (by omega)]
    · split
      · rename_i h
        have := tail_len h
        have e1 : pTest e n (d + 1) l.tail = pTest e m (d + 1) l.tail := by
          unfold pTest pPart
          refine row_same (N := l.tail.length) (fun l' hl' => row_same (N := l.tail.length) (fun l2 hl2 => ih m (d + 1) l2 (by omega) (by omega)) (pPiece_len e n (d + 1)) l' hl') (fun l t r h => row_len (pPiece_len e n (d + 1)) l t r h) _ (Nat.le_refl _)
        rw [e1]
      · rfl
theorem pTest_fuel (e n m d : Nat) (l : List Tk) (h1 : l.length < n) (h2 : l.length < m) : pTest e n d l = pTest e m d l := by
  unfold pTest pPart
  exact row_same (N := l.length) (fun l' hl' => row_same (N := l.length) (fun l2 hl2 => pPiece_fuel e n m d l2 (by omega) (by omega)) (pPiece_len e n d) l' hl') (fun l t r h => row_len (pPiece_len e n d) l t r h) _ (Nat.le_refl _)
end Go.Proofs.YtfkghfmgeholeaaGreatDoor
namespace Go.Proofs.YtfkghfmgeholeaaGreatDoor
open Go.RowKit

mutual
/-- the same test, but for places -/
inductive Sim : Tree → Tree → Prop
  | mk {k p p' : Int} {c : List UInt8} {o : Int} {v : Val} {l l' : List Tree} : SimL l l' → Sim (.mk k p c o v l) (.mk k p' c o v l')
inductive SimL : List Tree → List Tree → Prop
  | nil : SimL [] []
  | cons {a b : Tree} {l l' : List Tree} : Sim a b → SimL l l' → SimL (a :: l) (b :: l')
end
theorem SimL.one {a b : Tree} (h : Sim a b) : SimL [a] [b] := .cons h .nil
theorem SimL.two {a b c d : Tree} (h : Sim a b) (h2 : Sim c d) : SimL [a, c] [b, d] := .cons h (.one h2)
def Tree.leaf (t : Tree) : Prop := t.k = 0 ∨ t.k = 1
def Tk.is (t : Tk) (k : Int) (w : List UInt8) : Prop := t.k = k ∧ t.text = w
/-- the tokens of a test in brackets -/
inductive Toks : Tree → List Tk → Prop
  | col (p : Int) (a : Tk) : a.k = 0 → Toks (.mk 0 p a.text 0 zeroVal []) [a]
  | lit (p : Int) (a : Tk) : a.is 1 [] → Toks (.mk 1 p [] 0 a.v []) [a]
  | cmp (p : Int) (o m c x y : Tk) (a b : Tree) : o.is 4 [] → m.is 2 [] → c.is 5 [] → Toks a [x] → Toks b [y] → a.leaf → b.leaf → Toks (.mk 2 p [] m.op zeroVal [a, b]) [o, x, m, y, c]
  | null (p : Int) (o i n c x : Tk) (a : Tree) : o.is 4 [] → i.is 3 kIs → n.is 1 [] → n.v.k = 0 → c.is 5 [] → Toks a [x] → a.leaf → Toks (.mk 3 p [] 0 zeroVal [a]) [o, x, i, n, c]
  | not (p : Int) (o n c : Tk) (a : Tree) (x : List Tk) : o.is 4 [] → n.is 3 kNot → c.is 5 [] → Toks a x → Toks (.mk 4 p [] 0 zeroVal [a]) (o :: n :: (x ++ [c]))
  | and (p : Int) (o m c : Tk) (a b : Tree) (x y : List Tk) : o.is 4 [] → m.is 3 kAnd → c.is 5 [] → Toks a x → Toks b y → Toks (.mk 5 p [] 0 zeroVal [a, b]) (o :: (x ++ m :: (y ++ [c])))
  | or (p : Int) (o m c : Tk) (a b : Tree) (x y : List Tk) : o.is 4 [] → m.is 3 kOr → c.is 5 [] → Toks a x → Toks b y → Toks (.mk 6 p [] 0 zeroVal [a, b]) (o :: (x ++ m :: (y ++ [c])))
theorem isTok_cons {t : Tk} {k : Int} {w : List UInt8} (l : List Tk) (h : t.is k w) : isTok k w (t :: l) = true := by
  obtain ⟨h1, h2⟩ := h
  simp [isTok, h1, h2]
theorem isTok_not {t : Tk} {k k' : Int} {w w' : List UInt8} (l : List Tk) (h : t.is k w) (hne : k ≠ k' ∨ w ≠ w') : isTok k' w' (t :: l) = false := by
  obtain ⟨h1, h2⟩ := h
  simp only [isTok, h1, h2, Bool.and_eq_false_iff, beq_eq_false_iff_ne]
  rcases hne with h | h
  · exact .inl h
  · exact .inr h
/-- what may stand behind a test -/
def Behind (r : List Tk) : Prop := isTok 3 kIs r = false ∧ isTok 2 [] r = false
theorem behind_tok {t : Tk} {k : Int} {w : List UInt8} (l : List Tk) (h : t.is k w) (h1 : k ≠ 3 ∨ w ≠ kIs) (h2 : k ≠ 2) : Behind (t :: l) := ⟨isTok_not l h h1, isTok_not l h (.inl h2)⟩
theorem oper_leaf {t : Tree} {x : Tk} (h : Toks t [x]) (e : Nat) (r : List Tk) : ∃ u, pOper e (x :: r) = .ok u r ∧ Sim u t ∧ (x.k = 0 ∨ x.is 1 []) := by
  generalize hx : [x] = l at h
  cases h with
  | col p a ha =>
    cases hx
    refine ⟨.mk 0 (x.pos : Int) x.text 0 zeroVal [], ?_, .mk .nil, .inl ha⟩
    simp only [pOper, if_pos ha]
  | lit p a ha =>
    cases hx
    refine ⟨.mk 1 (x.pos : Int) [] 0 x.v [], ?_, .mk .nil, .inr ha⟩
    have h0 : ¬ x.k = 0 := by rw [ha.1]; decide
    simp only [pOper, if_neg h0, if_pos ha.1]
  | cmp => cases hx
  | null => cases hx
  | not p o n c a y => simp at hx
  | and p o m c a b y z => simp at hx
  | or p o m c a b y z => simp at hx
theorem rowP_end {kind : Int} {w : List UInt8} {part : List Tk → PRes} {e m : Nat} {t : Tree} {l : List Tk} (h : isTok 3 w l = false) : rowP kind w part e m t l = .ok t l := by
  cases m with
  | zero => rfl
  | succ m => unfold rowP; rw [h]; rfl
theorem row_end {kind : Int} {w : List UInt8} {part : List Tk → PRes} {e : Nat} {l q : List Tk} {u : Tree} (hp : part l = .ok u q) (h : isTok 3 w q = false) : row kind w part e l = .ok u q := by
  unfold row
  rw [hp]
  exact rowP_end h
theorem row_bad {kind : Int} {w : List UInt8} {part : List Tk → PRes} {e p : Nat} {l : List Tk} (hp : part l = .bad p) : row kind w part e l = .bad p := by
  unfold row
  rw [hp]
/-- a row of two -/
theorem row_two {kind : Int} {w : List UInt8} {part : List Tk → PRes} {e : Nat} {l q q2 : List Tk} {u u2 : Tree} {m : Tk} (hp : part l = .ok u (m :: q)) (hm : m.is 3 w) (hp2 : part q = .ok u2 q2) (h : isTok 3 w q2 = false) : row kind w part e l = .ok (.node kind m.pos [u, u2]) q2 := by
  unfold row
  rw [hp]
  show rowP kind w part e (q.length + 1) u (m :: q) = _
  unfold rowP
  rw [isTok_cons q hm]
  simp only [if_true, List.tail_cons, hp2]
  exact rowP_end h
/-- reading the tokens of a test gives it, if it gives anything -/
theorem piece_toks {t : Tree} {x : List Tk} (h : Toks t x) : ∀ (e n d : Nat) (r : List Tk) (u : Tree) (q : List Tk), Behind r → pPiece e n d (x ++ r) = .ok u q → q = r ∧ Sim u t := by
  induction h with
  | col p a ha =>
    intro e n d r u q hr h
    cases n with
    | zero => cases h
    | succ n =>
      rw [pPiece_succ] at h
      have h1 : isTok 3 kNot ([a] ++ r) = false := by simp [isTok, ha]
      have h2 : isTok 4 [] ([a] ++ r) = false := by simp [isTok, ha]
      rw [h1, h2] at h
      simp only [Bool.false_eq_true, if_false] at h
      obtain ⟨u', hu, hs, -⟩ := oper_leaf (.col p a ha) e r
      unfold pAtom at h
      rw [show [a] ++ r = a :: r from rfl, hu] at h
      simp only [hr.1, hr.2, Bool.false_eq_true, if_false] at h
      cases h
      exact ⟨rfl, hs⟩
  | lit p a ha =>
    intro e n d r u q hr h
    cases n with
    | zero => cases h
    | succ n =>
      rw [pPiece_succ, show [a] ++ r = a :: r from rfl, isTok_not r ha (.inl (by decide)), isTok_not r ha (.inl (by decide))] at h
      simp only [Bool.false_eq_true, if_false] at h
      obtain ⟨u', hu, hs, -⟩ := oper_leaf (.lit p a ha) e r
      unfold pAtom at h
      rw [hu] at h
      simp only [hr.1, hr.2, Bool.false_eq_true, if_false] at h
      cases h
      exact ⟨rfl, hs⟩
  | cmp p o m c x y a b ho hm hc ha hb la lb iha ihb =>
    intro e n d r u q hr h
    cases n with
    | zero => cases h
    | succ n =>
      rw [pPiece_succ, show [o, x, m, y, c] ++ r = o :: x :: m :: y :: c :: r from rfl, isTok_not _ ho (.inl (by decide)), isTok_cons _ ho] at h
      simp only [Bool.false_eq_true, if_false, if_true, List.tail_cons] at h
      split at h
      · cases h
      · obtain ⟨u1, h1, s1, k1⟩ := oper_leaf ha e (m :: y :: c :: r)
        obtain ⟨u2, h2, s2, k2⟩ := oper_leaf hb e (c :: r)
        have hat : pAtom e (x :: m :: y :: c :: r) = .ok (.mk 2 (m.pos : Int) [] m.op zeroVal [u1, u2]) (c :: r) := by
          unfold pAtom
          rw [h1]
          simp only [isTok_not (y :: c :: r) hm (.inl (by decide : (2 : Int) ≠ 3)), isTok_cons _ hm, Bool.false_eq_true, if_false, if_true, h2]
        have hx1 : isTok 3 kNot (x :: m :: y :: c :: r) = false := by
          rcases k1 with k | k
          · simp [isTok, k]
          · exact isTok_not _ k (.inl (by decide))
        have hx2 : isTok 4 [] (x :: m :: y :: c :: r) = false := by
          rcases k1 with k | k
          · simp [isTok, k]
          · exact isTok_not _ k (.inl (by decide))
        cases n with
        | zero =>
          have : pTest e 0 (d + 1) (x :: m :: y :: c :: r) = .bad 0 := row_bad (row_bad rfl)
          rw [this] at h; cases h
        | succ n =>
          have hp : pPiece e (n + 1) (d + 1) (x :: m :: y :: c :: r) = .ok (.mk 2 (m.pos : Int) [] m.op zeroVal [u1, u2]) (c :: r) := by
            rw [pPiece_succ, hx1, hx2]
            exact hat
          have ht : pTest e (n + 1) (d + 1) (x :: m :: y :: c :: r) = .ok (.mk 2 (m.pos : Int) [] m.op zeroVal [u1, u2]) (c :: r) :=
            row_end (row_end hp (isTok_not _ hc (.inl (by decide)))) (isTok_not _ hc (.inl (by decide)))
          rw [ht] at h
          simp only [isTok_cons _ hc, if_true, List.tail_cons] at h
          cases h
          exact ⟨rfl, .mk (.two s1 s2)⟩
  | null p o i nn c x a ho hi hn hv hc ha la iha =>
    intro e n d r u q hr h
    cases n with
    | zero => cases h
    | succ n =>
      rw [pPiece_succ, show [o, x, i, nn, c] ++ r = o :: x :: i :: nn :: c :: r from rfl, isTok_not _ ho (.inl (by decide)), isTok_cons _ ho] at h
      simp only [Bool.false_eq_true, if_false, if_true, List.tail_cons] at h
      split at h
      · cases h
      · obtain ⟨u1, h1, s1, k1⟩ := oper_leaf ha e (i :: nn :: c :: r)
        have hnl : nullT 0 (nn :: c :: r) = true := by simp [nullT, hn.1, hn.2, hv]
        have hat : pAtom e (x :: i :: nn :: c :: r) = .ok (.node 3 i.pos [u1]) (c :: r) := by
          unfold pAtom
          rw [h1]
          simp only [isTok_cons _ hi, if_true, List.tail_cons]
          unfold pNull
          rw [isTok_not _ hn (.inl (by decide)), hnl]
          rfl
        have hx1 : isTok 3 kNot (x :: i :: nn :: c :: r) = false := by
          rcases k1 with k | k
          · simp [isTok, k]
          · exact isTok_not _ k (.inl (by decide))
        have hx2 : isTok 4 [] (x :: i :: nn :: c :: r) = false := by
          rcases k1 with k | k
          · simp [isTok, k]
          · exact isTok_not _ k (.inl (by decide))
        cases n with
        | zero =>
          have : pTest e 0 (d + 1) (x :: i :: nn :: c :: r) = .bad 0 := row_bad (row_bad rfl)
          rw [this] at h; cases h
        | succ n =>
          have hp : pPiece e (n + 1) (d + 1) (x :: i :: nn :: c :: r) = .ok (.node 3 i.pos [u1]) (c :: r) := by
            rw [pPiece_succ, hx1, hx2]
            exact hat
          have ht : pTest e (n + 1) (d + 1) (x :: i :: nn :: c :: r) = .ok (.node 3 i.pos [u1]) (c :: r) :=
            row_end (row_end hp (isTok_not _ hc (.inl (by decide)))) (isTok_not _ hc (.inl (by decide)))
          rw [ht] at h
          simp only [isTok_cons _ hc, if_true, List.tail_cons] at h
          cases h
          exact ⟨rfl, .mk (.one s1)⟩
  | not p o nn c a x ho hn hc ha iha =>
    intro e n d r u q hr h
    cases n with
    | zero => cases h
    | succ n =>
      rw [pPiece_succ, show (o :: nn :: (x ++ [c])) ++ r = o :: nn :: (x ++ c :: r) from by simp, isTok_not _ ho (.inl (by decide)), isTok_cons _ ho] at h
      simp only [Bool.false_eq_true, if_false, if_true, List.tail_cons] at h
      split at h
      · cases h
      · cases n with
        | zero =>
          have : pTest e 0 (d + 1) (nn :: (x ++ c :: r)) = .bad 0 := row_bad (row_bad rfl)
          rw [this] at h; cases h
        | succ n =>
          cases hq : pPiece e (n + 1) (d + 1) (nn :: (x ++ c :: r)) with
          | bad p =>
            have : pTest e (n + 1) (d + 1) (nn :: (x ++ c :: r)) = .bad p := row_bad (row_bad hq)
            rw [this] at h; cases h
          | ok u1 q1 =>
            have hq0 := hq
            rw [pPiece_succ, isTok_cons _ hn] at hq
            simp only [if_true, List.tail_cons] at hq
            split at hq
            · cases hq
            · cases hq2 : pPiece e n (d + 1 + 1) (x ++ c :: r) with
              | bad p => rw [hq2] at hq; cases hq
              | ok u2 q2 =>
                rw [hq2] at hq
                cases hq
                obtain ⟨rfl, s2⟩ := iha e n _ (c :: r) u2 _ (behind_tok r hc (.inl (by decide)) (by decide)) hq2
                have ht : pTest e (n + 1) (d + 1) (nn :: (x ++ c :: r)) = _ := row_end (row_end hq0 (isTok_not _ hc (.inl (by decide)))) (isTok_not _ hc (.inl (by decide)))
                rw [ht] at h
                simp only [isTok_cons _ hc, if_true, List.tail_cons] at h
                cases h
                exact ⟨rfl, .mk (.one s2)⟩
  | and p o m c a b x y ho hm hc ha hb iha ihb =>
    intro e n d r u q hr h
    cases n with
    | zero => cases h
    | succ n =>
      rw [pPiece_succ, show (o :: (x ++ m :: (y ++ [c]))) ++ r = o :: (x ++ m :: (y ++ c :: r)) from by simp, isTok_not _ ho (.inl (by decide)), isTok_cons _ ho] at h
      simp only [Bool.false_eq_true, if_false, if_true, List.tail_cons] at h
      split at h
      · cases h
      · cases h1 : pPiece e n (d + 1) (x ++ m :: (y ++ c :: r)) with
        | bad p =>
          have : pTest e n (d + 1) (x ++ m :: (y ++ c :: r)) = .bad p := row_bad (row_bad h1)
          rw [this] at h; cases h
        | ok u1 q1 =>
          obtain ⟨rfl, s1⟩ := iha e n _ _ u1 q1 (behind_tok _ hm (.inr (by decide)) (by decide)) h1
          cases h2 : pPiece e n (d + 1) (y ++ c :: r) with
          | bad p =>
            have hb1 : pPart e n (d + 1) (x ++ m :: (y ++ c :: r)) = .bad p := by
              unfold pPart row
              rw [h1]
              show rowP 5 kAnd (pPiece e n (d + 1)) e ((y ++ c :: r).length + 1) u1 (m :: (y ++ c :: r)) = _
              unfold rowP
              rw [isTok_cons _ hm]
              simp only [if_true, List.tail_cons, h2]
            have : pTest e n (d + 1) (x ++ m :: (y ++ c :: r)) = .bad p := row_bad hb1
            rw [this] at h; cases h
          | ok u2 q2 =>
            obtain ⟨rfl, s2⟩ := ihb e n _ _ u2 q2 (behind_tok _ hc (.inl (by decide)) (by decide)) h2
            have ht : pTest e n (d + 1) (x ++ m :: (y ++ c :: r)) = .ok (.node 5 m.pos [u1, u2]) (c :: r) :=
              row_end (row_two h1 hm h2 (isTok_not _ hc (.inl (by decide)))) (isTok_not _ hc (.inl (by decide)))
            rw [ht] at h
            simp only [isTok_cons _ hc, if_true, List.tail_cons] at h
            cases h
            exact ⟨rfl, .mk (.two s1 s2)⟩
  | or p o m c a b x y ho hm hc ha hb iha ihb =>
    intro e n d r u q hr h
    cases n with
    | zero => cases h
    | succ n =>
      rw [pPiece_succ, show (o :: (x ++ m :: (y ++ [c]))) ++ r = o :: (x ++ m :: (y ++ c :: r)) from by simp, isTok_not _ ho (.inl (by decide)), isTok_cons _ ho] at h
      simp only [Bool.false_eq_true, if_false, if_true, List.tail_cons] at h
      split at h
      · cases h
      · cases h1 : pPiece e n (d + 1) (x ++ m :: (y ++ c :: r)) with
        | bad p =>
          have : pTest e n (d + 1) (x ++ m :: (y ++ c :: r)) = .bad p := row_bad (row_bad h1)
          rw [this] at h; cases h
        | ok u1 q1 =>
          obtain ⟨rfl, s1⟩ := iha e n _ _ u1 q1 (behind_tok _ hm (.inr (by decide)) (by decide)) h1
          have hpa : pPart e n (d + 1) (x ++ m :: (y ++ c :: r)) = .ok u1 (m :: (y ++ c :: r)) := row_end h1 (isTok_not _ hm (.inr (by decide)))
          cases h2 : pPiece e n (d + 1) (y ++ c :: r) with
          | bad p =>
            have hpb : pPart e n (d + 1) (y ++ c :: r) = .bad p := row_bad h2
            have : pTest e n (d + 1) (x ++ m :: (y ++ c :: r)) = .bad p := by
              unfold pTest row
              rw [hpa]
              show rowP 6 kOr (pPart e n (d + 1)) e ((y ++ c :: r).length + 1) u1 (m :: (y ++ c :: r)) = _
              unfold rowP
              rw [isTok_cons _ hm]
              simp only [if_true, List.tail_cons, hpb]
            rw [this] at h; cases h
          | ok u2 q2 =>
            obtain ⟨rfl, s2⟩ := ihb e n _ _ u2 q2 (behind_tok _ hc (.inl (by decide)) (by decide)) h2
            have hpb : pPart e n (d + 1) (y ++ c :: r) = .ok u2 (c :: r) := row_end h2 (isTok_not _ hc (.inl (by decide)))
            have ht : pTest e n (d + 1) (x ++ m :: (y ++ c :: r)) = .ok (.node 6 m.pos [u1, u2]) (c :: r) :=
              row_two hpa hm hpb (isTok_not _ hc (.inl (by decide)))
            rw [ht] at h
            simp only [isTok_cons _ hc, if_true, List.tail_cons] at h
            cases h
            exact ⟨rfl, .mk (.two s1 s2)⟩
/-- the tokens of a test, read as a whole text -/
theorem parse_toks {t : Tree} {x : List Tk} (h : Toks t x) {e : Nat} {u : Tree} {q : List Tk} (hp : parseL e x = .ok u q) : Sim u t := by
  unfold parseL at hp
  cases h1 : pPiece e (x.length + 1) 0 x with
  | bad p =>
    have : pTest e (x.length + 1) 0 x = .bad p := row_bad (row_bad h1)
    rw [this] at hp; cases hp
  | ok u1 q1 =>
    have h2 := piece_toks h e (x.length + 1) 0 [] u1 q1 ⟨rfl, rfl⟩ (by rw [List.append_nil]; exact h1)
    obtain ⟨rfl, s1⟩ := h2
    have ht : pTest e (x.length + 1) 0 x = .ok u1 [] := row_end (row_end h1 rfl) rfl
    rw [ht] at hp
    simp only [ne_eq, not_true_eq_false, if_false] at hp
    split at hp
    · cases hp
    · cases hp; exact s1
end Go.Proofs.YtfkghfmgeholeaaGreatDoor
namespace Go.Proofs.YtfkghfmgeholeaaGreatDoor
open Go.RowKit

-- bytes of the texts of values
theorem wordB_dig (d : Nat) (h : d < 16) : wordB (dig d) = true := by
  have : ∀ d, d < 16 → wordB (dig d) = true := by decide
  exact this d h
theorem wordB_isDig {c : UInt8} (h : c = 45 ∨ isDig c) : wordB c = true := by
  rcases h with rfl | ⟨h1, h2⟩
  · decide
  · unfold wordB digB
    simp [h1, h2]
theorem hexN_word (k n : Nat) : ∀ c ∈ hexN k n, wordB c = true := by
  induction k with
  | zero => intro c hc; cases hc
  | succ k ih =>
    intro c hc
    unfold hexN at hc
    simp only [List.mem_cons] at hc
    rcases hc with rfl | hc
    · exact wordB_dig _ (by omega)
    · exact ih c hc
theorem hexL_word (l : List UInt8) : ∀ c ∈ hexL l, wordB c = true := by
  induction l with
  | nil => intro c hc; cases hc
  | cons a l ih =>
    intro c hc
    have ha := a.toNat_lt
    unfold hexL at hc
    simp only [List.mem_cons] at hc
    rcases hc with rfl | rfl | hc
    · exact wordB_dig _ (by omega)
    · exact wordB_dig _ (by omega)
    · exact ih c hc
theorem itoa_word (n : Int) : ∀ c ∈ Lib.itoa n, wordB c = true := fun c h => wordB_isDig (itoa_bytes n c h)
theorem printL_word (u : Nat) : ∀ c ∈ printL u, wordB c = true := by
  have lit : ∀ l : List UInt8, (l.all wordB) = true → ∀ c ∈ l, wordB c = true := fun l h c hc => List.all_eq_true.1 h c hc
  unfold printL
  split
  · exact lit _ (by decide)
  · split
    · exact lit _ (by decide)
    · split
      · exact lit _ (by decide)
      · split
        · split
          · exact lit _ (by decide)
          · intro c hc
            rcases List.mem_append.1 hc with h | h
            · exact itoa_word _ c h
            · exact lit [46] (by decide) c h
        · intro c hc
          rcases List.mem_append.1 hc with h | h
          · exact lit [48, 120] (by decide) c h
          · exact hexN_word _ _ c h
theorem printVL_word (v : Val) : ∀ c ∈ printVL v, wordB c = true := by
  have lit : ∀ l : List UInt8, (l.all wordB) = true → ∀ c ∈ l, wordB c = true := fun l h c hc => List.all_eq_true.1 h c hc
  unfold printVL
  split
  · exact itoa_word _
  · split
    · split <;> exact lit _ (by decide)
    · split
      · intro c hc
        rcases List.mem_cons.1 hc with rfl | hc
        · decide
        · exact hexL_word _ c hc
      · split
        · exact printL_word _
        · exact lit _ (by decide)
-- the tokens of words
/-- what ends a word -/
def Stop (r : List UInt8) : Prop := r.head? = none ∨ r.head? = some 32 ∨ r.head? = some 41
theorem Stop.at {r : List UInt8} (h : Stop r) (p : UInt8 → Bool) (h1 : p 32 = false) (h2 : p 41 = false) : r.head? = none ∨ ∃ c, r.head? = some c ∧ p c = false := by
  rcases h with h | h | h
  · exact .inl h
  · exact .inr ⟨_, h, h1⟩
  · exact .inr ⟨_, h, h2⟩
theorem word_special {c : UInt8} (h : wordB c = true) : ¬ c = 61 ∧ ¬ c = 33 ∧ ¬ c = 60 ∧ ¬ c = 62 ∧ ¬ c = 40 ∧ ¬ c = 41 ∧ ¬ c = 36 ∧ ¬ c = 32 := by
  refine ⟨?_, ?_, ?_, ?_, ?_, ?_, ?_, ?_⟩ <;> (intro e; subst e; revert h; decide)
theorem tok_word {w r : List UInt8} (hw : ∀ c ∈ w, wordB c = true) (hne : w ≠ []) (hr : Stop r) : tokL (w ++ r) = if kwB w then some (⟨3, 0, w, 0, zeroVal⟩, w.length) else if okV w then some (⟨1, 0, [], 0, parseVal w⟩, w.length) else none := by
  have ht : (w ++ r).takeWhile wordB = w := by rw [takeWhile_stop wordB w r (hr.at wordB (by decide) (by decide)), takeWhile_all wordB w hw]
  cases w with
  | nil => exact absurd rfl hne
  | cons c w =>
    obtain ⟨h1, h2, h3, h4, h5, h6, h7, -⟩ := word_special (hw c (by simp))
    rw [List.cons_append] at ht ⊢
    rw [tokL_cons, if_neg h1, if_neg h2, if_neg h3, if_neg h4, if_neg h5, if_neg h6, if_neg h7, ht, if_neg hne]
theorem kw_no (w : List UInt8) (h : okV w = true) : kwB w = false := by
  have h1 : okV kAnd = false := by kernel_rfl
  have h2 : okV kOr = false := by kernel_rfl
  have h3 : okV kNot = false := by kernel_rfl
  have h4 : okV kIs = false := by kernel_rfl
  cases hk : kwB w with
  | false => rfl
  | true =>
    simp only [kwB, Bool.or_eq_true, beq_iff_eq] at hk
    rcases hk with ((rfl | rfl) | rfl) | rfl
    · rw [h1] at h; cases h
    · rw [h2] at h; cases h
    · rw [h3] at h; cases h
    · rw [h4] at h; cases h
theorem tok_value {v : Val} (h : RightC v) (hr : rightOf v = v) (w : v.Wf) {r : List UInt8} (hs : Stop r) : tokL (printVL v ++ r) = some (⟨1, 0, [], 0, v⟩, (printVL v).length) := by
  obtain ⟨h1, h2⟩ := parse_printV h hr w
  have hne : printVL v ≠ [] := fun e => by
    rw [e] at h1
    have h3 : okV [] = false := by kernel_rfl
    rw [h3] at h1; cases h1
  rw [tok_word (printVL_word v) hne hs, kw_no _ h1, h1, h2]
  rfl
theorem tok_col {c r : List UInt8} (h : nameB c = true) (hs : Stop r) : tokL (36 :: (c ++ r)) = some (⟨0, 0, c, 0, zeroVal⟩, 1 + c.length) := by
  obtain ⟨h1, h2, h3⟩ := nameB_small h
  have ht : (c ++ r).takeWhile smallB = c := by rw [takeWhile_stop smallB c r (hs.at smallB (by decide) (by decide)), h1]
  rw [tokL_cons, ht, h]
  rfl
/-- tokens of a text from a place on -/
def lexG (p : Nat) (l : List UInt8) : Option (List Tk) × Nat := lexF l.length p l
theorem lexG_nil (p : Nat) : lexG p [] = (some [], 0) := rfl
theorem lexG_blank (p : Nat) (l : List UInt8) : lexG p (32 :: l) = lexG (p + 1) l := lexF_blank _ _ _
theorem lexG_tok (p : Nat) {s r : List UInt8} {tk : Tk} (ht : tokL (s ++ r) = some (tk, s.length)) (hc : s.head? ≠ some 32) (hne : s ≠ []) : lexG p (s ++ r) = lexEnd [tk.put p] (lexG (p + s.length) r) := by
  cases s with
  | nil => exact absurd rfl hne
  | cons c s =>
    have h32 : ¬ c = 32 := fun e => hc (by rw [e]; rfl)
    unfold lexG
    rw [List.cons_append] at ht ⊢
    rw [List.length_cons, lexF_tok _ _ _ _ h32, ht]
    simp only
    have hd : (c :: (s ++ r)).drop (c :: s).length = r := by rw [← List.cons_append, List.drop_left]
    rw [hd, lexF_fuel (s ++ r).length r.length _ r (by rw [List.length_append]; omega) (Nat.le_refl _)]
    cases lexF r.length (p + (c :: s).length) r with
    | mk a b => cases a <;> rfl
theorem lexEnd_nil (r : Option (List Tk) × Nat) (h : ∀ x, r.1 = some x → r.2 = 0) : lexEnd [] r = r := by
  obtain ⟨a, b⟩ := r
  cases a with
  | none => rfl
  | some x => have := h x rfl; simp only at this; subst this; rfl
theorem lexEnd_two (x y : List Tk) (r : Option (List Tk) × Nat) : lexEnd x (lexEnd y r) = lexEnd (x ++ y) r := by
  obtain ⟨a, b⟩ := r
  cases a with
  | none => rfl
  | some z => show (some (x ++ (y ++ z)), 0) = (some (x ++ y ++ z), 0); rw [List.append_assoc]
/-- the bytes s are cut into tokens of that kind, whatever ends them -/
def Cuts (s : List UInt8) (R : List Tk → Prop) : Prop := ∀ (p : Nat) (r : List UInt8), Stop r → ∃ x, R x ∧ lexG p (s ++ r) = lexEnd x (lexG (p + s.length) r)
theorem cuts_tok {s : List UInt8} {tk : Tk} (h : ∀ r, Stop r → tokL (s ++ r) = some (tk, s.length)) (hc : s.head? ≠ some 32) (hne : s ≠ []) (R : List Tk → Prop) (hR : ∀ p, R [tk.put p]) : Cuts s R := fun p r hr => ⟨[tk.put p], hR p, lexG_tok p (h r hr) hc hne⟩
theorem cuts_col {c : List UInt8} (h : nameB c = true) (q : Int) : Cuts (36 :: c) (Toks (.mk 0 q c 0 zeroVal [])) :=
  cuts_tok (tk := ⟨0, 0, c, 0, zeroVal⟩) (fun r hr => by have := tok_col h hr; rw [List.cons_append, this, List.length_cons, Nat.add_comm]) (fun e => by cases e) (by simp) _ (fun p => .col q ⟨0, p, c, 0, zeroVal⟩ rfl)
theorem cuts_lit {v : Val} (h : RightC v) (hr : rightOf v = v) (w : v.Wf) (q : Int) : Cuts (printVL v) (Toks (.mk 1 q [] 0 v [])) := by
  obtain ⟨h1, -⟩ := parse_printV h hr w
  have hne : printVL v ≠ [] := fun e => by
    rw [e] at h1
    have h3 : okV [] = false := by kernel_rfl
    rw [h3] at h1; cases h1
  refine cuts_tok (tk := ⟨1, 0, [], 0, v⟩) (fun r hs => tok_value h hr w hs) (fun e => ?_) hne _ (fun p => .lit q ⟨1, p, [], 0, v⟩ ⟨rfl, rfl⟩)
  have hw := printVL_word v
  cases hp : printVL v with
  | nil => exact hne hp
  | cons c l =>
    rw [hp] at e hw
    cases e
    exact (word_special (hw 32 (by simp))).2.2.2.2.2.2.2 rfl
theorem stop_blank (l : List UInt8) : Stop (32 :: l) := .inr (.inl rfl)
theorem stop_close (l : List UInt8) : Stop (41 :: l) := .inr (.inr rfl)
theorem lex_open (p : Nat) (l : List UInt8) : lexG p (40 :: l) = lexEnd [⟨4, p, [], 0, zeroVal⟩] (lexG (p + 1) l) :=
  lexG_tok (s := [40]) p (tk := Tk.plain 4 0) (by rw [List.singleton_append, tokL_cons]; rfl) (by decide) (by simp)
theorem lex_close (p : Nat) (l : List UInt8) : lexG p (41 :: l) = lexEnd [⟨5, p, [], 0, zeroVal⟩] (lexG (p + 1) l) :=
  lexG_tok (s := [41]) p (tk := Tk.plain 5 0) (by rw [List.singleton_append, tokL_cons]; rfl) (by decide) (by simp)
theorem lex_kw {w : List UInt8} (hw : kwB w = true) (p : Nat) (l : List UInt8) (hs : Stop l) : lexG p (w ++ l) = lexEnd [⟨3, p, w, 0, zeroVal⟩] (lexG (p + w.length) l) := by
  have hk := hw
  simp only [kwB, Bool.or_eq_true, beq_iff_eq] at hk
  have h1 : (∀ c ∈ w, wordB c = true) ∧ w ≠ [] ∧ w.head? ≠ some 32 := by
    rcases hk with ((rfl | rfl) | rfl) | rfl <;> decide
  exact lexG_tok p (tk := ⟨3, 0, w, 0, zeroVal⟩) (by rw [tok_word h1.1 h1.2.1 hs, hw]; rfl) h1.2.2 h1.2.1
/-- the texts of the comparisons, a blank behind -/
def opTextL : Int → List UInt8 := fun o => if o = 0 then [61] else if o = 1 then [33, 61] else if o = 2 then [60] else if o = 3 then [60, 61] else if o = 4 then [62] else [62, 61]
theorem lex_op {o : Int} (h0 : 0 ≤ o) (h1 : o ≤ 5) (p : Nat) (l : List UInt8) : lexG p (opTextL o ++ 32 :: l) = lexEnd [⟨2, p, [], o, zeroVal⟩] (lexG (p + (opTextL o).length) (32 :: l)) := by
  rcases (by omega : o = 0 ∨ o = 1 ∨ o = 2 ∨ o = 3 ∨ o = 4 ∨ o = 5) with rfl | rfl | rfl | rfl | rfl | rfl
  · exact lexG_tok (s := [61]) p (tk := Tk.plain 2 0) (by rw [List.singleton_append, tokL_cons]; rfl) (by decide) (by simp)
  · exact lexG_tok (s := [33, 61]) p (tk := Tk.plain 2 1) (by show tokL (33 :: 61 :: 32 :: l) = _; rw [tokL_cons]; rfl) (by decide) (by simp)
  · exact lexG_tok (s := [60]) p (tk := Tk.plain 2 2) (by show tokL (60 :: 32 :: l) = _; rw [tokL_cons]; rfl) (by decide) (by simp)
  · exact lexG_tok (s := [60, 61]) p (tk := Tk.plain 2 3) (by show tokL (60 :: 61 :: 32 :: l) = _; rw [tokL_cons]; rfl) (by decide) (by simp)
  · exact lexG_tok (s := [62]) p (tk := Tk.plain 2 4) (by show tokL (62 :: 32 :: l) = _; rw [tokL_cons]; rfl) (by decide) (by simp)
  · exact lexG_tok (s := [62, 61]) p (tk := Tk.plain 2 5) (by show tokL (62 :: 61 :: 32 :: l) = _; rw [tokL_cons]; rfl) (by decide) (by simp)
end Go.Proofs.YtfkghfmgeholeaaGreatDoor
namespace Go.Proofs.YtfkghfmgeholeaaGreatDoor
open Go.RowKit

def printK (k : Int) (c : List UInt8) (o : Int) (v : Val) (l : List (List UInt8)) : List UInt8 :=
  if k = 0 then 36 :: c else if k = 1 then printVL (rightOf v)
  else if k = 2 then 40 :: (l.getD 0 [] ++ 32 :: (opTextL o ++ 32 :: (l.getD 1 [] ++ [41])))
  else if k = 3 then 40 :: (l.getD 0 [] ++ 32 :: (kIs ++ 32 :: (tNull ++ [41])))
  else if k = 4 then 40 :: (kNot ++ 32 :: (l.getD 0 [] ++ [41]))
  else if k = 5 then 40 :: (l.getD 0 [] ++ 32 :: (kAnd ++ 32 :: (l.getD 1 [] ++ [41])))
  else 40 :: (l.getD 0 [] ++ 32 :: (kOr ++ 32 :: (l.getD 1 [] ++ [41])))
mutual
/-- the text of a right test -/
def printT : Tree → List UInt8
  | .mk k _ c o v l => printK k c o v (printTs l)
def printTs : List Tree → List (List UInt8)
  | [] => []
  | t :: l => printT t :: printTs l
end
def kidsN (k : Int) : Nat := if k = 2 ∨ k = 5 ∨ k = 6 then 2 else if k = 3 ∨ k = 4 then 1 else 0
def Val.isZero (v : Val) : Bool := decide (v.k = 0) && decide (v.n = 0) && decide (v.s.data.toList = []) && decide (v.f = 0)
theorem isZero_eq {v : Val} (h : v.isZero = true) : v = zeroVal := by
  obtain ⟨k, n, s, f⟩ := v
  simp only [Val.isZero, Bool.and_eq_true, decide_eq_true_eq] at h
  obtain ⟨⟨⟨rfl, rfl⟩, h3⟩, rfl⟩ := h
  have : s = ⟨#[]⟩ := by
    cases s with | mk d => cases d with | mk l => simp at h3; subst h3; rfl
  subst this
  rfl
/-- what is right of a test itself -/
def rightK (d : Nat) (k : Int) (c : List UInt8) (o : Int) (v : Val) (n : Nat) : Bool :=
  decide (0 ≤ k) && decide (k ≤ 6) && decide (d < 40) && decide (n = kidsN k) && (if k = 0 then nameB c else decide (c = [])) && (if k = 1 then rightB v else v.isZero) && (if k = 2 then decide (0 ≤ o) && decide (o ≤ 5) else decide (o = 0))
mutual
def rightT : Nat → Tree → Bool
  | d, .mk k _ c o v l => rightK d k c o v l.length && rightTs (d + 1) k l
def rightTs : Nat → Int → List Tree → Bool
  | _, _, [] => true
  | d, k, t :: l => (decide (k ≠ 2 ∧ k ≠ 3) || decide (t.k = 0 ∨ t.k = 1)) && rightT d t && rightTs d k l
end
mutual
/-- the values are those of the machine's words -/
def WfT : Tree → Prop
  | .mk _ _ _ _ v l => v.Wf ∧ WfTs l
def WfTs : List Tree → Prop
  | [] => True
  | t :: l => WfT t ∧ WfTs l
end
/-- the forms of a right test -/
inductive Form (d : Nat) : Tree → Prop
  | col (p : Int) (c : List UInt8) : nameB c = true → Form d (.mk 0 p c 0 zeroVal [])
  | lit (p : Int) (v : Val) : rightB v = true → Form d (.mk 1 p [] 0 v [])
  | cmp (p o : Int) (a b : Tree) : 0 ≤ o → o ≤ 5 → a.leaf → b.leaf → rightT (d + 1) a = true → rightT (d + 1) b = true → Form d (.mk 2 p [] o zeroVal [a, b])
  | null (p : Int) (a : Tree) : a.leaf → rightT (d + 1) a = true → Form d (.mk 3 p [] 0 zeroVal [a])
  | not (p : Int) (a : Tree) : rightT (d + 1) a = true → Form d (.mk 4 p [] 0 zeroVal [a])
  | and (p : Int) (a b : Tree) : rightT (d + 1) a = true → rightT (d + 1) b = true → Form d (.mk 5 p [] 0 zeroVal [a, b])
  | or (p : Int) (a b : Tree) : rightT (d + 1) a = true → rightT (d + 1) b = true → Form d (.mk 6 p [] 0 zeroVal [a, b])
theorem right_form {d : Nat} {t : Tree} (h : rightT d t = true) : Form d t ∧ d < 40 := by
  obtain ⟨k, p, c, o, v, l⟩ := t
  simp only [rightT, rightK, Bool.and_eq_true, decide_eq_true_eq] at h
  obtain ⟨⟨⟨⟨⟨⟨⟨h0, h6⟩, hd⟩, hn⟩, hc⟩, hv⟩, ho⟩, hl⟩ := h
  refine ⟨?_, hd⟩
  rcases (by omega : k = 0 ∨ k = 1 ∨ k = 2 ∨ k = 3 ∨ k = 4 ∨ k = 5 ∨ k = 6) with rfl | rfl | rfl | rfl | rfl | rfl | rfl
  · obtain rfl : l = [] := List.eq_nil_of_length_eq_zero hn
    simp at hc hv ho
    subst ho
    rw [isZero_eq hv]
    exact .col p c hc
  · obtain rfl : l = [] := List.eq_nil_of_length_eq_zero hn
    simp at hc hv ho
    subst hc ho
    exact .lit p v hv
  · obtain ⟨a, b, rfl⟩ : ∃ a b, l = [a, b] := by
      have hn2 : l.length = 2 := hn
      match l, hn2 with | [a, b], _ => exact ⟨a, b, rfl⟩
    simp [rightTs] at hc hv ho hl
    subst hc
    rw [isZero_eq hv]
    exact .cmp p o a b ho.1 ho.2 hl.1.1 hl.2.1 hl.1.2 hl.2.2
  · obtain ⟨a, rfl⟩ : ∃ a, l = [a] := by
      have hn2 : l.length = 1 := hn
      match l, hn2 with | [a], _ => exact ⟨a, rfl⟩
    simp [rightTs] at hc hv ho hl
    subst hc ho
    rw [isZero_eq hv]
    exact .null p a hl.1 hl.2
  · obtain ⟨a, rfl⟩ : ∃ a, l = [a] := by
      have hn2 : l.length = 1 := hn
      match l, hn2 with | [a], _ => exact ⟨a, rfl⟩
    simp [rightTs] at hc hv ho hl
    subst hc ho
    rw [isZero_eq hv]
    exact .not p a hl
  · obtain ⟨a, b, rfl⟩ : ∃ a b, l = [a, b] := by
      have hn2 : l.length = 2 := hn
      match l, hn2 with | [a, b], _ => exact ⟨a, b, rfl⟩
    simp [rightTs] at hc hv ho hl
    subst hc ho
    rw [isZero_eq hv]
    exact .and p a b hl.1 hl.2
  · obtain ⟨a, b, rfl⟩ : ∃ a b, l = [a, b] := by
      have hn2 : l.length = 2 := hn
      match l, hn2 with | [a, b], _ => exact ⟨a, b, rfl⟩
    simp [rightTs] at hc hv ho hl
    subst hc ho
    rw [isZero_eq hv]
    exact .or p a b hl.1 hl.2
theorem toks_leaf {t : Tree} {x : List Tk} (h : Toks t x) (hl : t.leaf) : ∃ a, x = [a] := by
  cases h with
  | col p a ha => exact ⟨_, rfl⟩
  | lit p a ha => exact ⟨_, rfl⟩
  | cmp => rcases hl with h | h <;> cases h
  | null => rcases hl with h | h <;> cases h
  | not => rcases hl with h | h <;> cases h
  | and => rcases hl with h | h <;> cases h
  | or => rcases hl with h | h <;> cases h
theorem place {p q : Nat} {x y : List Tk} {r : List UInt8} (hx : x = y) (h : p = q) : lexEnd x (lexG p r) = lexEnd y (lexG q r) := by rw [hx, h]
theorem null_value : RightC zeroVal ∧ rightOf zeroVal = zeroVal ∧ zeroVal.Wf ∧ printVL zeroVal = tNull := by
  refine ⟨.null rfl rfl rfl rfl, ?_, wf_small _ _ _ _ (by omega) (by omega) (by omega) (by omega) (by omega) (by omega), rfl⟩
  exact right_self (by kernel_rfl)
/-- the text of a right test is cut into its tokens -/
theorem cuts_print (n : Nat) : ∀ (t : Tree) (d : Nat), t.depth ≤ n → rightT d t = true → WfT t → Cuts (printT t) (Toks t) := by
  induction n with
  | zero => intro t d h; cases t; simp [Tree.depth] at h
  | succ n ih =>
    intro t d hd hr hw
    obtain ⟨hf, -⟩ := right_form hr
    cases hf with
    | col p c hc => exact cuts_col hc p
    | lit p v hv =>
      have hs := right_self hv
      have e : printT (.mk 1 p [] 0 v []) = printVL v := by show printVL (rightOf v) = _; rw [hs]
      rw [e]
      exact cuts_lit (right_cases hv) hs hw.1 p
    | cmp p o a b o0 o1 la lb ha hb =>
      simp only [Tree.depth, Tree.deep] at hd
      have ca := ih a (d + 1) (by omega) ha hw.2.1
      have cb := ih b (d + 1) (by omega) hb hw.2.2.1
      intro q r hs
      have e : printT (.mk 2 p [] o zeroVal [a, b]) ++ r = 40 :: (printT a ++ 32 :: (opTextL o ++ 32 :: (printT b ++ 41 :: r))) := by
        show (40 :: (printT a ++ 32 :: (opTextL o ++ 32 :: (printT b ++ [41])))) ++ r = _
        simp
      have el : (printT (.mk 2 p [] o zeroVal [a, b])).length = 1 + (printT a).length + 1 + (opTextL o).length + 1 + (printT b).length + 1 := by
        show (40 :: (printT a ++ 32 :: (opTextL o ++ 32 :: (printT b ++ [41])))).length = _
        simp; omega
      obtain ⟨x, hx, ex⟩ := ca (q + 1) (32 :: (opTextL o ++ 32 :: (printT b ++ 41 :: r))) (stop_blank _)
      obtain ⟨y, hy, ey⟩ := cb (q + 1 + (printT a).length + 1 + (opTextL o).length + 1) (41 :: r) (stop_close _)
      obtain ⟨x1, rfl⟩ := toks_leaf hx la
      obtain ⟨y1, rfl⟩ := toks_leaf hy lb
      refine ⟨_, .cmp p ⟨4, q, [], 0, zeroVal⟩ ⟨2, q + 1 + (printT a).length + 1, [], o, zeroVal⟩ ⟨5, q + 1 + (printT a).length + 1 + (opTextL o).length + 1 + (printT b).length, [], 0, zeroVal⟩ x1 y1 a b ⟨rfl, rfl⟩ ⟨rfl, rfl⟩ ⟨rfl, rfl⟩ hx hy la lb, ?_⟩
      rw [e, lex_open, ex, lexG_blank, lex_op o0 o1, lexG_blank, ey, lex_close, lexEnd_two, lexEnd_two, lexEnd_two, lexEnd_two]
      exact place (by simp [Tk.put]) (by rw [el]; omega)
    | null p a la ha =>
      simp only [Tree.depth, Tree.deep] at hd
      have ca := ih a (d + 1) (by omega) ha hw.2.1
      intro q r hs
      have e : printT (.mk 3 p [] 0 zeroVal [a]) ++ r = 40 :: (printT a ++ 32 :: (kIs ++ 32 :: (tNull ++ 41 :: r))) := by
        show (40 :: (printT a ++ 32 :: (kIs ++ 32 :: (tNull ++ [41])))) ++ r = _
        simp
      have el : (printT (.mk 3 p [] 0 zeroVal [a])).length = 1 + (printT a).length + 1 + 2 + 1 + 4 + 1 := by
        show (40 :: (printT a ++ 32 :: (kIs ++ 32 :: (tNull ++ [41])))).length = _
        simp; omega
      obtain ⟨x, hx, ex⟩ := ca (q + 1) (32 :: (kIs ++ 32 :: (tNull ++ 41 :: r))) (stop_blank _)
      obtain ⟨x1, rfl⟩ := toks_leaf hx la
      obtain ⟨z1, z2, z3, z4⟩ := null_value
      have en := lexG_tok (q + 1 + (printT a).length + 1 + kIs.length + 1) (tok_value z1 z2 z3 (r := 41 :: r) (stop_close _)) (by rw [z4]; decide) (by rw [z4]; decide)
      rw [z4] at en
      refine ⟨_, .null p ⟨4, q, [], 0, zeroVal⟩ ⟨3, q + 1 + (printT a).length + 1, kIs, 0, zeroVal⟩ ⟨1, q + 1 + (printT a).length + 1 + kIs.length + 1, [], 0, zeroVal⟩ ⟨5, q + 1 + (printT a).length + 1 + kIs.length + 1 + tNull.length, [], 0, zeroVal⟩ x1 a ⟨rfl, rfl⟩ ⟨rfl, rfl⟩ ⟨rfl, rfl⟩ rfl ⟨rfl, rfl⟩ hx la, ?_⟩
      rw [e, lex_open, ex, lexG_blank, lex_kw (w := kIs) rfl _ _ (stop_blank _), lexG_blank, en, lex_close, lexEnd_two, lexEnd_two, lexEnd_two, lexEnd_two]
      exact place (by simp [Tk.put]) (by rw [el]; show q + 1 + (printT a).length + 1 + 2 + 1 + 4 + 1 = _; omega)
    | not p a ha =>
      simp only [Tree.depth, Tree.deep] at hd
      have ca := ih a (d + 1) (by omega) ha hw.2.1
      intro q r hs
      have e : printT (.mk 4 p [] 0 zeroVal [a]) ++ r = 40 :: (kNot ++ 32 :: (printT a ++ 41 :: r)) := by
        show (40 :: (kNot ++ 32 :: (printT a ++ [41]))) ++ r = _
        simp
      have el : (printT (.mk 4 p [] 0 zeroVal [a])).length = 1 + 3 + 1 + (printT a).length + 1 := by
        show (40 :: (kNot ++ 32 :: (printT a ++ [41]))).length = _
        simp; omega
      obtain ⟨x, hx, ex⟩ := ca (q + 1 + kNot.length + 1) (41 :: r) (stop_close _)
      refine ⟨_, .not p ⟨4, q, [], 0, zeroVal⟩ ⟨3, q + 1, kNot, 0, zeroVal⟩ ⟨5, q + 1 + kNot.length + 1 + (printT a).length, [], 0, zeroVal⟩ a x ⟨rfl, rfl⟩ ⟨rfl, rfl⟩ ⟨rfl, rfl⟩ hx, ?_⟩
      rw [e, lex_open, lex_kw (w := kNot) rfl _ _ (stop_blank _), lexG_blank, ex, lex_close, lexEnd_two, lexEnd_two, lexEnd_two]
      exact place (by simp [Tk.put]) (by rw [el]; show q + 1 + 3 + 1 + (printT a).length + 1 = _; omega)
    | and p a b ha hb =>
      simp only [Tree.depth, Tree.deep] at hd
      have ca := ih a (d + 1) (by omega) ha hw.2.1
      have cb := ih b (d + 1) (by omega) hb hw.2.2.1
      intro q r hs
      have e : printT (.mk 5 p [] 0 zeroVal [a, b]) ++ r = 40 :: (printT a ++ 32 :: (kAnd ++ 32 :: (printT b ++ 41 :: r))) := by
        show (40 :: (printT a ++ 32 :: (kAnd ++ 32 :: (printT b ++ [41])))) ++ r = _
        simp
      have el : (printT (.mk 5 p [] 0 zeroVal [a, b])).length = 1 + (printT a).length + 1 + 3 + 1 + (printT b).length + 1 := by
        show (40 :: (printT a ++ 32 :: (kAnd ++ 32 :: (printT b ++ [41])))).length = _
        simp; omega
      obtain ⟨x, hx, ex⟩ := ca (q + 1) (32 :: (kAnd ++ 32 :: (printT b ++ 41 :: r))) (stop_blank _)
      obtain ⟨y, hy, ey⟩ := cb (q + 1 + (printT a).length + 1 + kAnd.length + 1) (41 :: r) (stop_close _)
      refine ⟨_, .and p ⟨4, q, [], 0, zeroVal⟩ ⟨3, q + 1 + (printT a).length + 1, kAnd, 0, zeroVal⟩ ⟨5, q + 1 + (printT a).length + 1 + kAnd.length + 1 + (printT b).length, [], 0, zeroVal⟩ a b x y ⟨rfl, rfl⟩ ⟨rfl, rfl⟩ ⟨rfl, rfl⟩ hx hy, ?_⟩
      rw [e, lex_open, ex, lexG_blank, lex_kw (w := kAnd) rfl _ _ (stop_blank _), lexG_blank, ey, lex_close, lexEnd_two, lexEnd_two, lexEnd_two, lexEnd_two]
      exact place (by simp [Tk.put]) (by rw [el]; show q + 1 + (printT a).length + 1 + 3 + 1 + (printT b).length + 1 = _; omega)
    | or p a b ha hb =>
      simp only [Tree.depth, Tree.deep] at hd
      have ca := ih a (d + 1) (by omega) ha hw.2.1
      have cb := ih b (d + 1) (by omega) hb hw.2.2.1
      intro q r hs
      have e : printT (.mk 6 p [] 0 zeroVal [a, b]) ++ r = 40 :: (printT a ++ 32 :: (kOr ++ 32 :: (printT b ++ 41 :: r))) := by
        show (40 :: (printT a ++ 32 :: (kOr ++ 32 :: (printT b ++ [41])))) ++ r = _
        simp
      have el : (printT (.mk 6 p [] 0 zeroVal [a, b])).length = 1 + (printT a).length + 1 + 2 + 1 + (printT b).length + 1 := by
        show (40 :: (printT a ++ 32 :: (kOr ++ 32 :: (printT b ++ [41])))).length = _
        simp; omega
      obtain ⟨x, hx, ex⟩ := ca (q + 1) (32 :: (kOr ++ 32 :: (printT b ++ 41 :: r))) (stop_blank _)
      obtain ⟨y, hy, ey⟩ := cb (q + 1 + (printT a).length + 1 + kOr.length + 1) (41 :: r) (stop_close _)
      refine ⟨_, .or p ⟨4, q, [], 0, zeroVal⟩ ⟨3, q + 1 + (printT a).length + 1, kOr, 0, zeroVal⟩ ⟨5, q + 1 + (printT a).length + 1 + kOr.length + 1 + (printT b).length, [], 0, zeroVal⟩ a b x y ⟨rfl, rfl⟩ ⟨rfl, rfl⟩ ⟨rfl, rfl⟩ hx hy, ?_⟩
      rw [e, lex_open, ex, lexG_blank, lex_kw (w := kOr) rfl _ _ (stop_blank _), lexG_blank, ey, lex_close, lexEnd_two, lexEnd_two, lexEnd_two, lexEnd_two]
      exact place (by simp [Tk.put]) (by rw [el]; show q + 1 + (printT a).length + 1 + 2 + 1 + (printT b).length + 1 = _; omega)
/-- the text of a right test, read again, is that test but for places, if it is read -/
theorem parse_printT {t : Tree} (hr : rightT 0 t = true) (hw : WfT t) {e : Nat} {x : List Tk} {p : Nat} {u : Tree} {q : List Tk} (hx : lexL (printT t) = (some x, p)) (hp : parseL e x = .ok u q) : Sim u t := by
  have hl := lexL_length hx
  unfold lexL at hx
  rw [if_neg (by omega)] at hx
  obtain ⟨y, hy, ey⟩ := cuts_print t.depth t 0 (Nat.le_refl _) hr hw 0 [] (.inl rfl)
  rw [List.append_nil] at ey
  have : lexG 0 (printT t) = (some x, p) := hx
  rw [this, lexG_nil] at ey
  have hxy : x = y := by
    have : (some x, p) = (some (y ++ []), 0) := ey
    rw [List.append_nil] at this
    exact Option.some.inj (congrArg Prod.fst this)
  subst hxy
  exact parse_toks hy hp
end Go.Proofs.YtfkghfmgeholeaaGreatDoor
namespace Go.Proofs.YtfkghfmgeholeaaGreatDoor
open Go.RowKit

/-- a token of a text of that length -/
structure TokOk (sz : Nat) (a : Tk) : Prop where
  name : a.k = 0 → nameB a.text = true
  val : a.k = 1 → rightB a.v = true ∧ a.v.Wf
  op : a.k = 2 → 0 ≤ a.op ∧ a.op ≤ 5
  pos : a.pos < sz
mutual
/-- right, however deep -/
def rightS : Tree → Bool
  | .mk k _ c o v l => decide (0 ≤ k) && decide (k ≤ 6) && decide (l.length = kidsN k) && (if k = 0 then nameB c else decide (c = [])) && (if k = 1 then rightB v else v.isZero) && (if k = 2 then decide (0 ≤ o) && decide (o ≤ 5) else decide (o = 0)) && rightSs k l
def rightSs : Int → List Tree → Bool
  | _, [] => true
  | k, t :: l => (decide (k ≠ 2 ∧ k ≠ 3) || decide (t.k = 0 ∨ t.k = 1)) && rightS t && rightSs k l
end
mutual
/-- how many parts a test has -/
def Tree.nodes : Tree → Nat
  | .mk _ _ _ _ _ l => Tree.count l + 1
def Tree.count : List Tree → Nat
  | [] => 0
  | t :: l => t.nodes + Tree.count l
end
mutual
/-- all its parts stand within a text of that length -/
def Tree.inside (sz : Nat) : Tree → Prop
  | .mk _ p _ _ _ l => 0 ≤ p ∧ p < (sz : Int) ∧ Tree.insides sz l
def Tree.insides (sz : Nat) : List Tree → Prop
  | [] => True
  | t :: l => t.inside sz ∧ Tree.insides sz l
end
mutual
theorem depth_nodes : ∀ t : Tree, t.depth ≤ t.nodes
  | .mk _ _ _ _ _ l => by have := deep_count l; simp only [Tree.depth, Tree.nodes]; omega
theorem deep_count : ∀ l : List Tree, Tree.deep l ≤ Tree.count l
  | [] => Nat.le_refl _
  | t :: l => by have := depth_nodes t; have := deep_count l; simp only [Tree.deep, Tree.count]; omega
end
theorem rightT_mk (d : Nat) (k p : Int) (c : List UInt8) (o : Int) (v : Val) (l : List Tree) : rightT d (.mk k p c o v l) = (rightK d k c o v l.length && rightTs (d + 1) k l) := by rw [rightT]
theorem rightS_mk (k p : Int) (c : List UInt8) (o : Int) (v : Val) (l : List Tree) : rightS (.mk k p c o v l) = (decide (0 ≤ k) && decide (k ≤ 6) && decide (l.length = kidsN k) && (if k = 0 then nameB c else decide (c = [])) && (if k = 1 then rightB v else v.isZero) && (if k = 2 then decide (0 ≤ o) && decide (o ≤ 5) else decide (o = 0)) && rightSs k l) := by rw [rightS]
theorem depth_mk (k p : Int) (c : List UInt8) (o : Int) (v : Val) (l : List Tree) : (Tree.mk k p c o v l).depth = Tree.deep l + 1 := by rw [Tree.depth]
theorem rightTs_cons (d : Nat) (k : Int) (t : Tree) (l : List Tree) : rightTs d k (t :: l) = ((decide (k ≠ 2 ∧ k ≠ 3) || decide (t.k = 0 ∨ t.k = 1)) && rightT d t && rightTs d k l) := by rw [rightTs]
theorem rightSs_cons (k : Int) (t : Tree) (l : List Tree) : rightSs k (t :: l) = ((decide (k ≠ 2 ∧ k ≠ 3) || decide (t.k = 0 ∨ t.k = 1)) && rightS t && rightSs k l) := by rw [rightSs]
theorem deep_cons (t : Tree) (l : List Tree) : Tree.deep (t :: l) = max t.depth (Tree.deep l) := by rw [Tree.deep]
/-- no part deeper -/
def Fits (d : Nat) (l : List Tree) : Prop := l = [] ∨ d + Tree.deep l ≤ 40
mutual
theorem rightT_iff : ∀ (t : Tree) (d : Nat), rightT d t = true ↔ rightS t = true ∧ d + t.depth ≤ 40
  | .mk k p c o v l, d => by
    have h := rightTs_iff l (d + 1) k
    rw [rightT_mk, rightS_mk, depth_mk, Bool.and_eq_true, h]
    unfold rightK
    simp only [Bool.and_eq_true, decide_eq_true_eq]
    constructor
    · rintro ⟨⟨⟨⟨⟨⟨⟨h1, h2⟩, h3⟩, h4⟩, h5⟩, h6⟩, h7⟩, h8, h9⟩
      refine ⟨⟨⟨⟨⟨⟨⟨h1, h2⟩, h4⟩, h5⟩, h6⟩, h7⟩, h8⟩, ?_⟩
      rcases h9 with rfl | h9
      · show d + (0 + 1) ≤ 40; omega
      · omega
    · rintro ⟨⟨⟨⟨⟨⟨⟨h1, h2⟩, h4⟩, h5⟩, h6⟩, h7⟩, h8⟩, h9⟩
      exact ⟨⟨⟨⟨⟨⟨⟨h1, h2⟩, by omega⟩, h4⟩, h5⟩, h6⟩, h7⟩, h8, .inr (by omega)⟩
theorem rightTs_iff : ∀ (l : List Tree) (d : Nat) (k : Int), rightTs d k l = true ↔ rightSs k l = true ∧ Fits d l
  | [], d, k => ⟨fun _ => ⟨by rw [rightSs], .inl rfl⟩, fun _ => by rw [rightTs]⟩
  | t :: l, d, k => by
    have h1 := rightT_iff t d
    have h2 := rightTs_iff l d k
    rw [rightTs_cons, rightSs_cons]
    simp only [Bool.and_eq_true, h1, h2]
    constructor
    · rintro ⟨⟨a, b, c⟩, e, f⟩
      refine ⟨⟨⟨a, b⟩, e⟩, .inr ?_⟩
      rw [deep_cons]
      rcases f with rfl | f
      · show d + max t.depth 0 ≤ 40; omega
      · omega
    · rintro ⟨⟨⟨a, b⟩, e⟩, f⟩
      rcases f with f | f
      · cases f
      · rw [deep_cons] at f
        exact ⟨⟨a, b, by omega⟩, e, .inr (by omega)⟩
end
/-- what holds of each test that was read -/
structure Good (sz : Nat) (t : Tree) : Prop where
  right : rightS t = true
  wf : WfT t
  ins : t.inside sz
abbrev Oks (sz : Nat) (l : List Tk) : Prop := ∀ a ∈ l, TokOk sz a
theorem Oks.tail {sz : Nat} {l : List Tk} (h : Oks sz l) : Oks sz l.tail := fun a ha => h a (List.mem_of_mem_tail ha)
theorem Oks.at {sz e : Nat} {l : List Tk} (h : Oks sz l) {k : Int} {w : List UInt8} (hl : isTok k w l = true) : pAt e l < sz := by
  cases l with
  | nil => cases hl
  | cons a l => exact (h a (by simp)).pos
theorem zero_isZero : zeroVal.isZero = true := by decide
theorem good_node1 {sz : Nat} {k : Int} {p : Nat} {a : Tree} (hk : k = 3 ∧ a.leaf ∨ k = 4) (hp : p < sz) (h : Good sz a) : Good sz (.node k p [a]) := by
  refine ⟨?_, ⟨zero_wf, h.wf, trivial⟩, by show 0 ≤ (p : Int); omega, by show (p : Int) < sz; omega, h.ins, trivial⟩
  rcases hk with ⟨rfl, hl⟩ | rfl
  · have hl2 : a.k = 0 ∨ a.k = 1 := hl
    simp [rightS, rightSs, kidsN, zero_isZero, h.right, hl2]
  · simp [rightS, rightSs, kidsN, zero_isZero, h.right]
theorem good_node2 {sz : Nat} {k : Int} {p : Nat} {a b : Tree} (hk : k = 5 ∨ k = 6) (hp : p < sz) (h : Good sz a) (g : Good sz b) : Good sz (.node k p [a, b]) := by
  refine ⟨?_, ⟨zero_wf, h.wf, g.wf, trivial⟩, by show 0 ≤ (p : Int); omega, by show (p : Int) < sz; omega, h.ins, g.ins, trivial⟩
  rcases hk with rfl | rfl
  · simp [rightS, rightSs, kidsN, zero_isZero, h.right, g.right]
  · simp [rightS, rightSs, kidsN, zero_isZero, h.right, g.right]
/-- a reading that is good: what it gives, and how much it takes -/
def Reads (sz : Nat) (l : List Tk) (t : Tree) (r : List Tk) : Prop := Good sz t ∧ t.nodes + r.length ≤ l.length ∧ Oks sz r
theorem pOper_good {sz e : Nat} {l : List Tk} (h : Oks sz l) {t : Tree} {r : List Tk} (hr : pOper e l = .ok t r) : Reads sz l t r ∧ t.leaf := by
  cases l with
  | nil => cases hr
  | cons a l =>
    have ha := h a (by simp)
    have hp := ha.pos
    simp only [pOper] at hr
    split at hr
    · rename_i h0
      cases hr
      refine ⟨⟨⟨?_, ⟨zero_wf, trivial⟩, by show 0 ≤ (a.pos : Int); omega, by show (a.pos : Int) < sz; omega, trivial⟩, by simp [Tree.nodes, Tree.count]; omega, h.tail⟩, .inl rfl⟩
      simp [rightS, rightSs, kidsN, zero_isZero, ha.name h0]
    · split at hr
      · rename_i h1
        cases hr
        refine ⟨⟨⟨?_, ⟨(ha.val h1).2, trivial⟩, by show 0 ≤ (a.pos : Int); omega, by show (a.pos : Int) < sz; omega, trivial⟩, by simp [Tree.nodes, Tree.count]; omega, h.tail⟩, .inr rfl⟩
        simp [rightS, rightSs, kidsN, (ha.val h1).1]
      · cases hr
theorem pNull_good {sz e p : Nat} {a : Tree} (hp : p < sz) (ha : Good sz a) (hl : a.leaf) {l : List Tk} (h : Oks sz l) {t : Tree} {r : List Tk} (hr : pNull e a p l = .ok t r) : Good sz t ∧ t.nodes + r.length ≤ l.length + 1 + a.nodes ∧ Oks sz r := by
  unfold pNull at hr
  split at hr
  · rename_i h1
    split at hr
    · rename_i h2
      cases hr
      have := tail_len h1; have := null_len h2
      exact ⟨good_node1 (.inr rfl) hp (good_node1 (.inl ⟨rfl, hl⟩) hp ha), by simp [Tree.nodes, Tree.count] at *; omega, h.tail.tail⟩
    · cases hr
  · split at hr
    · rename_i h2
      cases hr
      have := null_len h2
      exact ⟨good_node1 (.inl ⟨rfl, hl⟩) hp ha, by simp [Tree.nodes, Tree.count] at *; omega, h.tail⟩
    · cases hr
theorem pAtom_good {sz e : Nat} {l : List Tk} (h : Oks sz l) {t : Tree} {r : List Tk} (hr : pAtom e l = .ok t r) : Reads sz l t r := by
  unfold pAtom at hr
  cases ho : pOper e l with
  | bad p => rw [ho] at hr; cases hr
  | ok a q =>
    rw [ho] at hr
    obtain ⟨⟨ga, na, oq⟩, la⟩ := pOper_good h ho
    simp only at hr
    split at hr
    · rename_i h2
      obtain ⟨g1, g2, g3⟩ := pNull_good (oq.at h2) ga la oq.tail hr
      have := tail_len h2
      exact ⟨g1, by omega, g3⟩
    · split at hr
      · rename_i h3
        cases q with
        | nil => cases hr
        | cons b q =>
          simp only at hr
          cases hb : pOper e q with
          | bad p => rw [hb] at hr; cases hr
          | ok c q2 =>
            rw [hb] at hr
            cases hr
            obtain ⟨⟨gc, nc, oc⟩, lc⟩ := pOper_good (fun x hx => oq x (by simp [hx])) hb
            have hb1 := oq b (by simp)
            have hbp := hb1.pos
            have hk : b.k = 2 := by
              simp only [isTok, Bool.and_eq_true, beq_iff_eq] at h3
              exact h3.1
            have hop := hb1.op hk
            have la2 : a.k = 0 ∨ a.k = 1 := la
            have lc2 : c.k = 0 ∨ c.k = 1 := lc
            simp only [List.length_cons] at na
            refine ⟨⟨?_, ⟨zero_wf, ga.wf, gc.wf, trivial⟩, by show 0 ≤ (b.pos : Int); omega, by show (b.pos : Int) < sz; omega, ga.ins, gc.ins, trivial⟩, by simp only [Tree.nodes, Tree.count]; omega, oc⟩
            simp [rightS, rightSs, kidsN, zero_isZero, ga.right, gc.right, la2, lc2, hop.1, hop.2]
      · cases hr
        exact ⟨ga, na, oq⟩
theorem rowP_good {sz e : Nat} {kind : Int} (hk : kind = 5 ∨ kind = 6) {w : List UInt8} {part : List Tk → PRes} (hp : ∀ l t r, Oks sz l → part l = .ok t r → Reads sz l t r) : ∀ (m : Nat) (a : Tree) (l : List Tk) (t : Tree) (r : List Tk), Good sz a → Oks sz l → rowP kind w part e m a l = .ok t r → Good sz t ∧ t.nodes + r.length ≤ l.length + a.nodes ∧ Oks sz r := by
  intro m
  induction m with
  | zero => intro a l t r ha hl h; cases h; exact ⟨ha, by omega, hl⟩
  | succ m ih =>
    intro a l t r ha hl h
    unfold rowP at h
    split at h
    · rename_i h1
      cases hq : part l.tail with
      | bad p => rw [hq] at h; cases h
      | ok u q =>
        rw [hq] at h
        obtain ⟨gu, nu, ou⟩ := hp _ _ _ hl.tail hq
        obtain ⟨g1, g2, g3⟩ := ih _ _ _ _ (good_node2 hk (hl.at h1) ha gu) ou h
        have := tail_len h1
        simp only [Tree.nodes, Tree.count] at g2
        exact ⟨g1, by omega, g3⟩
    · cases h; exact ⟨ha, by omega, hl⟩
theorem row_good {sz e : Nat} {kind : Int} (hk : kind = 5 ∨ kind = 6) {w : List UInt8} {part : List Tk → PRes} (hp : ∀ l t r, Oks sz l → part l = .ok t r → Reads sz l t r) (l : List Tk) (t : Tree) (r : List Tk) (hl : Oks sz l) (h : row kind w part e l = .ok t r) : Reads sz l t r := by
  unfold row at h
  cases hq : part l with
  | bad p => rw [hq] at h; cases h
  | ok u q =>
    rw [hq] at h
    obtain ⟨gu, nu, ou⟩ := hp _ _ _ hl hq
    obtain ⟨g1, g2, g3⟩ := rowP_good hk hp _ _ _ _ _ gu ou h
    exact ⟨g1, by omega, g3⟩
theorem pPiece_good (sz e n : Nat) : ∀ (d : Nat) (l : List Tk) (t : Tree) (r : List Tk), Oks sz l → pPiece e n d l = .ok t r → Reads sz l t r := by
  induction n with
  | zero => intro d l t r hl h; cases h
  | succ n ih =>
    intro d l t r hl h
    rw [pPiece_succ] at h
    split at h
    · rename_i h1
      split at h
      · cases h
      · cases hq : pPiece e n (d + 1) l.tail with
        | bad p => rw [hq] at h; cases h
        | ok u q =>
          rw [hq] at h
          cases h
          obtain ⟨gu, nu, ou⟩ := ih _ _ _ _ hl.tail hq
          have := tail_len h1
          exact ⟨good_node1 (.inr rfl) (hl.at h1) gu, by simp only [Tree.nodes, Tree.count]; omega, ou⟩
    · split at h
      · rename_i h1
        split at h
        · cases h
        · cases hq : pTest e n (d + 1) l.tail with
          | bad p => rw [hq] at h; cases h
          | ok u q =>
            rw [hq] at h
            simp only at h
            split at h
            · rename_i h2
              cases h
              obtain ⟨gu, nu, ou⟩ := row_good (.inr rfl) (fun l t r hl h => row_good (.inl rfl) (ih (d + 1)) l t r hl h) _ _ _ hl.tail hq
              have := tail_len h1; have := tail_len h2
              exact ⟨gu, by omega, ou.tail⟩
            · cases h
      · exact pAtom_good hl h
/-- a test that was read -/
theorem parseL_good {sz e : Nat} {l : List Tk} (hl : Oks sz l) {t : Tree} {r : List Tk} (h : parseL e l = .ok t r) : Good sz t ∧ rightT 0 t = true ∧ t.nodes ≤ l.length ∧ t.depth ≤ 40 ∧ r = [] := by
  unfold parseL at h
  cases hq : pTest e (l.length + 1) 0 l with
  | bad p => rw [hq] at h; cases h
  | ok u q =>
    rw [hq] at h
    simp only at h
    split at h
    · cases h
    · split at h
      · cases h
      · rename_i h2
        cases h
        obtain ⟨gu, nu, -⟩ := row_good (.inr rfl) (fun l t r hl h => row_good (.inl rfl) (pPiece_good sz e _ 0) l t r hl h) _ _ _ hl hq
        refine ⟨gu, ?_, by omega, by omega, rfl⟩
        exact (rightT_iff _ _).2 ⟨gu.right, by omega⟩
-- the tokens of a text are such
theorem okV_right {w : List UInt8} (h : okV w = true) : rightB (parseVal w) = true := by
  have hp : parseVal w = candVal w := by unfold parseVal; rw [h]; rfl
  rw [hp]
  cases hr : rightB (candVal w) with
  | true => rfl
  | false =>
    unfold okV at h
    have e : rightOf (candVal w) = zeroVal := by unfold rightOf; rw [hr]; rfl
    rw [e, null_value.2.2.2, beq_iff_eq] at h
    rw [← h, candVal_null] at hr
    have : rightB zeroVal = true := by kernel_rfl
    rw [this] at hr
    cases hr
theorem tokL_ok {l : List UInt8} {tk : Tk} {n : Nat} (h : tokL l = some (tk, n)) : (tk.k = 0 → nameB tk.text = true) ∧ (tk.k = 1 → rightB tk.v = true) ∧ (tk.k = 2 → 0 ≤ tk.op ∧ tk.op ≤ 5) := by
  cases l with
  | nil => cases h
  | cons c t =>
    rw [tokL_cons] at h
    repeat' split at h
    all_goals first | (cases h; done) | skip
    all_goals
      simp only [Option.some.injEq, Prod.mk.injEq] at h
      obtain ⟨rfl, -⟩ := h
      refine ⟨fun h => ?_, fun h => ?_, fun h => ?_⟩
    all_goals first
      | (simp [Tk.plain] at h; done)
      | (simp [Tk.plain]; done)
      | assumption
      | (rename_i hk; exact okV_right hk)
theorem lexF_ok (f : Nat) : ∀ (p : Nat) (l : List UInt8) (x : List Tk) (q : Nat), lexF f p l = (some x, q) → ∀ t ∈ x, (t.k = 0 → nameB t.text = true) ∧ (t.k = 1 → rightB t.v = true) ∧ (t.k = 2 → 0 ≤ t.op ∧ t.op ≤ 5) := by
  induction f with
  | zero => intro p l x q h; cases h; simp
  | succ f ih =>
    intro p l x q h
    cases l with
    | nil => cases h; simp
    | cons c t =>
      by_cases hc : c = 32
      · subst hc
        rw [lexF_blank] at h
        exact ih _ _ _ _ h
      · rw [lexF_tok f p c t hc] at h
        cases ht : tokL (c :: t) with
        | none => rw [ht] at h; cases h
        | some z =>
          obtain ⟨tk, n⟩ := z
          rw [ht] at h
          simp only at h
          cases hr : lexF f (p + n) ((c :: t).drop n) with
          | mk r q2 =>
            rw [hr] at h
            cases r with
            | none => cases h
            | some r =>
              simp only [Prod.mk.injEq, Option.some.injEq] at h
              obtain ⟨rfl, -⟩ := h
              intro u hu
              rcases List.mem_cons.1 hu with rfl | hu
              · exact (show ((tk.put p).k = 0 → _) ∧ _ from tokL_ok (tk := tk) ht)
              · exact ih _ _ _ _ hr u hu
theorem lexL_ok {s : List UInt8} {x : List Tk} {q : Nat} (h : lexL s = (some x, q)) : Oks s.length x := by
  intro t ht
  have h1 := (lexL_stand h).1 t ht
  have h2 := lexL_wf h t ht
  have hl := lexL_length h
  unfold lexL at h
  rw [if_neg (by omega)] at h
  obtain ⟨a, b, c⟩ := lexF_ok _ _ _ _ _ h t ht
  exact ⟨a, fun hk => ⟨b hk, h2⟩, c, by have := h1.high; omega⟩
end Go.Proofs.YtfkghfmgeholeaaGreatDoor
namespace Go.Proofs.YtfkghfmgeholeaaGreatDoor
open Go.RowKit

theorem tokL_stop (c : UInt8) (t r : List UInt8) (h : Stop r) : tokL ((c :: t) ++ r) = tokL (c :: t) := by
  have h1 := takeWhile_stop smallB t r (h.at smallB (by decide) (by decide))
  have h2 := takeWhile_stop wordB (c :: t) r (h.at wordB (by decide) (by decide))
  have h3 : ((t ++ r).head? = some 61) = (t.head? = some 61) := by
    cases t with
    | nil =>
      rw [List.nil_append]
      rcases h with h | h | h <;> rw [h] <;> simp
    | cons d t => rfl
  show tokL (c :: (t ++ r)) = _
  rw [tokL_cons, tokL_cons]
  rw [List.cons_append] at h2
  simp only [h1, h2, h3]
theorem lexG_cons (p : Nat) (c : UInt8) (t : List UInt8) (hc : ¬ c = 32) : lexG p (c :: t) = (match tokL (c :: t) with | none => (none, p) | some (tk, n) => lexEnd [tk.put p] (lexG (p + n) ((c :: t).drop n))) := by
  unfold lexG
  rw [List.length_cons, lexF_tok _ _ _ _ hc]
  cases ht : tokL (c :: t) with
  | none => rfl
  | some z =>
    obtain ⟨tk, n⟩ := z
    obtain ⟨n0, n1⟩ := tokL_pos ht
    simp only
    rw [lexF_fuel t.length ((c :: t).drop n).length (p + n) _ (by rw [List.length_drop, List.length_cons]; omega) (Nat.le_refl _)]
    cases lexF ((c :: t).drop n).length (p + n) ((c :: t).drop n) with
    | mk a b => cases a <;> rfl
theorem lexG_two {p : Nat} {l : List UInt8} {x : List Tk} {q : Nat} (h : lexG p l = (some x, q)) : q = 0 := lexF_zero h
/-- a text's tokens stand where something follows that ends a word -/
theorem lexG_stop (n : Nat) : ∀ (p : Nat) (s : List UInt8) (x : List Tk) (q : Nat) (r : List UInt8), s.length ≤ n → lexG p s = (some x, q) → Stop r → lexG p (s ++ r) = lexEnd x (lexG (p + s.length) r) := by
  induction n with
  | zero =>
    intro p s x q r hn h hr
    obtain rfl : s = [] := List.eq_nil_of_length_eq_zero (by omega)
    cases h
    rw [lexEnd_nil]
    · rfl
    · intro y hy
      cases hg : lexG (p + ([] : List UInt8).length) r with
      | mk a b =>
        rw [hg] at hy
        simp only at hy
        subst hy
        exact lexG_two hg
  | succ n ih =>
    intro p s x q r hn h hr
    cases s with
    | nil =>
      cases h
      rw [lexEnd_nil]
      · rfl
      · intro y hy
        cases hg : lexG (p + ([] : List UInt8).length) r with
        | mk a b =>
          rw [hg] at hy
          simp only at hy
          subst hy
          exact lexG_two hg
    | cons c t =>
      simp only [List.length_cons] at hn
      by_cases hc : c = 32
      · subst hc
        rw [lexG_blank] at h
        rw [List.cons_append, lexG_blank, ih (p + 1) t x q r (by omega) h hr]
        exact place rfl (by simp only [List.length_cons]; omega)
      · rw [lexG_cons p c t hc] at h
        rw [List.cons_append, lexG_cons p c (t ++ r) hc, ← List.cons_append, tokL_stop c t r hr]
        cases ht : tokL (c :: t) with
        | none => rw [ht] at h; cases h
        | some z =>
          obtain ⟨tk, k⟩ := z
          obtain ⟨n0, n1⟩ := tokL_pos ht
          rw [ht] at h
          simp only at h ⊢
          cases hg : lexG (p + k) ((c :: t).drop k) with
          | mk a b =>
            rw [hg] at h
            cases a with
            | none => cases h
            | some y =>
              have hx : x = [tk.put p] ++ y := by
                have := congrArg Prod.fst h
                exact (Option.some.inj this).symm
              subst hx
              have hd : ((c :: t) ++ r).drop k = (c :: t).drop k ++ r := List.drop_append_of_le_length n1
              rw [hd, ih (p + k) _ y b r (by rw [List.length_drop, List.length_cons]; omega) hg hr, lexEnd_two]
              exact place rfl (by rw [List.length_drop]; omega)
theorem lexG_shift {p d : Nat} {s : List UInt8} {x : List Tk} {q : Nat} (h : lexG p s = (some x, q)) : lexG (p + d) s = (some (shiftL d x), q) := lexF_shift _ _ _ _ _ _ h
theorem bare_shift (d : Nat) (x : List Tk) : bare (shiftL d x) = bare x := by
  unfold bare shiftL
  rw [List.map_map]
  rfl
theorem lexL_G {s : List UInt8} (h : s.length ≤ 2000) : lexL s = lexG 0 s := by
  unfold lexL lexG
  rw [if_neg (by omega)]
/-- brackets around -/
theorem lex_wrap {s : List UInt8} {x : List Tk} {q : Nat} (h : lexL s = (some x, q)) (hl : s.length + 2 ≤ 2000) : lexL (40 :: (s ++ [41])) = (some (⟨4, 0, [], 0, zeroVal⟩ :: (shiftL 1 x ++ [⟨5, 1 + s.length, [], 0, zeroVal⟩])), 0) := by
  have h0 := (lexL_length h).2.2
  rw [lexL_G (by omega)] at h
  rw [lexL_G (by simp; omega), lex_open, lexG_stop s.length (0 + 1) s (shiftL 1 x) q [41] (Nat.le_refl _) (by have := lexG_shift (d := 1) h; exact this) (stop_close _), lex_close, lexG_nil, Nat.zero_add]
  rfl
/-- not ahead of brackets -/
theorem lex_not {s : List UInt8} {x : List Tk} {q : Nat} (h : lexL s = (some x, q)) (hl : s.length + 6 ≤ 2000) : lexL (kNot ++ 32 :: 40 :: (s ++ [41])) = (some (⟨3, 0, kNot, 0, zeroVal⟩ :: ⟨4, 4, [], 0, zeroVal⟩ :: (shiftL 5 x ++ [⟨5, 5 + s.length, [], 0, zeroVal⟩])), 0) := by
  rw [lexL_G (by omega)] at h
  rw [lexL_G (by simp; omega), lex_kw (w := kNot) rfl 0 _ (stop_blank _), lexG_blank, lex_open, lexG_stop s.length _ s (shiftL 5 x) q [41] (Nat.le_refl _) (by have := lexG_shift (d := 5) h; exact this) (stop_close _), lex_close, lexG_nil]
  rfl
/-- a column more -/
theorem lex_or {s : List UInt8} {x : List Tk} {q : Nat} (h : lexL s = (some x, q)) (hl : s.length + 7 ≤ 2000) : lexL (s ++ 32 :: (kOr ++ 32 :: 36 :: [122, 122])) = (some (x ++ [⟨3, s.length + 1, kOr, 0, zeroVal⟩, ⟨0, s.length + 4, [122, 122], 0, zeroVal⟩]), 0) := by
  rw [lexL_G (by omega)] at h
  have hz := lexG_tok (s := [36, 122, 122]) (r := []) (s.length + 4) (tk := ⟨0, 0, [122, 122], 0, zeroVal⟩) (by have := tok_col (c := [122, 122]) (r := []) (by decide) (.inl rfl); exact this) (by decide) (by decide)
  rw [lexL_G (by simp; omega), lexG_stop s.length 0 s x q _ (Nat.le_refl _) h (stop_blank _), Nat.zero_add, lexG_blank, lex_kw (w := kOr) rfl _ _ (stop_blank _), lexG_blank]
  rw [show s.length + 1 + kOr.length + 1 = s.length + 4 from rfl]
  rw [show (36 : UInt8) :: [122, 122] = [36, 122, 122] ++ [] from rfl, hz, lexG_nil]
  rfl
end Go.Proofs.YtfkghfmgeholeaaGreatDoor
namespace Go.Proofs.YtfkghfmgeholeaaGreatDoor
open Go.RowKit

/-- places grow, from m on -/
def Inc : Nat → List Tk → Prop
  | _, [] => True
  | m, t :: l => m ≤ t.pos ∧ Inc (t.pos + 1) l
theorem Inc.mono {m m' : Nat} (h : m' ≤ m) {l : List Tk} (hl : Inc m l) : Inc m' l := by
  cases l with
  | nil => trivial
  | cons t l => exact ⟨Nat.le_trans h hl.1, hl.2⟩
theorem Inc.next {m : Nat} {t : Tk} {l : List Tk} (h : Inc m (t :: l)) : Inc (m + 1) l := Inc.mono (by have := h.1; omega) h.2
theorem Inc.drop (pre : List Tk) : ∀ {m : Nat} {l : List Tk}, Inc m (pre ++ l) → Inc m l := by
  induction pre with
  | nil => intro m l h; exact h
  | cons t pre ih =>
    intro m l h
    exact ih (Inc.mono (by omega) h.next)
theorem inc_of {l : List Tk} (h : l.Pairwise (fun a b => a.pos < b.pos)) : ∀ m, (∀ t ∈ l, m ≤ t.pos) → Inc m l := by
  induction l with
  | nil => intro m _; trivial
  | cons t l ih =>
    intro m hm
    rw [List.pairwise_cons] at h
    exact ⟨hm t (by simp), ih h.2 _ fun u hu => h.1 u hu⟩
theorem bare_nil {y : List Tk} (h : bare y = bare []) : y = [] := by
  cases y with
  | nil => rfl
  | cons a y => simp [bare] at h
theorem bare_cons {y x : List Tk} {a : Tk} (h : bare y = bare (a :: x)) : ∃ b y', y = b :: y' ∧ b.k = a.k ∧ b.text = a.text ∧ b.op = a.op ∧ b.v = a.v ∧ bare y' = bare x := by
  cases y with
  | nil => simp [bare] at h
  | cons b y =>
    simp only [bare, List.map_cons, List.cons.injEq] at h
    obtain ⟨h1, h2⟩ := h
    have e := h1
    simp only [Tk.put, Tk.mk.injEq] at e
    exact ⟨b, y, rfl, e.1, e.2.2.1, e.2.2.2.1, e.2.2.2.2, h2⟩
theorem isTok_bare {x y : List Tk} (h : bare y = bare x) (z : List Tk) (hx : x ≠ []) (k : Int) (w : List UInt8) : isTok k w (y ++ z) = isTok k w x := by
  cases x with
  | nil => exact absurd rfl hx
  | cons a x =>
    obtain ⟨b, y', rfl, h1, h2, -⟩ := bare_cons h
    simp [isTok, h1, h2]
theorem isTok_ne {k : Int} {w : List UInt8} {x : List Tk} (h : isTok k w x = true) : x ≠ [] := by
  intro e; rw [e] at h; cases h
theorem sim_refl_leaf {k p p' : Int} {c : List UInt8} {o : Int} {v : Val} : Sim (.mk k p c o v []) (.mk k p' c o v []) := .mk .nil
theorem pOper_ext {e e' : Nat} {x : List Tk} {t : Tree} {r : List Tk} (h : pOper e x = .ok t r) {y : List Tk} (hy : bare y = bare x) (z : List Tk) : ∃ b y' t', y = b :: y' ∧ pOper e' (y ++ z) = .ok t' (y' ++ z) ∧ Sim t' t ∧ bare y' = bare r := by
  cases x with
  | nil => cases h
  | cons a x =>
    obtain ⟨b, y', rfl, h1, h2, h3, h4, h5⟩ := bare_cons hy
    simp only [pOper] at h
    split at h
    · rename_i h0
      cases h
      refine ⟨b, y', .mk 0 (b.pos : Int) b.text 0 zeroVal [], rfl, ?_, by rw [h2]; exact sim_refl_leaf, h5⟩
      simp only [List.cons_append, pOper, if_pos (h1.trans h0)]
    · rename_i h0
      split at h
      · rename_i hk
        cases h
        refine ⟨b, y', .mk 1 (b.pos : Int) [] 0 b.v [], rfl, ?_, by rw [h4]; exact sim_refl_leaf, h5⟩
        simp only [List.cons_append, pOper, if_neg (fun e => h0 (h1.symm.trans e)), if_pos (h1.trans hk)]
      · cases h
theorem nullT_bare {x y : List Tk} (h : bare y = bare x) (z : List Tk) (hx : x ≠ []) (k : Int) : nullT k (y ++ z) = nullT k x := by
  cases x with
  | nil => exact absurd rfl hx
  | cons a x =>
    obtain ⟨b, y', rfl, h1, h2, h3, h4, h5⟩ := bare_cons h
    simp [nullT, h1, h2, h4]
theorem nullT_ne {k : Int} {x : List Tk} (h : nullT k x = true) : x ≠ [] := by
  intro e; rw [e] at h; cases h
theorem tail_bare {x y : List Tk} (h : bare y = bare x) (z : List Tk) (hx : x ≠ []) : ∃ b y', y = b :: y' ∧ (y ++ z).tail = y' ++ z ∧ bare y' = bare x.tail := by
  cases x with
  | nil => exact absurd rfl hx
  | cons a x =>
    obtain ⟨b, y', rfl, -, -, -, -, h5⟩ := bare_cons h
    exact ⟨b, y', rfl, rfl, h5⟩
/-- what may stand behind -/
structure Back (z : List Tk) : Prop where
  is : isTok 3 kIs z = false
  op : isTok 2 [] z = false
  and : isTok 3 kAnd z = false
theorem pNull_ext {e e' p p' : Nat} {a a' : Tree} (ha : Sim a' a) {x : List Tk} {t : Tree} {r : List Tk} (h : pNull e a p x = .ok t r) {y : List Tk} (hy : bare y = bare x) (z : List Tk) : ∃ pre y' t', y = pre ++ y' ∧ pNull e' a' p' (y ++ z) = .ok t' (y' ++ z) ∧ Sim t' t ∧ bare y' = bare r := by
  unfold pNull at h
  split at h
  · rename_i h1
    split at h
    · rename_i h2
      cases h
      obtain ⟨b, y1, rfl, e1, hb1⟩ := tail_bare hy z (isTok_ne h1)
      obtain ⟨c, y2, rfl, e2, hb2⟩ := tail_bare hb1 z (nullT_ne h2)
      refine ⟨[b, c], y2, .node 4 p' [.node 3 p' [a']], rfl, ?_, .mk (.one (.mk (.one ha))), hb2⟩
      unfold pNull
      rw [isTok_bare hy z (isTok_ne h1), h1, e1, nullT_bare hb1 z (nullT_ne h2), h2, e2]
      rfl
    · cases h
  · rename_i h1
    split at h
    · rename_i h2
      cases h
      obtain ⟨b, y1, rfl, e1, hb1⟩ := tail_bare hy z (nullT_ne h2)
      refine ⟨[b], y1, .node 3 p' [a'], rfl, ?_, .mk (.one ha), hb1⟩
      unfold pNull
      rw [isTok_bare hy z (nullT_ne h2), nullT_bare hy z (nullT_ne h2), h2, e1]
      simp only [Bool.not_eq_true] at h1
      rw [h1]
      rfl
    · cases h
theorem pAtom_ext {e e' : Nat} {x : List Tk} {t : Tree} {r : List Tk} (h : pAtom e x = .ok t r) {y : List Tk} (hy : bare y = bare x) {z : List Tk} (hz : Back z) : ∃ pre y' t', y = pre ++ y' ∧ pAtom e' (y ++ z) = .ok t' (y' ++ z) ∧ Sim t' t ∧ bare y' = bare r := by
  unfold pAtom at h
  cases ho : pOper e x with
  | bad p => rw [ho] at h; cases h
  | ok a q =>
    rw [ho] at h
    obtain ⟨b, y1, a', rfl, e1, s1, hb1⟩ := pOper_ext (e' := e') ho hy z
    simp only at h
    split at h
    · rename_i h1
      obtain ⟨c, y2, rfl, e2, hb2⟩ := tail_bare hb1 z (isTok_ne h1)
      obtain ⟨pre, y3, t', e3, e4, s4, hb4⟩ := pNull_ext (e' := e') (p' := pAt e' ((c :: y2) ++ z)) s1 h hb2 z
      refine ⟨b :: c :: pre, y3, t', by rw [e3]; rfl, ?_, s4, hb4⟩
      unfold pAtom
      rw [e1]
      simp only [isTok_bare hb1 z (isTok_ne h1), h1, if_true]
      rw [e2]
      exact e4
    · rename_i h1
      split at h
      · rename_i h2
        cases q with
        | nil => cases h
        | cons m q =>
          obtain ⟨c, y2, rfl, k1, k2, k3, k4, hb2⟩ := bare_cons hb1
          simp only at h
          cases hq : pOper e q with
          | bad p => rw [hq] at h; cases h
          | ok u q2 =>
            rw [hq] at h
            cases h
            obtain ⟨g, y3, u', rfl, e3, s3, hb3⟩ := pOper_ext (e' := e') hq hb2 z
            refine ⟨[b, c, g], y3, .mk 2 (c.pos : Int) [] c.op zeroVal [a', u'], rfl, ?_, by rw [k3]; exact .mk (.two s1 s3), hb3⟩
            unfold pAtom
            rw [e1]
            have i1 := isTok_bare hb1 z (isTok_ne h2) 3 kIs
            have i2 := isTok_bare hb1 z (isTok_ne h2) 2 []
            simp only [Bool.not_eq_true] at h1
            rw [h1] at i1
            rw [h2] at i2
            simp only [List.cons_append] at i1 i2 e3 ⊢
            simp only [i1, i2, Bool.false_eq_true, if_false, if_true, e3]
      · rename_i h2
        cases h
        refine ⟨[b], y1, a', rfl, ?_, s1, hb1⟩
        simp only [Bool.not_eq_true] at h1 h2
        unfold pAtom
        rw [e1]
        have i1 : isTok 3 kIs (y1 ++ z) = false := by
          by_cases hq : r = []
          · subst hq; rw [bare_nil hb1]; exact hz.is
          · rw [isTok_bare hb1 z hq]; exact h1
        have i2 : isTok 2 [] (y1 ++ z) = false := by
          by_cases hq : r = []
          · subst hq; rw [bare_nil hb1]; exact hz.op
          · rw [isTok_bare hb1 z hq]; exact h2
        simp only [i1, i2, Bool.false_eq_true, if_false]
/-- the same reading, or a fault at a place of 20 at least -/
def Same20 (f' : List Tk → PRes) (y z : List Tk) (t : Tree) (r : List Tk) : Prop := (∃ pre y' t', y = pre ++ y' ∧ f' (y ++ z) = .ok t' (y' ++ z) ∧ Sim t' t ∧ bare y' = bare r) ∨ ∃ p, 20 ≤ p ∧ f' (y ++ z) = .bad p
def Ext (z : List Tk) (m : Nat) (f f' : List Tk → PRes) : Prop := ∀ x t r, f x = .ok t r → ∀ y, bare y = bare x → Inc m (y ++ z) → Same20 f' y z t r
theorem rowP_ext {z : List Tk} {m : Nat} {kind : Int} {w : List UInt8} {part part' : List Tk → PRes} {e e' : Nat} (hp : Ext z m part part') (hl : ∀ l t r, part l = .ok t r → r.length < l.length) : ∀ (M : Nat) (a : Tree) (x : List Tk) (t : Tree) (r : List Tk), x.length ≤ M → rowP kind w part e M a x = .ok t r → (r ≠ [] ∨ isTok 3 w z = false) → ∀ (a' : Tree) (y : List Tk) (M' : Nat), Sim a' a → bare y = bare x → Inc m (y ++ z) → (y ++ z).length ≤ M' →
    (∃ pre y' t', y = pre ++ y' ∧ rowP kind w part' e' M' a' (y ++ z) = .ok t' (y' ++ z) ∧ Sim t' t ∧ bare y' = bare r) ∨ ∃ p, 20 ≤ p ∧ rowP kind w part' e' M' a' (y ++ z) = .bad p := by
  intro M
  induction M with
  | zero =>
    intro a x t r hx h hr a' y M' sa hy hi hM
    obtain rfl : x = [] := List.eq_nil_of_length_eq_zero (by omega)
    cases h
    have hy0 := bare_nil hy
    subst hy0
    refine .inl ⟨[], [], a', rfl, ?_, sa, rfl⟩
    exact rowP_end (by rcases hr with h | h; exact absurd rfl h; exact h)
  | succ M ih =>
    intro a x t r hx h hr a' y M' sa hy hi hM
    unfold rowP at h
    split at h
    · rename_i h1
      obtain ⟨b, y1, rfl, e1, hb1⟩ := tail_bare hy z (isTok_ne h1)
      obtain ⟨M', rfl⟩ : ∃ k, M' = k + 1 := ⟨M' - 1, by simp at hM; omega⟩
      have h2 : isTok 3 w ((b :: y1) ++ z) = true := by rw [isTok_bare hy z (isTok_ne h1)]; exact h1
      have ht := tail_len h1
      cases hq : part x.tail with
      | bad p => rw [hq] at h; cases h
      | ok u q =>
        rw [hq] at h
        have hql := hl _ _ _ hq
        have hi1 : Inc m (y1 ++ z) := Inc.mono (by omega) (Inc.next (t := b) hi)
        rcases hp _ _ _ hq y1 hb1 hi1 with ⟨pre, y2, u', e2, e3, s3, hb3⟩ | ⟨p, hp20, e3⟩
        · have hi2 : Inc m (y2 ++ z) := by
            rw [e2, List.append_assoc] at hi1
            exact hi1.drop pre
          rcases ih _ q t r (by omega) h hr (.node kind (pAt e' ((b :: y1) ++ z)) [a', u']) y2 M' (.mk (.two sa s3)) hb3 hi2 (by simp at hM; have := congrArg List.length e2; simp at this ⊢; omega) with ⟨pre2, y3, t', e4, e5, s5, hb5⟩ | ⟨p, hp20, e5⟩
          · refine .inl ⟨b :: (pre ++ pre2), y3, t', by rw [e2, e4]; simp, ?_, s5, hb5⟩
            unfold rowP
            rw [h2, e1, e3]
            exact e5
          · refine .inr ⟨p, hp20, ?_⟩
            unfold rowP
            rw [h2, e1, e3]
            exact e5
        · refine .inr ⟨p, hp20, ?_⟩
          unfold rowP
          rw [h2, e1, e3]
          rfl
    · rename_i h1
      cases h
      simp only [Bool.not_eq_true] at h1
      refine .inl ⟨[], y, a', rfl, rowP_end ?_, sa, hy⟩
      by_cases hx0 : x = []
      · subst hx0
        rw [bare_nil hy]
        rcases hr with h | h
        · exact absurd rfl h
        · exact h
      · rw [isTok_bare hy z hx0]; exact h1
theorem row_ext {z : List Tk} {m : Nat} {kind : Int} {w : List UInt8} {part part' : List Tk → PRes} {e e' : Nat} (hp : Ext z m part part') (hl : ∀ l t r, part l = .ok t r → r.length < l.length) {x : List Tk} {t : Tree} {r : List Tk} (h : row kind w part e x = .ok t r) (hr : r ≠ [] ∨ isTok 3 w z = false) {y : List Tk} (hy : bare y = bare x) (hi : Inc m (y ++ z)) : Same20 (row kind w part' e') y z t r := by
  unfold row at h
  cases hq : part x with
  | bad p => rw [hq] at h; cases h
  | ok u q =>
    rw [hq] at h
    rcases hp _ _ _ hq y hy hi with ⟨pre, y2, u', e2, e3, s3, hb3⟩ | ⟨p, hp20, e3⟩
    · have hi2 : Inc m (y2 ++ z) := by
        rw [e2, List.append_assoc] at hi
        exact hi.drop pre
      rcases rowP_ext hp hl q.length u q t r (Nat.le_refl _) h hr u' y2 (y2 ++ z).length s3 hb3 hi2 (Nat.le_refl _) with ⟨pre2, y3, t', e4, e5, s5, hb5⟩ | ⟨p, hp20, e5⟩
      · refine .inl ⟨pre ++ pre2, y3, t', by rw [e2, e4]; simp, ?_, s5, hb5⟩
        unfold row
        rw [e3]
        exact e5
      · refine .inr ⟨p, hp20, ?_⟩
        unfold row
        rw [e3]
        exact e5
    · refine .inr ⟨p, hp20, ?_⟩
      unfold row
      rw [e3]
theorem pPiece_ext {z : List Tk} (hz : Back z) (e e' k n : Nat) : ∀ d, Ext z (d + k) (pPiece e n d) (pPiece e' n (d + k)) := by
  induction n with
  | zero => intro d x t r h; cases h
  | succ n ih =>
    intro d x t r h y hy hi
    rw [pPiece_succ] at h
    split at h
    · rename_i h1
      obtain ⟨b, y1, rfl, e1, hb1⟩ := tail_bare hy z (isTok_ne h1)
      have h2 : isTok 3 kNot ((b :: y1) ++ z) = true := by rw [isTok_bare hy z (isTok_ne h1)]; exact h1
      split at h
      · cases h
      · by_cases h20 : 20 ≤ d + k
        · refine .inr ⟨b.pos, Nat.le_trans h20 hi.1, ?_⟩
          rw [pPiece_succ, h2, if_pos h20]
          rfl
        · cases hq : pPiece e n (d + 1) x.tail with
          | bad p => rw [hq] at h; cases h
          | ok u q =>
            rw [hq] at h
            cases h
            have hi1 : Inc (d + 1 + k) (y1 ++ z) := Inc.mono (by omega) (Inc.next (t := b) hi)
            rcases ih (d + 1) _ _ _ hq y1 hb1 hi1 with ⟨pre, y2, u', e2, e3, s3, hb3⟩ | ⟨p, hp20, e3⟩
            · refine .inl ⟨b :: pre, y2, .node 4 (pAt e' ((b :: y1) ++ z)) [u'], by rw [e2]; rfl, ?_, .mk (.one s3), hb3⟩
              rw [pPiece_succ, h2, if_neg h20, e1, show d + k + 1 = d + 1 + k from by omega, e3]
              rfl
            · refine .inr ⟨p, hp20, ?_⟩
              rw [pPiece_succ, h2, if_neg h20, e1, show d + k + 1 = d + 1 + k from by omega, e3]
              rfl
    · rename_i h1
      simp only [Bool.not_eq_true] at h1
      split at h
      · rename_i h3
        obtain ⟨b, y1, rfl, e1, hb1⟩ := tail_bare hy z (isTok_ne h3)
        have h2 : isTok 3 kNot ((b :: y1) ++ z) = false := by rw [isTok_bare hy z (isTok_ne h3)]; exact h1
        have h4 : isTok 4 [] ((b :: y1) ++ z) = true := by rw [isTok_bare hy z (isTok_ne h3)]; exact h3
        split at h
        · cases h
        · by_cases h20 : 20 ≤ d + k
          · refine .inr ⟨b.pos, Nat.le_trans h20 hi.1, ?_⟩
            rw [pPiece_succ, h2, h4]
            simp only [Bool.false_eq_true, if_false, if_true, if_pos h20]
            rfl
          · cases hq : pTest e n (d + 1) x.tail with
            | bad p => rw [hq] at h; cases h
            | ok u q =>
              rw [hq] at h
              simp only at h
              split at h
              · rename_i h5
                cases h
                have hi1 : Inc (d + 1 + k) (y1 ++ z) := Inc.mono (by omega) (Inc.next (t := b) hi)
                have hpart : Ext z (d + 1 + k) (pPart e n (d + 1)) (pPart e' n (d + 1 + k)) := fun x t r h y hy hi => row_ext (ih (d + 1)) (pPiece_len e n (d + 1)) h (.inr hz.and) hy hi
                have htest : Same20 (pTest e' n (d + 1 + k)) y1 z t q := row_ext hpart (fun l t r h => row_len (pPiece_len e n (d + 1)) l t r h) hq (.inl (isTok_ne h5)) hb1 hi1
                rcases htest with ⟨pre, y2, u', e2, e3, s3, hb3⟩ | ⟨p, hp20, e3⟩
                · obtain ⟨c, y3, rfl, e4, hb4⟩ := tail_bare hb3 z (isTok_ne h5)
                  refine .inl ⟨b :: (pre ++ [c]), y3, u', by rw [e2]; simp, ?_, s3, hb4⟩
                  rw [pPiece_succ, h2, h4]
                  simp only [Bool.false_eq_true, if_false, if_true, if_neg h20]
                  rw [e1, show d + k + 1 = d + 1 + k from by omega, e3]
                  simp only [Bool.false_eq_true, if_false, if_true, isTok_bare hb3 z (isTok_ne h5), h5]
                  rw [e4]
                · refine .inr ⟨p, hp20, ?_⟩
                  rw [pPiece_succ, h2, h4]
                  simp only [Bool.false_eq_true, if_false, if_true, if_neg h20]
                  rw [e1, show d + k + 1 = d + 1 + k from by omega, e3]
              · cases h
      · rename_i h3
        simp only [Bool.not_eq_true] at h3
        have hx : x ≠ [] := by
          intro e0
          subst e0
          cases h
        obtain ⟨pre, y2, t', e2, e3, s3, hb3⟩ := pAtom_ext (e' := e') h hy hz
        refine .inl ⟨pre, y2, t', e2, ?_, s3, hb3⟩
        rw [pPiece_succ, isTok_bare hy z hx, isTok_bare hy z hx, h1, h3]
        exact e3
theorem pPart_ext {z : List Tk} (hz : Back z) (e e' k n d : Nat) : Ext z (d + k) (pPart e n d) (pPart e' n (d + k)) := fun x t r h y hy hi => row_ext (pPiece_ext hz e e' k n d) (pPiece_len e n d) h (.inr hz.and) hy hi
theorem pTest_ext {z : List Tk} (hz : Back z) {e e' k n d : Nat} {x : List Tk} {t : Tree} {r : List Tk} (h : pTest e n d x = .ok t r) (hr : r ≠ [] ∨ isTok 3 kOr z = false) {y : List Tk} (hy : bare y = bare x) (hi : Inc (d + k) (y ++ z)) : Same20 (pTest e' n (d + k)) y z t r :=
  row_ext (pPart_ext hz e e' k n d) (fun l t r h => row_len (pPiece_len e n d) l t r h) h hr hy hi
end Go.Proofs.YtfkghfmgeholeaaGreatDoor
namespace Go.Proofs.YtfkghfmgeholeaaGreatDoor
open Go.RowKit

mutual
theorem Sim.depth : ∀ {a b : Tree}, Sim a b → a.depth = b.depth
  | _, _, .mk h => by rw [depth_mk, depth_mk, SimL.deep h]
theorem SimL.deep : ∀ {a b : List Tree}, SimL a b → Tree.deep a = Tree.deep b
  | _, _, .nil => rfl
  | _, _, .cons h g => by rw [deep_cons, deep_cons, Sim.depth h, SimL.deep g]
end
theorem back_close (c : Tk) (h : c.is 5 []) : Back [c] := ⟨isTok_not [] h (.inl (by decide)), isTok_not [] h (.inl (by decide)), isTok_not [] h (.inl (by decide))⟩
theorem parseL_ok {e : Nat} {x : List Tk} {t : Tree} {r : List Tk} (h : parseL e x = .ok t r) : pTest e (x.length + 1) 0 x = .ok t [] ∧ t.depth ≤ 40 ∧ r = [] := by
  unfold parseL at h
  cases hq : pTest e (x.length + 1) 0 x with
  | bad p => rw [hq] at h; cases h
  | ok u q =>
    rw [hq] at h
    simp only at h
    split at h
    · cases h
    · rename_i h1
      split at h
      · cases h
      · rename_i h2
        cases h
        simp only [ne_eq, Decidable.not_not] at h1
        subst h1
        exact ⟨rfl, by omega, rfl⟩
/-- a test in brackets, so deep, is that test -/
theorem wrap_piece {e e' n k : Nat} {x : List Tk} {t : Tree} {o c : Tk} (ho : o.is 4 []) (hc : c.is 5 []) (h : pTest e (x.length + 1) 0 x = .ok t []) {y : List Tk} (hy : bare y = bare x) (hi : Inc (k + 1) (y ++ [c])) (hk : k < 20) (hn : x.length + 1 ≤ n) : (∃ t', pPiece e' (n + 1) k (o :: (y ++ [c])) = .ok t' [] ∧ Sim t' t) ∨ ∃ p, 20 ≤ p ∧ pPiece e' (n + 1) k (o :: (y ++ [c])) = .bad p := by
  rw [pTest_fuel e (x.length + 1) n 0 x (by omega) (by omega)] at h
  have h1 := isTok_not (k' := 3) (w' := kNot) (y ++ [c]) ho (.inl (by decide))
  have h2 := isTok_cons (y ++ [c]) ho
  have := pTest_ext (back_close c hc) (e' := e') (k := k + 1) h (.inr (isTok_not [] hc (.inl (by decide)))) hy (by rw [Nat.zero_add]; exact hi)
  rw [Nat.zero_add] at this
  rcases this with ⟨pre, y', t', e2, e3, s3, hb3⟩ | ⟨p, hp, e3⟩
  · have hy0 := bare_nil hb3
    subst hy0
    refine .inl ⟨t', ?_, s3⟩
    rw [pPiece_succ, h1, h2]
    simp only [Bool.false_eq_true, if_false, if_true, if_neg (Nat.not_le.2 hk), List.tail_cons]
    rw [e3]
    simp only [List.nil_append, isTok_cons [] hc, if_true, List.tail_cons]
  · refine .inr ⟨p, hp, ?_⟩
    rw [pPiece_succ, h1, h2]
    simp only [Bool.false_eq_true, if_false, if_true, if_neg (Nat.not_le.2 hk), List.tail_cons]
    rw [e3]
theorem test_of_piece {e n d : Nat} {l : List Tk} {t : Tree} (h : pPiece e n d l = .ok t []) : pTest e n d l = .ok t [] := row_end (row_end h rfl) rfl
/-- brackets around a text -/
theorem wraps_brackets {e e' : Nat} {x : List Tk} {t : Tree} {r : List Tk} (h : parseL e x = .ok t r) {o c : Tk} (ho : o.is 4 []) (hc : c.is 5 []) {y : List Tk} (hy : bare y = bare x) (hi : Inc 1 (y ++ [c])) : (∃ u, parseL e' (o :: (y ++ [c])) = .ok u [] ∧ Sim u t) ∨ ∃ p, 20 ≤ p ∧ parseL e' (o :: (y ++ [c])) = .bad p := by
  obtain ⟨h1, h2, -⟩ := parseL_ok h
  have hl : y.length = x.length := by have := congrArg List.length hy; simpa [bare] using this
  rcases wrap_piece (e' := e') (n := (o :: (y ++ [c])).length) ho hc h1 hy (k := 0) hi (by omega) (by simp; omega) with ⟨t', e3, s3⟩ | ⟨p, hp, e3⟩
  · refine .inl ⟨t', ?_, s3⟩
    unfold parseL
    rw [test_of_piece e3]
    have := s3.depth
    simp only [ne_eq, not_true_eq_false, if_false, if_neg (show ¬ 40 < t'.depth by omega)]
  · refine .inr ⟨p, hp, ?_⟩
    unfold parseL
    have : pTest e' ((o :: (y ++ [c])).length + 1) 0 (o :: (y ++ [c])) = .bad p := row_bad (row_bad e3)
    rw [this]
/-- not ahead of brackets around a text -/
theorem wraps_not {e e' : Nat} {x : List Tk} {t : Tree} {r : List Tk} (h : parseL e x = .ok t r) {m o c : Tk} (hm : m.is 3 kNot) (ho : o.is 4 []) (hc : c.is 5 []) {y : List Tk} (hy : bare y = bare x) (hi : Inc 2 (y ++ [c])) {u : Tree} {q : List Tk} (hu : parseL e' (m :: o :: (y ++ [c])) = .ok u q) : ∃ a, u = .node 4 m.pos [a] ∧ Sim a t := by
  obtain ⟨h1, h2, -⟩ := parseL_ok h
  obtain ⟨h3, -, -⟩ := parseL_ok hu
  have hl : y.length = x.length := by have := congrArg List.length hy; simpa [bare] using this
  rcases wrap_piece (e' := e') (n := (y ++ [c]).length + 1) ho hc h1 hy (k := 1) hi (by omega) (by simp; omega) with ⟨t', e3, s3⟩ | ⟨p, hp, e3⟩
  · have hp : pPiece e' ((m :: o :: (y ++ [c])).length + 1) 0 (m :: o :: (y ++ [c])) = .ok (.node 4 m.pos [t']) [] := by
      rw [pPiece_succ, isTok_cons _ hm]
      simp only [if_true, List.tail_cons, if_neg (show ¬ 20 ≤ 0 by omega)]
      show (match pPiece e' ((y ++ [c]).length + 1 + 1) (0 + 1) (o :: (y ++ [c])) with | .bad p => PRes.bad p | .ok t r => .ok (.node 4 m.pos [t]) r) = _
      rw [e3]
    rw [test_of_piece hp] at h3
    cases h3
    exact ⟨t', rfl, s3⟩
  · have hp : pPiece e' ((m :: o :: (y ++ [c])).length + 1) 0 (m :: o :: (y ++ [c])) = .bad p := by
      rw [pPiece_succ, isTok_cons _ hm]
      simp only [if_true, List.tail_cons, if_neg (show ¬ 20 ≤ 0 by omega)]
      show (match pPiece e' ((y ++ [c]).length + 1 + 1) (0 + 1) (o :: (y ++ [c])) with | .bad p => PRes.bad p | .ok t r => .ok (.node 4 m.pos [t]) r) = _
      rw [e3]
    have : pTest e' ((m :: o :: (y ++ [c])).length + 1) 0 (m :: o :: (y ++ [c])) = .bad p := row_bad (row_bad hp)
    rw [this] at h3
    cases h3
/-- a row that goes on behind its end -/
theorem rowP_cont {z : List Tk} {m : Nat} {kind : Int} {w : List UInt8} {part part' : List Tk → PRes} {e e' : Nat} (hp : Ext z m part part') (hl : ∀ l t r, part l = .ok t r → r.length < l.length) : ∀ (M : Nat) (a : Tree) (x : List Tk) (t : Tree), x.length ≤ M → rowP kind w part e M a x = .ok t [] → ∀ (a' : Tree) (y : List Tk) (M' : Nat), bare y = bare x → Inc m (y ++ z) → (y ++ z).length ≤ M' →
    (∃ t' M2, z.length ≤ M2 ∧ rowP kind w part' e' M' a' (y ++ z) = rowP kind w part' e' M2 t' z) ∨ ∃ p, 20 ≤ p ∧ rowP kind w part' e' M' a' (y ++ z) = .bad p := by
  intro M
  induction M with
  | zero =>
    intro a x t hx h a' y M' hy hi hM
    obtain rfl : x = [] := List.eq_nil_of_length_eq_zero (by omega)
    have hy0 := bare_nil hy
    subst hy0
    exact .inl ⟨a', M', hM, rfl⟩
  | succ M ih =>
    intro a x t hx h a' y M' hy hi hM
    unfold rowP at h
    split at h
    · rename_i h1
      obtain ⟨b, y1, rfl, e1, hb1⟩ := tail_bare hy z (isTok_ne h1)
      obtain ⟨M', rfl⟩ : ∃ k, M' = k + 1 := ⟨M' - 1, by simp at hM; omega⟩
      have h2 : isTok 3 w ((b :: y1) ++ z) = true := by rw [isTok_bare hy z (isTok_ne h1)]; exact h1
      have ht := tail_len h1
      cases hq : part x.tail with
      | bad p => rw [hq] at h; cases h
      | ok u q =>
        rw [hq] at h
        have hql := hl _ _ _ hq
        have hi1 : Inc m (y1 ++ z) := Inc.mono (by omega) (Inc.next (t := b) hi)
        rcases hp _ _ _ hq y1 hb1 hi1 with ⟨pre, y2, u', e2, e3, s3, hb3⟩ | ⟨p, hp20, e3⟩
        · have hi2 : Inc m (y2 ++ z) := by
            rw [e2, List.append_assoc] at hi1
            exact hi1.drop pre
          rcases ih _ q t (by omega) h (.node kind (pAt e' ((b :: y1) ++ z)) [a', u']) y2 M' hb3 hi2 (by simp at hM; have := congrArg List.length e2; simp at this ⊢; omega) with ⟨t', M2, hM2, e5⟩ | ⟨p, hp20, e5⟩
          · refine .inl ⟨t', M2, hM2, ?_⟩
            rw [← e5]
            show rowP kind w part' e' (M' + 1) a' ((b :: y1) ++ z) = _
            rw [rowP, h2, e1, e3]
            rfl
          · refine .inr ⟨p, hp20, ?_⟩
            rw [rowP, h2, e1, e3]
            exact e5
        · refine .inr ⟨p, hp20, ?_⟩
          rw [rowP, h2, e1, e3]
          rfl
    · rename_i h1
      cases h
      have hy0 := bare_nil hy
      subst hy0
      exact .inl ⟨a', M', hM, rfl⟩
/-- or, and a column behind a text -/
theorem wraps_or {e e' : Nat} {x : List Tk} {t : Tree} {r : List Tk} (h : parseL e x = .ok t r) {m c : Tk} (hm : m.is 3 kOr) (hc : c.k = 0) (hi : Inc 0 (x ++ [m, c])) {u : Tree} {q : List Tk} (hu : parseL e' (x ++ [m, c]) = .ok u q) : ∃ a, u = .node 6 m.pos [a, .mk 0 (c.pos : Int) c.text 0 zeroVal []] := by
  obtain ⟨h1, h2, -⟩ := parseL_ok h
  obtain ⟨h3, -, -⟩ := parseL_ok hu
  have hz : Back [m, c] := ⟨isTok_not [c] hm (.inr (by decide)), isTok_not [c] hm (.inl (by decide)), isTok_not [c] hm (.inr (by decide))⟩
  obtain ⟨n, hn⟩ : ∃ n, n = (x ++ [m, c]).length + 1 := ⟨_, rfl⟩
  rw [← hn] at h3
  rw [pTest_fuel e (x.length + 1) n 0 x (by omega) (by rw [hn]; simp; omega)] at h1
  unfold pTest row at h1 h3
  cases hq : pPart e n 0 x with
  | bad p => rw [hq] at h1; cases h1
  | ok v q1 =>
    rw [hq] at h1
    have hlen : ∀ l t r, pPart e n 0 l = .ok t r → r.length < l.length := fun l t r h => row_len (pPiece_len e n 0) l t r h
    rcases pPart_ext hz e e' 0 n 0 _ _ _ hq x rfl hi with ⟨pre, y2, v', e2, e3, s3, hb3⟩ | ⟨p, hp, e3⟩
    · rw [Nat.add_zero] at e3
      rw [e3] at h3
      have hi2 : Inc 0 (y2 ++ [m, c]) := by
        have hi1 := hi
        rw [e2, List.append_assoc] at hi1
        exact hi1.drop pre
      rcases rowP_cont (e := e) (e' := e') (kind := 6) (w := kOr) (pPart_ext hz e e' 0 n 0) hlen q1.length v q1 t (Nat.le_refl _) h1 v' y2 (y2 ++ [m, c]).length hb3 hi2 (Nat.le_refl _) with ⟨t', M2, hM2, e5⟩ | ⟨p, hp, e5⟩
      · rw [Nat.add_zero] at e5
        replace h3 : rowP 6 kOr (pPart e' n 0) e' (y2 ++ [m, c]).length v' (y2 ++ [m, c]) = .ok u [] := h3
        rw [e5] at h3
        obtain ⟨M2, rfl⟩ : ∃ k, M2 = k + 1 := ⟨M2 - 1, by simp at hM2; omega⟩
        have hcol : pPart e' n 0 [c] = .ok (.mk 0 (c.pos : Int) c.text 0 zeroVal []) [] := by
          obtain ⟨n, rfl⟩ : ∃ k, n = k + 1 := ⟨n - 1, by omega⟩
          refine row_end ?_ rfl
          rw [pPiece_succ]
          have i1 : isTok 3 kNot [c] = false := by simp [isTok, hc]
          have i2 : isTok 4 [] [c] = false := by simp [isTok, hc]
          rw [i1, i2]
          show pAtom e' [c] = _
          unfold pAtom
          have i3 : pOper e' [c] = .ok (.mk 0 (c.pos : Int) c.text 0 zeroVal []) [] := by simp only [pOper, if_pos hc]
          rw [i3]
          rfl
        rw [rowP, isTok_cons _ hm] at h3
        simp only [if_true, List.tail_cons, hcol] at h3
        rw [rowP_end rfl] at h3
        cases h3
        exact ⟨t', rfl⟩
      · rw [Nat.add_zero] at e5
        replace h3 : rowP 6 kOr (pPart e' n 0) e' (y2 ++ [m, c]).length v' (y2 ++ [m, c]) = .ok u [] := h3
        rw [e5] at h3
        cases h3
    · rw [Nat.add_zero] at e3
      rw [e3] at h3
      cases h3
/-- too many open -/
theorem deep_bad (e : Nat) (l : List Tk) : ∀ (o : List Tk) (n d : Nat), (∀ t ∈ o, t.is 3 kNot ∨ t.is 4 []) → d ≤ 20 → 20 < d + o.length → ∃ p, pPiece e n d (o ++ l) = .bad p := by
  intro o
  induction o with
  | nil => intro n d _ h1 h2; simp at h2; omega
  | cons a o ih =>
    intro n d ho h1 h2
    cases n with
    | zero => exact ⟨0, rfl⟩
    | succ n =>
      rw [List.cons_append, pPiece_succ]
      by_cases h20 : 20 ≤ d
      · rcases ho a (by simp) with h | h
        · rw [isTok_cons _ h]
          exact ⟨_, if_pos h20⟩
        · rw [isTok_not _ h (.inl (by decide)), isTok_cons _ h]
          exact ⟨_, if_pos h20⟩
      · obtain ⟨p, hp⟩ := ih n (d + 1) (fun t ht => ho t (by simp [ht])) (by omega) (by simp at h2; omega)
        rcases ho a (by simp) with h | h
        · rw [isTok_cons _ h]
          refine ⟨p, ?_⟩
          simp only [if_true, if_neg h20, List.tail_cons, hp]
        · rw [isTok_not _ h (.inl (by decide)), isTok_cons _ h]
          have : pTest e n (d + 1) (o ++ l) = .bad p := row_bad (row_bad hp)
          refine ⟨p, ?_⟩
          simp only [Bool.false_eq_true, if_false, if_true, if_neg h20, List.tail_cons, this]
theorem parse_deep {e : Nat} {o l : List Tk} (ho : ∀ t ∈ o, t.is 3 kNot ∨ t.is 4 []) (h : 20 < o.length) : ∃ p, parseL e (o ++ l) = .bad p := by
  obtain ⟨p, hp⟩ := deep_bad e l o ((o ++ l).length + 1) 0 ho (by omega) (by omega)
  refine ⟨p, ?_⟩
  unfold parseL
  have : pTest e ((o ++ l).length + 1) 0 (o ++ l) = .bad p := row_bad (row_bad hp)
  rw [this]
end Go.Proofs.YtfkghfmgeholeaaGreatDoor
