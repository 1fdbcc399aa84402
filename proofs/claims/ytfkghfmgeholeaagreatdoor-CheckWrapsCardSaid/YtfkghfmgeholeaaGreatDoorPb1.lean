/- Places of tests that were read; reading in steps. No code is stepped through. -/
import Derived.Test.YtfkghfmgeholeaaGreatDoorPb0
set_option linter.unusedVariables false
set_option linter.unusedSimpArgs false
namespace Go.Proofs.YtfkghfmgeholeaaGreatDoor
open Go.RowKit

theorem pOper_pos {e : Nat} {l : List Tk} {t : Tree} {r : List Tk} (h : pOper e l = .ok t r) : 0 ≤ t.pos := by
  cases l with
  | nil => cases h
  | cons a l =>
    simp only [pOper] at h
    repeat' split at h
    all_goals first | (cases h; done) | (cases h; exact Int.natCast_nonneg _)
theorem pNull_pos {e : Nat} {a : Tree} {p : Nat} {l : List Tk} {t : Tree} {r : List Tk} (h : pNull e a p l = .ok t r) : 0 ≤ t.pos := by
  unfold pNull at h
  repeat' split at h
  all_goals first | (cases h; done) | (cases h; exact Int.natCast_nonneg _)
theorem pAtom_pos {e : Nat} {l : List Tk} {t : Tree} {r : List Tk} (h : pAtom e l = .ok t r) : 0 ≤ t.pos := by
  unfold pAtom at h
  cases ho : pOper e l with
  | bad p => rw [ho] at h; cases h
  | ok a q =>
    rw [ho] at h
    simp only at h
    split at h
    · exact pNull_pos h
    · split at h
      · cases q with
        | nil => cases h
        | cons b q =>
          simp only at h
          cases hb : pOper e q with
          | bad p => rw [hb] at h; cases h
          | ok c q2 => rw [hb] at h; cases h; exact Int.natCast_nonneg _
      · cases h; exact pOper_pos ho
theorem rowP_pos {kind : Int} {w : List UInt8} {part : List Tk → PRes} {e : Nat} : ∀ (m : Nat) (a : Tree) (l : List Tk) (t : Tree) (r : List Tk), 0 ≤ a.pos → rowP kind w part e m a l = .ok t r → 0 ≤ t.pos := by
  intro m
  induction m with
  | zero => intro a l t r ha h; cases h; exact ha
  | succ m ih =>
    intro a l t r ha h
    unfold rowP at h
    split at h
    · cases hq : part l.tail with
      | bad p => rw [hq] at h; cases h
      | ok u q =>
        rw [hq] at h
        exact ih _ _ _ _ (Int.natCast_nonneg _) h
    · cases h; exact ha
theorem row_pos {kind : Int} {w : List UInt8} {part : List Tk → PRes} {e : Nat} (hp : ∀ l t r, part l = .ok t r → 0 ≤ t.pos) (l : List Tk) (t : Tree) (r : List Tk) (h : row kind w part e l = .ok t r) : 0 ≤ t.pos := by
  unfold row at h
  cases hq : part l with
  | bad p => rw [hq] at h; cases h
  | ok u q => rw [hq] at h; exact rowP_pos _ _ _ _ _ (hp _ _ _ hq) h
theorem pPiece_pos (e n : Nat) : ∀ (d : Nat) (l : List Tk) (t : Tree) (r : List Tk), pPiece e n d l = .ok t r → 0 ≤ t.pos := by
  induction n with
  | zero => intro d l t r h; cases h
  | succ n ih =>
    intro d l t r h
    rw [pPiece_succ] at h
    split at h
    · split at h
      · cases h
      · cases hq : pPiece e n (d + 1) l.tail with
        | bad p => rw [hq] at h; cases h
        | ok u q => rw [hq] at h; cases h; exact Int.natCast_nonneg _
    · split at h
      · split at h
        · cases h
        · cases hq : pTest e n (d + 1) l.tail with
          | bad p => rw [hq] at h; cases h
          | ok u q =>
            rw [hq] at h
            simp only at h
            split at h
            · cases h
              exact row_pos (fun l t r h => row_pos (ih (d + 1)) l t r h) _ _ _ hq
            · cases h
      · exact pAtom_pos h
theorem pTest_pos (e n d : Nat) (l : List Tk) (t : Tree) (r : List Tk) (h : pTest e n d l = .ok t r) : 0 ≤ t.pos := row_pos (fun l t r h => row_pos (pPiece_pos e n d) l t r h) l t r h
/-- a mark that its token's place is wanted -/
def Tree.marked (p : Nat) (t : Tree) : Tree := if t.pos < 0 then .mk t.k (p : Int) t.col t.op t.v t.kids else t
def PRes.mark (p : Nat) : PRes → PRes
  | .ok t r => .ok (t.marked p) r
  | .bad q => .bad q
def PRes.neg : PRes → PRes
  | .ok t r => .ok (.mk 4 (-1) [] 0 zeroVal [t]) r
  | .bad q => .bad q
def PRes.close (e : Nat) : PRes → PRes
  | .ok t r => if isTok 5 [] r then .ok t r.tail else .bad (pAt e r)
  | .bad q => .bad q
theorem piece_not {e n d : Nat} {l : List Tk} (h : isTok 3 kNot l = true) (hd : d < 20) : pPiece e (n + 1) d l = ((pPiece e n (d + 1) l.tail).neg).mark (pAt e l) := by
  rw [pPiece_succ, h, if_pos rfl, if_neg (by omega)]
  cases pPiece e n (d + 1) l.tail <;> rfl
theorem piece_open {e n d : Nat} {l : List Tk} (h0 : isTok 3 kNot l = false) (h : isTok 4 [] l = true) (hd : d < 20) : pPiece e (n + 1) d l = ((pTest e n (d + 1) l.tail).close e).mark (pAt e l) := by
  rw [pPiece_succ, h0, h]
  simp only [Bool.false_eq_true, if_false, if_true]
  rw [if_neg (by omega)]
  cases hq : pTest e n (d + 1) l.tail with
  | bad p => rfl
  | ok t r =>
    have hp := pTest_pos _ _ _ _ _ _ hq
    simp only [PRes.close]
    split
    · simp only [PRes.mark, Tree.marked, if_neg (show ¬ t.pos < 0 by omega)]
    · rfl
theorem piece_deep {e n d : Nat} {l : List Tk} (h : isTok 3 kNot l = true ∨ isTok 4 [] l = true) (hd : 20 ≤ d) : pPiece e (n + 1) d l = .bad (pAt e l) := by
  rw [pPiece_succ]
  rcases h with h | h
  · rw [h, if_pos rfl, if_pos hd]
  · rw [h]
    simp only [if_true, if_pos hd, ite_self]
theorem piece_atom {e n d : Nat} {l : List Tk} (h : isTok 3 kNot l = false) (h2 : isTok 4 [] l = false) : pPiece e (n + 1) d l = pAtom e l := by
  rw [pPiece_succ, h, h2]
  rfl
/-- the tests of a parser as its answer: what it hands back, where it fails -/
def PAnsL (lo P e d : Nat) (fv : Nat → Value) (w w' : World) (r : PRes) (en : Ending) : Prop := But P w w' ∧ match r with
  | .ok t q => ∃ a n c, en = .returned (t.val a n c) ∧ KSl w' lo t.kids a n ∧ PAt w' P q e d
  | .bad p => en = .panicked [{ v := fv p, recovered := false }]
abbrev PAns (P e d : Nat) (fv : Nat → Value) (w w' : World) (r : PRes) (en : Ending) : Prop := PAnsL w.heap.size P e d fv w w' r en
end Go.Proofs.YtfkghfmgeholeaaGreatDoor
