/- Two tests alike; parts that stand within a text. No code is stepped through. -/
import Derived.Test.YtfkghfmgeholeaaGreatDoorGS
set_option linter.unusedVariables false
set_option linter.unusedSimpArgs false
namespace Go.Proofs.YtfkghfmgeholeaaGreatDoor
open Go.RowKit

def Val.same (v u : Val) : Bool := decide (v.k = u.k) && decide (v.n = u.n) && decide (v.s = u.s) && decide (v.f = u.f)
theorem Val.same_self (v : Val) : v.same v = true := by simp [Val.same]
/-- two tests' own parts -/
def sameK (pl : Bool) (a b : Tree) : Bool := decide (a.k = b.k) && decide (a.col = b.col) && a.v.same b.v && decide (a.op = b.op) && (!pl || decide (a.pos = b.pos)) && decide (a.kids.length = b.kids.length)
mutual
def sameT (pl : Bool) : Tree → Tree → Bool
  | .mk k p c o v l, b => sameK pl (.mk k p c o v l) b && sameTs pl l b.kids
def sameTs (pl : Bool) : List Tree → List Tree → Bool
  | a :: l, b :: m => sameT pl a b && sameTs pl l m
  | _, _ => true
end
theorem sameT_eq (pl : Bool) (a b : Tree) : sameT pl a b = (sameK pl a b && sameTs pl a.kids b.kids) := by
  cases a; rw [sameT]; rfl
theorem SimL.len : ∀ {l m : List Tree}, SimL l m → l.length = m.length
  | _, _, .nil => rfl
  | _, _, .cons _ h => congrArg (· + 1) (SimL.len h)
mutual
theorem sim_same : ∀ {a b : Tree}, Sim a b → sameT false a b = true
  | _, _, .mk h => by
    have h1 := simL_same h
    have h2 := SimL.len h
    rw [sameT_eq]
    simp only [sameK, Tree.k, Tree.col, Tree.v, Tree.op, Tree.kids, Val.same_self, h2]
    simpa [Tree.kids] using h1
theorem simL_same : ∀ {l m : List Tree}, SimL l m → sameTs false l m = true
  | _, _, .nil => by rw [sameTs]; intro a l b m h; cases h
  | _, _, .cons h r => by
    have h1 := sim_same h
    have h2 := simL_same r
    rw [sameTs, h1, h2]; rfl
end
mutual
theorem same_self (pl : Bool) : ∀ a : Tree, sameT pl a a = true
  | .mk k p c o v l => by
    have h := sames_self pl l
    rw [sameT_eq]
    simp only [sameK, Tree.kids, Val.same_self, h]
    simp
theorem sames_self (pl : Bool) : ∀ l : List Tree, sameTs pl l l = true
  | [] => by rw [sameTs]; intro a l b m h; cases h
  | a :: l => by rw [sameTs, same_self pl a, sames_self pl l]; rfl
end
/-- inside a text, told -/
def insideK (sz : Nat) (t : Tree) : Bool := decide (0 ≤ t.pos) && decide (t.pos < (sz : Int))
mutual
def insideB (sz : Nat) : Tree → Bool
  | .mk k p c o v l => insideK sz (.mk k p c o v l) && insideBs sz l
def insideBs (sz : Nat) : List Tree → Bool
  | [] => true
  | t :: l => insideB sz t && insideBs sz l
end
theorem insideB_eq (sz : Nat) (t : Tree) : insideB sz t = (insideK sz t && insideBs sz t.kids) := by cases t; rw [insideB]; rfl
theorem insideBs_cons (sz : Nat) (t : Tree) (l : List Tree) : insideBs sz (t :: l) = (insideB sz t && insideBs sz l) := by rw [insideBs]
theorem nodes_eq (t : Tree) : t.nodes = Tree.count t.kids + 1 := by cases t; rw [Tree.nodes]; rfl
theorem count_cons (t : Tree) (l : List Tree) : Tree.count (t :: l) = t.nodes + Tree.count l := by rw [Tree.count]
theorem depth_eq (t : Tree) : t.depth = Tree.deep t.kids + 1 := by cases t; rw [Tree.depth]; rfl
mutual
theorem inside_told (sz : Nat) : ∀ t : Tree, t.inside sz → insideB sz t = true
  | .mk k p c o v l => fun h => by
    rw [Tree.inside] at h
    obtain ⟨h0, h1, h2⟩ := h
    have h3 := insides_told sz l h2
    rw [insideB, h3]
    simp [insideK, Tree.pos, h0, h1]
theorem insides_told (sz : Nat) : ∀ l : List Tree, Tree.insides sz l → insideBs sz l = true
  | [] => fun _ => by rw [insideBs]
  | t :: l => fun h => by
    rw [Tree.insides] at h
    rw [insideBs, inside_told sz t h.1, insides_told sz l h.2]; rfl
end
theorem mem_nodes {t : Tree} {l : List Tree} (h : t ∈ l) : t.nodes ≤ Tree.count l := by
  induction l with
  | nil => cases h
  | cons a l ih =>
    rw [count_cons]
    rcases List.mem_cons.1 h with rfl | h
    · omega
    · have := ih h; omega
theorem count_take {l : List Tree} (i : Nat) : Tree.count (l.take i) ≤ Tree.count l := by
  induction l generalizing i with
  | nil => simp
  | cons a l ih =>
    cases i with
    | zero => simp [Tree.count]
    | succ i =>
      have := ih i
      rw [List.take_succ_cons, count_cons, count_cons]; omega
theorem count_append (l m : List Tree) : Tree.count (l ++ m) = Tree.count l + Tree.count m := by
  induction l with
  | nil => simp [Tree.count]
  | cons a l ih => rw [List.cons_append, count_cons, count_cons, ih]; omega
theorem deep_append (l m : List Tree) : Tree.deep (l ++ m) = max (Tree.deep l) (Tree.deep m) := by
  induction l with
  | nil => simp [Tree.deep]
  | cons a l ih => rw [List.cons_append, deep_cons, deep_cons, ih]; omega
theorem insideBs_append (sz : Nat) (l m : List Tree) : insideBs sz (l ++ m) = (insideBs sz l && insideBs sz m) := by
  induction l with
  | nil => rw [List.nil_append]; simp [insideBs]
  | cons a l ih => rw [List.cons_append, insideBs_cons, insideBs_cons, ih, Bool.and_assoc]
end Go.Proofs.YtfkghfmgeholeaaGreatDoor
