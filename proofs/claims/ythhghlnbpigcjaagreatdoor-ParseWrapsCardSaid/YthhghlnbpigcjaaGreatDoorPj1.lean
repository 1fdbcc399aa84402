/- What a text's test is like in brackets, behind not, ahead of or. No code is stepped through. -/
import Derived.Test.YthhghlnbpigcjaaGreatDoorPj0
set_option linter.unusedVariables false
set_option linter.unusedSimpArgs false
namespace Go.Proofs.YthhghlnbpigcjaaGreatDoor
open Go.RowKit

theorem lexL_pairs {s : List UInt8} {x : List Tk} {q : Nat} (h : lexL s = (some x, q)) : x.Pairwise (fun a b => a.pos < b.pos) := by
  unfold lexL at h
  split at h
  · cases h
  · exact (lexF_stand _ _ _ _ _ h).2.1
theorem parseF_ok {s : List UInt8} {x : List Tk} {q : Nat} {t : Tree} {r : List Tk} (hl : lexL s = (some x, q)) (hp : parseL s.length x = .ok t r) : parseF s = (t, 0, 0) := by
  unfold parseF; rw [hl]; simp only [parseA, hp]
theorem parseF_bad {s : List UInt8} {x : List Tk} {q p : Nat} (hl : lexL s = (some x, q)) (hp : parseL s.length x = .bad p) : parseF s = (zeroT, p, 160) := by
  unfold parseF; rw [hl]; simp only [parseA, hp]
theorem wrapF_brackets {s : List UInt8} {t : Tree} {p : Nat} (h : parseF s = (t, p, 0)) (hs : s.length ≤ 900) : (∃ u, parseF (40 :: (s ++ [41])) = (u, 0, 0) ∧ Sim u t) ∨ ∃ p, 20 ≤ p ∧ parseF (40 :: (s ++ [41])) = (zeroT, p, 160) := by
  obtain ⟨x, hl, hp, -⟩ := parseF_some h
  have hw := lex_wrap hl (by omega)
  have hpw := lexL_pairs hw
  rw [List.pairwise_cons] at hpw
  have hi : Inc 1 (shiftL 1 x ++ [⟨5, 1 + s.length, [], 0, zeroVal⟩]) := inc_of hpw.2 1 (fun t ht => hpw.1 t ht)
  rcases wraps_brackets (e' := (40 :: (s ++ [41])).length) hp (o := ⟨4, 0, [], 0, zeroVal⟩) (c := ⟨5, 1 + s.length, [], 0, zeroVal⟩) ⟨rfl, rfl⟩ ⟨rfl, rfl⟩ (bare_shift 1 x) hi with ⟨u, h1, h2⟩ | ⟨b, hb, h1⟩
  · exact .inl ⟨u, parseF_ok hw h1, h2⟩
  · exact .inr ⟨b, hb, parseF_bad hw h1⟩
theorem wrapF_not {s : List UInt8} {t b : Tree} {p q : Nat} (h : parseF s = (t, p, 0)) (hs : s.length ≤ 900) (hb : parseF (kNot ++ 32 :: 40 :: (s ++ [41])) = (b, q, 0)) : ∃ c, b = .node 4 0 [c] ∧ Sim c t := by
  obtain ⟨x, hl, hp, -⟩ := parseF_some h
  have hw := lex_not hl (by omega)
  obtain ⟨x', hl', hp', -⟩ := parseF_some hb
  rw [hw] at hl'
  simp only [Prod.mk.injEq, Option.some.injEq, and_true] at hl'
  subst hl'
  have hpw := lexL_pairs hw
  rw [List.pairwise_cons, List.pairwise_cons] at hpw
  have hi : Inc 2 (shiftL 5 x ++ [⟨5, 5 + s.length, [], 0, zeroVal⟩]) := inc_of hpw.2.2 2 (fun t ht => by have := hpw.2.1 t ht; simp only at this; omega)
  exact wraps_not hp (m := ⟨3, 0, kNot, 0, zeroVal⟩) ⟨rfl, rfl⟩ ⟨rfl, rfl⟩ ⟨rfl, rfl⟩ (bare_shift 5 x) hi hp'
theorem wrapF_or {s : List UInt8} {t c : Tree} {p q : Nat} (h : parseF s = (t, p, 0)) (hs : s.length ≤ 900) (hc : parseF (s ++ 32 :: (kOr ++ 32 :: 36 :: [122, 122])) = (c, q, 0)) : ∃ (a : Tree) (p1 p2 : Nat), c = .node 6 p1 [a, .mk 0 (p2 : Int) [122, 122] 0 zeroVal []] := by
  obtain ⟨x, hl, hp, -⟩ := parseF_some h
  have hw := lex_or hl (by omega)
  obtain ⟨x', hl', hp', -⟩ := parseF_some hc
  rw [hw] at hl'
  simp only [Prod.mk.injEq, Option.some.injEq, and_true] at hl'
  subst hl'
  have hi : Inc 0 (x ++ [⟨3, s.length + 1, kOr, 0, zeroVal⟩, ⟨0, s.length + 4, [122, 122], 0, zeroVal⟩]) := inc_of (lexL_pairs hw) 0 (fun t ht => Nat.zero_le _)
  obtain ⟨a, ha⟩ := wraps_or hp (m := ⟨3, s.length + 1, kOr, 0, zeroVal⟩) (c := ⟨0, s.length + 4, [122, 122], 0, zeroVal⟩) ⟨rfl, rfl⟩ rfl hi hp'
  exact ⟨a, _, _, ha⟩
end Go.Proofs.YthhghlnbpigcjaaGreatDoor
