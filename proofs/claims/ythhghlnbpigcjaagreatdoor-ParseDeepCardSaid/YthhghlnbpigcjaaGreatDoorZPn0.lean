/- Texts that open much. No code is stepped through. -/
import Derived.Test.YthhghlnbpigcjaaGreatDoorZPj0
import Derived.Test.YthhghlnbpigcjaaGreatDoorZGS
set_option linter.unusedVariables false
set_option linter.unusedSimpArgs false
namespace Go.Proofs.YthhghlnbpigcjaaGreatDoor
open Go.RowKit

/-- brackets and nots, one behind the other -/
def openB : List Bool → List UInt8
  | [] => []
  | b :: l => (if b then [110, 111, 116, 32] else [40]) ++ openB l
theorem openB_append : ∀ l m : List Bool, openB (l ++ m) = openB l ++ openB m
  | [], m => rfl
  | b :: l, m => by rw [List.cons_append, openB, openB, openB_append l m, List.append_assoc]
theorem openB_length : ∀ l : List Bool, (openB l).length ≤ 4 * l.length
  | [] => Nat.le_refl _
  | b :: l => by
    have := openB_length l
    rw [openB, List.length_append, List.length_cons]
    cases b <;> simp <;> omega
theorem lex_openB : ∀ (l : List Bool) (p : Nat) (r : List UInt8), ∃ o : List Tk, (∀ t ∈ o, t.is 3 kNot ∨ t.is 4 []) ∧ o.length = l.length ∧ lexG p (openB l ++ r) = lexEnd o (lexG (p + (openB l).length) r)
  | [], p, r => ⟨[], fun t h => (List.not_mem_nil h).elim, rfl, by rw [openB, List.nil_append, List.length_nil, Nat.add_zero, lexEnd_nil _ (fun x hx => by cases hl : lexG p r with | mk a b => rw [hl] at hx; simp only at hx; subst hx; exact lexG_two hl)]⟩
  | b :: l, p, r => by
    cases b with
    | false =>
      obtain ⟨o, h1, h2, h3⟩ := lex_openB l (p + 1) r
      refine ⟨⟨4, p, [], 0, zeroVal⟩ :: o, fun t ht => ?_, by rw [List.length_cons, h2, List.length_cons], ?_⟩
      · rcases List.mem_cons.1 ht with rfl | ht
        · exact .inr ⟨rfl, rfl⟩
        · exact h1 t ht
      · have e1 : openB (false :: l) ++ r = 40 :: (openB l ++ r) := by rw [openB]; rfl
        have e2 : (openB (false :: l)).length = 1 + (openB l).length := by rw [openB, List.length_append]; rfl
        rw [e1, lex_open, h3, lexEnd_two, e2, ← Nat.add_assoc]
        rfl
    | true =>
      obtain ⟨o, h1, h2, h3⟩ := lex_openB l (p + 3 + 1) r
      refine ⟨⟨3, p, kNot, 0, zeroVal⟩ :: o, fun t ht => ?_, by rw [List.length_cons, h2, List.length_cons], ?_⟩
      · rcases List.mem_cons.1 ht with rfl | ht
        · exact .inl ⟨rfl, rfl⟩
        · exact h1 t ht
      · have e1 : openB (true :: l) ++ r = kNot ++ 32 :: (openB l ++ r) := by rw [openB]; rfl
        have e2 : (openB (true :: l)).length = 4 + (openB l).length := by rw [openB, List.length_append]; rfl
        rw [e1, lex_kw (w := kNot) rfl p _ (stop_blank _), lexG_blank]
        show lexEnd _ (lexG (p + 3 + 1) _) = _
        rw [h3, lexEnd_two, e2]
        rw [show p + 3 + 1 + (openB l).length = p + (4 + (openB l).length) from by omega]
        rfl
/-- no more than twenty may be open -/
theorem parse_openB {l : List Bool} (r : List UInt8) (h : 20 < l.length) : ∃ p, parseF (openB l ++ r) = (zeroT, p, 160) := by
  unfold parseF
  by_cases hs : 2000 < (openB l ++ r).length
  · unfold lexL
    rw [if_pos hs]
    exact ⟨_, rfl⟩
  · rw [lexL_G (by omega)]
    obtain ⟨o, h1, h2, h3⟩ := lex_openB l 0 r
    rw [h3]
    cases hl : lexG (0 + (openB l).length) r with
    | mk a b =>
      cases a with
      | none => exact ⟨_, rfl⟩
      | some x =>
        show ∃ p, parseA _ (some (o ++ x), 0) = _
        obtain ⟨p, hp⟩ := parse_deep (e := (openB l ++ r).length) (l := x) h1 (by omega)
        refine ⟨p, ?_⟩
        simp only [parseA, hp]
end Go.Proofs.YthhghlnbpigcjaaGreatDoor
