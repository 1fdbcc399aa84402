/- What a text's test is like, where it has one. No code is stepped through. -/
import Derived.Test.YtfkghfmgeholeaaGreatDoorPe1
import Derived.Test.YtfkghfmgeholeaaGreatDoorPa8
set_option linter.unusedVariables false
set_option linter.unusedSimpArgs false
namespace Go.Proofs.YtfkghfmgeholeaaGreatDoor
open Go.RowKit

theorem parseF_some {s : List UInt8} {t : Tree} {p : Nat} (h : parseF s = (t, p, 0)) : ∃ x, lexL s = (some x, 0) ∧ parseL s.length x = .ok t [] ∧ p = 0 := by
  unfold parseF at h
  cases hl : lexL s with
  | mk o q =>
    rw [hl] at h
    cases o with
    | none => simp only [parseA, Prod.mk.injEq] at h; exact absurd h.2.2 (by decide)
    | some x =>
      obtain rfl : q = 0 := (lexL_length hl).2.2
      simp only [parseA] at h
      cases hp : parseL s.length x with
      | bad b => rw [hp] at h; simp only [Prod.mk.injEq] at h; exact absurd h.2.2 (by decide)
      | ok u r =>
        have hr : r = [] := (parseL_good (lexL_ok hl) hp).2.2.2.2
        rw [hp] at h
        simp only [Prod.mk.injEq] at h
        obtain ⟨rfl, rfl, -⟩ := h
        subst hr
        exact ⟨x, rfl, hp, rfl⟩
theorem parseF_err (s : List UInt8) : ∃ t p e, parseF s = (t, p, e) ∧ (e = 0 ∨ e = 160 ∧ t = zeroT) := by
  unfold parseF
  obtain ⟨o, q⟩ := lexL s
  cases o with
  | none => exact ⟨_, _, _, rfl, .inr ⟨rfl, rfl⟩⟩
  | some x =>
    simp only [parseA]
    cases hp : parseL s.length x with
    | bad b => exact ⟨_, _, _, rfl, .inr ⟨rfl, rfl⟩⟩
    | ok u r => exact ⟨_, _, _, rfl, .inl rfl⟩
theorem parseF_good {s : List UInt8} {t : Tree} {p : Nat} (h : parseF s = (t, p, 0)) : insideB s.length t = true ∧ t.nodes ≤ s.length ∧ t.depth ≤ 40 ∧ rightT 0 t = true ∧ WfT t ∧ s.length ≤ 2000 := by
  obtain ⟨x, hl, hp, -⟩ := parseF_some h
  have hlen := lexL_length hl
  have hg := parseL_good (lexL_ok hl) hp
  exact ⟨inside_told _ _ hg.1.ins, Nat.le_trans hg.2.2.1 hlen.1, hg.2.2.2.1, hg.2.1, hg.1.wf, hlen.2.1⟩
end Go.Proofs.YtfkghfmgeholeaaGreatDoor
