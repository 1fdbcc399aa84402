/- Tokens without a text; what stands next, by kind alone. No code is stepped through. -/
import Derived.Test.YthhghlnbpigcjaaGreatDoorZGS
set_option linter.unusedVariables false
set_option linter.unusedSimpArgs false
namespace Go.Proofs.YthhghlnbpigcjaaGreatDoor
open Go.RowKit

/-- only columns and words have a text -/
def Mute (l : List Tk) : Prop := ∀ t ∈ l, t.k = 0 ∨ t.k = 3 ∨ t.text = []
theorem tokL_mute {l : List UInt8} {tk : Tk} {n : Nat} (h : tokL l = some (tk, n)) : tk.k = 0 ∨ tk.k = 3 ∨ tk.text = [] := by
  cases l with
  | nil => cases h
  | cons c t =>
    rw [tokL_cons] at h
    repeat' split at h
    all_goals first | (cases h; done) | skip
    all_goals
      simp only [Option.some.injEq, Prod.mk.injEq] at h
      obtain ⟨rfl, -⟩ := h
      first
        | exact .inr (.inr rfl)
        | exact .inl rfl
        | exact .inr (.inl rfl)
theorem lexF_mute (f : Nat) : ∀ (p : Nat) (l : List UInt8) (x : List Tk) (q : Nat), lexF f p l = (some x, q) → Mute x := by
  induction f with
  | zero => intro p l x q h; cases h; intro t ht; cases ht
  | succ f ih =>
    intro p l x q h
    cases l with
    | nil => cases h; intro t ht; cases ht
    | cons c t =>
      by_cases hc : c = 32
      · subst hc
        rw [lexF_blank] at h
        exact ih _ _ _ _ h
      · rw [lexF_tok f p c t hc] at h
        cases ht : tokL (c :: t) with
        | none => rw [ht] at h; cases h
        | some z =>
          obtain ⟨tk, n⟩ := z
          rw [ht] at h
          simp only at h
          cases hr : lexF f (p + n) ((c :: t).drop n) with
          | mk r q2 =>
            rw [hr] at h
            cases r with
            | none => cases h
            | some r =>
              simp only [Prod.mk.injEq, Option.some.injEq] at h
              obtain ⟨rfl, -⟩ := h
              intro u hu
              rcases List.mem_cons.1 hu with rfl | hu
              · exact tokL_mute (tk := tk) ht
              · exact ih _ _ _ _ hr u hu
theorem lexL_mute {s : List UInt8} {x : List Tk} {q : Nat} (h : lexL s = (some x, q)) : Mute x := by
  unfold lexL at h
  split at h
  · cases h
  · exact lexF_mute _ _ _ _ _ h
theorem Mute.drop {l : List Tk} (h : Mute l) (i : Nat) : Mute (l.drop i) := fun t ht => h t (List.mem_of_mem_drop ht)
theorem Mute.tail {l : List Tk} (h : Mute l) : Mute l.tail := fun t ht => h t (List.mem_of_mem_tail ht)
def seesB (k : Int) (s : List UInt8) : List Tk → Bool
  | [] => false
  | t :: _ => t.k == k && (k != 3 || t.text == s)
theorem sees_word (s : List UInt8) (l : List Tk) : seesB 3 s l = isTok 3 s l := by
  cases l with
  | nil => rfl
  | cons t l => rfl
theorem sees_kind {k : Int} (h0 : k ≠ 0) (h3 : k ≠ 3) {l : List Tk} (h : Mute l) : seesB k [] l = isTok k [] l := by
  cases l with
  | nil => rfl
  | cons t l =>
    have ht := h t (by simp)
    have e3 : (k != 3) = true := bne_iff_ne.2 h3
    show (t.k == k && (k != 3 || t.text == [])) = (t.k == k && t.text == [])
    rw [e3, Bool.true_or, Bool.and_true]
    by_cases hk : t.k = k
    · rcases ht with h1 | h1 | h1
      · exact absurd (hk.symm.trans h1) h0
      · exact absurd (hk.symm.trans h1) h3
      · rw [h1]; simp
    · have : (t.k == k) = false := beq_eq_false_iff_ne.2 hk
      rw [this]; rfl
end Go.Proofs.YthhghlnbpigcjaaGreatDoor
