/- The order of values is one. No code is stepped through. -/
import Derived.Test.YtjkkmepagdhaeaaGreatDoorVr2
import Derived.Test.YtjkkmepagdhaeaaGreatDoorFa4
set_option linter.unusedVariables false
set_option linter.unusedSimpArgs false
namespace Go.Proofs.YtjkkmepagdhaeaaGreatDoor
open Go.RowKit

theorem cmp3_anti (a b : Int) : cmp3 b a = -(cmp3 a b) := by unfold cmp3; split <;> split <;> (try split) <;> (try split) <;> omega
theorem cmp3_zero3 {a b : Int} (h : cmp3 a b = 0) : a = b := by
  rcases Int.lt_trichotomy a b with h1 | h1 | h1
  · unfold cmp3 at h; rw [if_pos h1] at h; omega
  · exact h1
  · unfold cmp3 at h; rw [if_neg (by omega), if_pos h1] at h; omega
theorem cmp3_rng (a b : Int) : cmp3 a b = -1 ∨ cmp3 a b = 0 ∨ cmp3 a b = 1 := by unfold cmp3; split <;> (try split) <;> omega
theorem cmpB_self (x : List UInt8) : Lib.compareBytes x x = 0 := by
  induction x with
  | nil => rfl
  | cons c x ih => rw [cmpBytes_eq, ih]
theorem cmpB_cons (c d : UInt8) (x y : List UInt8) : Lib.compareBytes (c :: x) (d :: y) = if cmp3 (c.toNat : Int) (d.toNat : Int) = 0 then Lib.compareBytes x y else cmp3 (c.toNat : Int) (d.toNat : Int) := by
  by_cases h : c = d
  · subst h
    rw [cmpBytes_eq, if_pos (cmp3_self _)]
  · rw [cmpBytes_ne c d x y h, if_neg]
    intro e
    have := cmp3_zero3 e
    exact h (UInt8.toNat_inj.1 (by omega))
theorem cmpB_anti (x : List UInt8) : ∀ y, Lib.compareBytes y x = -(Lib.compareBytes x y) := by
  induction x with
  | nil => intro y; cases y <;> rfl
  | cons c x ih =>
    intro y
    cases y with
    | nil => rfl
    | cons d y =>
      rw [cmpB_cons, cmpB_cons, ih y, cmp3_anti (c.toNat : Int) (d.toNat : Int)]
      by_cases h : cmp3 (c.toNat : Int) (d.toNat : Int) = 0
      · rw [if_pos (by omega), if_pos h]
      · rw [if_neg (by omega), if_neg h]
theorem cmpB_zero (x : List UInt8) : ∀ y, Lib.compareBytes x y = 0 → x = y := by
  induction x with
  | nil => intro y h; cases y with
    | nil => rfl
    | cons d y => cases h
  | cons c x ih =>
    intro y h
    cases y with
    | nil => cases h
    | cons d y =>
      rw [cmpB_cons] at h
      by_cases h0 : cmp3 (c.toNat : Int) (d.toNat : Int) = 0
      · rw [if_pos h0] at h
        have h1 := cmp3_zero3 h0
        rw [ih y h, UInt8.toNat_inj.1 (show c.toNat = d.toNat by omega)]
      · rw [if_neg h0] at h; exact absurd h h0
theorem cmpB_rng (x : List UInt8) : ∀ y, Lib.compareBytes x y = -1 ∨ Lib.compareBytes x y = 0 ∨ Lib.compareBytes x y = 1 := by
  induction x with
  | nil => intro y; cases y with
    | nil => exact .inr (.inl rfl)
    | cons d y => exact .inl rfl
  | cons c x ih =>
    intro y
    cases y with
    | nil => exact .inr (.inr rfl)
    | cons d y =>
      rw [cmpB_cons]
      split
      · exact ih y
      · exact cmp3_rng _ _
/-- first by numbers, then by something else -/
theorem lex_le {a b c p q r : Int} (h1 : (if cmp3 a b = 0 then p else cmp3 a b) ≤ 0) (h2 : (if cmp3 b c = 0 then q else cmp3 b c) ≤ 0) (h3 : p ≤ 0 → q ≤ 0 → r ≤ 0) : (if cmp3 a c = 0 then r else cmp3 a c) ≤ 0 := by
  rcases Int.lt_trichotomy a b with ab | ab | ab <;> rcases Int.lt_trichotomy b c with bc | bc | bc
  all_goals
    unfold cmp3 at *
    first
      | (rw [if_pos (show a < b by omega)] at h1; rw [if_pos (show a < c by omega)]; rw [if_neg (by omega)]; omega)
      | (rw [if_pos (show b < c by omega)] at h2; rw [if_pos (show a < c by omega)]; rw [if_neg (by omega)]; omega)
      | (rw [if_neg (show ¬ a < b by omega), if_pos (show b < a by omega), if_neg (by omega)] at h1; omega)
      | (rw [if_neg (show ¬ b < c by omega), if_pos (show c < b by omega), if_neg (by omega)] at h2; omega)
      | (rw [if_neg (show ¬ a < b by omega), if_neg (show ¬ b < a by omega), if_pos rfl] at h1
         rw [if_neg (show ¬ b < c by omega), if_neg (show ¬ c < b by omega), if_pos rfl] at h2
         rw [if_neg (show ¬ a < c by omega), if_neg (show ¬ c < a by omega), if_pos rfl]
         exact h3 h1 h2)
theorem cmpB_trans (x : List UInt8) : ∀ y z, Lib.compareBytes x y ≤ 0 → Lib.compareBytes y z ≤ 0 → Lib.compareBytes x z ≤ 0 := by
  induction x with
  | nil => intro y z _ _; cases z with
    | nil => exact Int.le_refl _
    | cons _ _ => show (-1 : Int) ≤ 0; omega
  | cons c x ih =>
    intro y z h1 h2
    cases y with
    | nil => exact absurd h1 (by show ¬ (1 : Int) ≤ 0; omega)
    | cons d y =>
      cases z with
      | nil => exact absurd h2 (by show ¬ (1 : Int) ≤ 0; omega)
      | cons e z =>
        rw [cmpB_cons] at h1 h2 ⊢
        exact lex_le h1 h2 (ih y z)
/-- .. and by texts -/
theorem lexB_le {x y z : List UInt8} {p q r : Int} (h1 : (if Lib.compareBytes x y = 0 then p else Lib.compareBytes x y) ≤ 0) (h2 : (if Lib.compareBytes y z = 0 then q else Lib.compareBytes y z) ≤ 0) (h3 : p ≤ 0 → q ≤ 0 → r ≤ 0) : (if Lib.compareBytes x z = 0 then r else Lib.compareBytes x z) ≤ 0 := by
  by_cases e1 : x = y
  · subst e1
    rw [if_pos (cmpB_self x)] at h1
    by_cases e2 : x = z
    · subst e2
      rw [if_pos (cmpB_self x)] at h2 ⊢
      exact h3 h1 h2
    · have hne : Lib.compareBytes x z ≠ 0 := fun e => e2 (cmpB_zero _ _ e)
      rw [if_neg hne] at h2 ⊢
      exact h2
  · have n1 : Lib.compareBytes x y ≠ 0 := fun e => e1 (cmpB_zero _ _ e)
    rw [if_neg n1] at h1
    by_cases e2 : y = z
    · subst e2
      rw [if_neg n1]
      exact h1
    · have n2 : Lib.compareBytes y z ≠ 0 := fun e => e2 (cmpB_zero _ _ e)
      rw [if_neg n2] at h2
      have ht := cmpB_trans x y z h1 h2
      by_cases e3 : Lib.compareBytes x z = 0
      · have := cmpB_zero _ _ e3
        subst this
        have := cmpB_anti x y
        omega
      · rw [if_neg e3]; exact ht
theorem ordX_lex (x y : Val) : ordX x y = if cmp3 x.k y.k = 0 then (if cmp3 x.n y.n = 0 then (if Lib.compareBytes x.s.data.toList y.s.data.toList = 0 then ordF x.f y.f else Lib.compareBytes x.s.data.toList y.s.data.toList) else cmp3 x.n y.n) else cmp3 x.k y.k := by
  unfold ordX
  rw [compareInt_eq]
  unfold orL orL orL
  rw [orL_last]
theorem ordF_trans (a b c : Int) (h1 : ordF a b ≤ 0) (h2 : ordF b c ≤ 0) : ordF a c ≤ 0 := by
  have e1 : (if cmp3 (rankV a) (rankV b) = 0 then 0 else cmp3 (rankV a) (rankV b)) ≤ 0 := by
    split
    · omega
    · exact h1
  have e2 : (if cmp3 (rankV b) (rankV c) = 0 then 0 else cmp3 (rankV b) (rankV c)) ≤ 0 := by
    split
    · omega
    · exact h2
  have h := lex_le (r := 0) e1 e2 (fun _ _ => by omega)
  unfold ordF
  split at h
  · omega
  · exact h
theorem ordX_trans {x y z : Val} (h1 : ordX x y ≤ 0) (h2 : ordX y z ≤ 0) : ordX x z ≤ 0 := by
  rw [ordX_lex] at *
  exact lex_le h1 h2 fun g1 g2 => lex_le g1 g2 fun k1 k2 => lexB_le k1 k2 fun l1 l2 => ordF_trans _ _ _ l1 l2
theorem ordX_anti (x y : Val) : ordX y x = -(ordX x y) := by
  rw [ordX_lex, ordX_lex, cmp3_anti x.k y.k, cmp3_anti x.n y.n, cmpB_anti x.s.data.toList y.s.data.toList]
  have hf : ordF y.f x.f = -(ordF x.f y.f) := cmp3_anti _ _
  rw [hf]
  split <;> split <;> (try split) <;> (try split) <;> (try split) <;> (try split) <;> omega
theorem ordX_rng (x y : Val) : ordX x y = -1 ∨ ordX x y = 0 ∨ ordX x y = 1 := by
  rw [ordX_lex]
  split
  · split
    · split
      · exact cmp3_rng _ _
      · exact cmpB_rng _ _
    · exact cmp3_rng _ _
  · exact cmp3_rng _ _
theorem rightC_f {x : Val} (h : RightC x) : canonF x.f = x.f := by
  rcases h with ⟨k, n, s, f⟩ | ⟨k, s, f⟩ | ⟨k, s, f, n⟩ | ⟨k, n, f, s⟩ | ⟨k, n, s, f⟩
  · rw [f]; decide
  · rw [f]; decide
  · rw [f]; decide
  · rw [f]; decide
  · exact f
theorem ordX_zero {x y : Val} (hx : RightC x) (hy : RightC y) (wx : x.Wf) (wy : y.Wf) : ordX x y = 0 ↔ x = y := by
  constructor
  · intro h
    rw [ordX_lex] at h
    split at h
    · rename_i hk
      split at h
      · rename_i hn
        split at h
        · rename_i hs
          have h1 := cmp3_zero3 hk
          have h2 := cmp3_zero3 hn
          have h3 := cmpB_zero _ _ hs
          have h4 : rankV x.f = rankV y.f := cmp3_zero3 h
          have h5 := (rank_inj wx.f0 wx.f1 wy.f0 wy.f1).1 h4
          rw [rightC_f hx, rightC_f hy] at h5
          have h6 : x.s = y.s := by
            apply ByteArray.ext
            exact Array.toList_inj.1 h3
          cases x; cases y
          simp only at *
          subst h1 h2 h5 h6
          rfl
        · contradiction
      · contradiction
    · contradiction
  · intro h
    subst h
    rw [ordX_lex, cmp3_self, if_pos rfl, cmp3_self, if_pos rfl, cmpB_self, if_pos rfl]
    exact ordF_self _
theorem cmp_ord {x y : Val} (hx : RightC x) (hy : RightC y) (wx : x.Wf) (wy : y.Wf) (h : cmpXb x y = true) (hc : cmpXi x y ≠ 0) : cmpXi x y = ordX x y := by
  rw [cmpX_eq hx hy] at hc ⊢
  rw [ordX_eq hx hy]
  unfold cmpXb at h
  split at h
  · cases h
  · rename_i hk
    have hk2 : x.k = y.k := by omega
    unfold ordRi
    rw [if_neg (by simp [hk2])]
    split at h
    · rename_i h4
      rw [if_pos h4]
      unfold cmpRi at hc ⊢
      rw [if_neg (by simp [hk2]; omega), if_pos h4] at hc ⊢
      have hn : nanW x.f.toNat = false ∧ nanW y.f.toNat = false := by
        simp only [Bool.not_eq_true', Bool.or_eq_false_iff] at h
        exact h
      exact (ordF_of_cmp wx.f0 wx.f1 wy.f0 wy.f1 hn.1 hn.2 hc).symm
    · rename_i h4
      rw [if_neg h4]
end Go.Proofs.YtjkkmepagdhaeaaGreatDoor
