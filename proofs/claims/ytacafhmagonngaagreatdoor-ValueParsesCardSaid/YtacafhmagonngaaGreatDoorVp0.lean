/- Values that are right; how they compare. No code is stepped through. -/
import Derived.Test.YtacafhmagonngaaGreatDoorVa4
set_option linter.unusedVariables false
set_option linter.unusedSimpArgs false
namespace Go.Proofs.YtacafhmagonngaaGreatDoor
open Go.RowKit

inductive RightC (x : Val) : Prop where
  | null (k : x.k = 0) (n : x.n = 0) (s : x.s = ⟨#[]⟩) (f : x.f = 0)
  | int (k : x.k = 1) (s : x.s = ⟨#[]⟩) (f : x.f = 0)
  | bool (k : x.k = 2) (s : x.s = ⟨#[]⟩) (f : x.f = 0) (n : x.n = 0 ∨ x.n = 1)
  | bytes (k : x.k = 3) (n : x.n = 0) (f : x.f = 0) (s : x.s.size ≤ 64)
  | float (k : x.k = 4) (n : x.n = 0) (s : x.s = ⟨#[]⟩) (f : canonF x.f = x.f)
theorem empty_of {s : ByteArray} (h : s.toList = []) : s = ⟨#[]⟩ := by
  rw [ByteArray.toList_eq] at h
  exact bytes_eq h
theorem right_cases {x : Val} (h : rightB x = true) : RightC x := by
  unfold rightB at h
  by_cases h1 : x.k = 1
  · rw [if_pos h1] at h
    simp only [Bool.and_eq_true, decide_eq_true_eq] at h
    exact .int h1 (empty_of h.1) h.2
  rw [if_neg h1] at h
  by_cases h2 : x.k = 2
  · rw [if_pos h2] at h
    simp only [Bool.and_eq_true, decide_eq_true_eq] at h
    exact .bool h2 (empty_of h.1.1) h.1.2 h.2
  rw [if_neg h2] at h
  by_cases h3 : x.k = 3
  · rw [if_pos h3] at h
    simp only [Bool.and_eq_true, decide_eq_true_eq] at h
    exact .bytes h3 h.1.1 h.1.2 h.2
  rw [if_neg h3] at h
  by_cases h4 : x.k = 4
  · rw [if_pos h4] at h
    simp only [Bool.and_eq_true, decide_eq_true_eq] at h
    exact .float h4 h.1.1 (empty_of h.1.2) h.2
  rw [if_neg h4] at h
  simp only [Bool.and_eq_true, decide_eq_true_eq] at h
  exact .null h.1.1.1 h.1.1.2 (empty_of h.1.2) h.2
theorem right_right (x : Val) : rightB (rightOf x) = true := by
  unfold rightOf
  split
  · assumption
  · decide +kernel
theorem right_self {x : Val} (h : rightB x = true) : rightOf x = x := by unfold rightOf; rw [if_pos h]
theorem rightC (x : Val) : RightC (rightOf x) := right_cases (right_right x)
theorem compareInt_eq (a b : Int) : Lib.compareInt a b = cmp3 a b := rfl
theorem cmp3_self (a : Int) : cmp3 a a = 0 := by unfold cmp3; rw [if_neg (by omega), if_neg (by omega)]
theorem cmp3_ne {a b : Int} (h : a ≠ b) : cmp3 a b ≠ 0 := by unfold cmp3; split <;> (try split) <;> omega
theorem cmpB_nil : Lib.compareBytes [] [] = 0 := rfl
theorem ordF_self (a : Int) : ordF a a = 0 := cmp3_self _
theorem orL_last (a : Int) : orL [a] = a := by unfold orL; split <;> simp_all [orL]
theorem orL_zero (l : List Int) : orL (0 :: l) = orL l := by simp [orL]
theorem orL_pos {a : Int} (h : a ≠ 0) (l : List Int) : orL (a :: l) = a := by simp [orL, h]
theorem orL_zeros (a : Int) : orL [a, 0] = a := by
  by_cases h : a = 0
  · subst h; rfl
  · exact orL_pos h _
theorem orL_zeros2 (a : Int) : orL [a, 0, 0] = a := by
  by_cases h : a = 0
  · subst h; rfl
  · exact orL_pos h _
def cmpRi (x y : Val) : Int := if x.k = 0 ∨ x.k ≠ y.k then 0 else if x.k = 4 then cmpF x.f.toNat y.f.toNat else if x.k = 3 then Lib.compareBytes x.s.data.toList y.s.data.toList else cmp3 x.n y.n
theorem cmpX_eq {x y : Val} (hx : RightC x) (hy : RightC y) : cmpXi x y = cmpRi x y := by
  unfold cmpXi cmpRi
  by_cases h : x.k ≠ y.k ∨ x.k = 0
  · rw [if_pos h, if_pos h.symm]
  · rw [if_neg h, if_neg (fun e : x.k = 0 ∨ x.k ≠ y.k => h e.symm)]
    have hk : x.k = y.k := by omega
    by_cases h4 : x.k = 4
    · rw [if_pos h4, if_pos h4]
    · rw [if_neg h4, if_neg h4, compareInt_eq]
      by_cases h3 : x.k = 3
      · rw [if_pos h3]
        have hxn : x.n = 0 := by rcases hx with ⟨k, n, s, f⟩ | ⟨k, s, f⟩ | ⟨k, s, f, n⟩ | ⟨k, n, f, s⟩ | ⟨k, n, s, f⟩ <;> first | exact n | omega
        have hyn : y.n = 0 := by rcases hy with ⟨k, n, s, f⟩ | ⟨k, s, f⟩ | ⟨k, s, f, n⟩ | ⟨k, n, f, s⟩ | ⟨k, n, s, f⟩ <;> first | exact n | omega
        rw [hxn, hyn, cmp3_self, orL_zero, orL_last]
      · rw [if_neg h3]
        have hxs : x.s = ⟨#[]⟩ := by rcases hx with ⟨k, n, s, f⟩ | ⟨k, s, f⟩ | ⟨k, s, f, n⟩ | ⟨k, n, f, s⟩ | ⟨k, n, s, f⟩ <;> first | exact s | omega
        have hys : y.s = ⟨#[]⟩ := by rcases hy with ⟨k, n, s, f⟩ | ⟨k, s, f⟩ | ⟨k, s, f, n⟩ | ⟨k, n, f, s⟩ | ⟨k, n, s, f⟩ <;> first | exact s | omega
        rw [hxs, hys, cmpB_nil, orL_zeros]
def ordRi (x y : Val) : Int := if x.k ≠ y.k then cmp3 x.k y.k else if x.k = 4 then ordF x.f y.f else cmpRi x y
theorem ordX_eq {x y : Val} (hx : RightC x) (hy : RightC y) : ordX x y = ordRi x y := by
  unfold ordX ordRi
  by_cases hk : x.k = y.k
  · rw [if_neg (by simp [hk]), hk, cmp3_self, orL_zero, compareInt_eq]
    have hz : ∀ z : Val, RightC z → z.k ≠ 3 → z.s = ⟨#[]⟩ := by
      intro z hz h3
      rcases hz with ⟨k, n, s, f⟩ | ⟨k, s, f⟩ | ⟨k, s, f, n⟩ | ⟨k, n, f, s⟩ | ⟨k, n, s, f⟩ <;> first | exact s | omega
    have hn : ∀ z : Val, RightC z → z.k ≠ 1 → z.k ≠ 2 → z.n = 0 := by
      intro z hz h1 h2
      rcases hz with ⟨k, n, s, f⟩ | ⟨k, s, f⟩ | ⟨k, s, f, n⟩ | ⟨k, n, f, s⟩ | ⟨k, n, s, f⟩ <;> first | exact n | omega
    have hf : ∀ z : Val, RightC z → z.k ≠ 4 → z.f = 0 := by
      intro z hz h4
      rcases hz with ⟨k, n, s, f⟩ | ⟨k, s, f⟩ | ⟨k, s, f, n⟩ | ⟨k, n, f, s⟩ | ⟨k, n, s, f⟩ <;> first | exact f | omega
    by_cases h4 : y.k = 4
    · rw [if_pos h4, hn x hx (by omega) (by omega), hn y hy (by omega) (by omega), hz x hx (by omega), hz y hy (by omega), cmp3_self, orL_zero, cmpB_nil, orL_zero, orL_last]
    · rw [if_neg h4, hf x hx (by omega), hf y hy h4, ordF_self]
      unfold cmpRi
      rw [hk]
      by_cases h0 : y.k = 0
      · rw [if_pos (.inl h0), hn x hx (by omega) (by omega), hn y hy (by omega) (by omega), hz x hx (by omega), hz y hy (by omega), cmp3_self]
        rfl
      · rw [if_neg (by simp [h0]), if_neg h4]
        by_cases h3 : y.k = 3
        · rw [if_pos h3, hn x hx (by omega) (by omega), hn y hy (by omega) (by omega), cmp3_self, orL_zero, orL_zeros]
        · rw [if_neg h3, hz x hx (by omega), hz y hy h3, cmpB_nil, orL_zeros2]
  · rw [if_pos hk, orL_pos (cmp3_ne hk)]
end Go.Proofs.YtacafhmagonngaaGreatDoor
