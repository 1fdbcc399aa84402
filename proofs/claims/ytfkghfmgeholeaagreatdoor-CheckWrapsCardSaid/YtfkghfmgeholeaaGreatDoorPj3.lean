/- The length of the text of a right test. No code is stepped through. -/
import Derived.Test.YtfkghfmgeholeaaGreatDoorPf0
import Derived.Test.YtfkghfmgeholeaaGreatDoorPa8
import Derived.Test.YtfkghfmgeholeaaGreatDoorGC
set_option linter.unusedVariables false
set_option linter.unusedSimpArgs false
namespace Go.Proofs.YtfkghfmgeholeaaGreatDoor
open Go.RowKit

theorem itoa_len21p (n : Int) (h0 : -9223372036854775808 ≤ n) (h1 : n ≤ 9223372036854775807) : (Lib.itoa n).length ≤ 21 := by
  unfold Lib.itoa
  split
  · have := decDigits_len20 n.natAbs (by omega)
    simp only [List.length_cons]; omega
  · have := decDigits_len20 n.toNat (by omega)
    omega
theorem print_len18p (u : Nat) : (printL u).length ≤ 18 := by
  rcases print_forms u with e | e | e | e | ⟨v, hv, e⟩ | e
  · rw [e]; decide
  · rw [e]; decide
  · rw [e]; decide
  · rw [e]; decide
  · rw [e, List.length_append, List.length_singleton]
    have := itoa_len17 v hv
    omega
  · rw [e, List.length_append, hexN_length]; decide
theorem printVL_lenp {v : Val} (hr : rightB v = true) (w : v.Wf) : (printVL v).length ≤ 200 := by
  unfold printVL
  split
  · have := itoa_len21p v.n w.n0 w.n1; omega
  · split
    · split <;> decide
    · split
      · rename_i h1 h2 h3
        have hs : v.s.size ≤ 64 := by
          unfold rightB at hr
          rw [if_neg h1, if_neg h2, if_pos h3] at hr
          simp only [Bool.and_eq_true, decide_eq_true_eq] at hr
          exact hr.2
        rw [List.length_cons, hexL_length, ← Lib.size_eq]
        omega
      · split
        · have := print_len18p v.f.toNat; omega
        · decide
theorem name_len {c : List UInt8} (h : nameB c = true) : c.length ≤ 16 := by
  cases c with
  | nil => cases h
  | cons a l =>
    simp only [nameB, Bool.and_eq_true, decide_eq_true_eq] at h
    simp only [List.length_cons]; omega
theorem print_facts (N : Nat) : ∀ (t : Tree) (d : Nat), t.depth ≤ N → rightT d t = true → WfT t → (printT t).length ≤ 300 * t.nodes ∧ t.sized ∧ printT t ≠ [] := by
  induction N with
  | zero => intro t d h; have := depth_eq t; omega
  | succ N ih =>
    intro t d h hr hw
    obtain ⟨hf, -⟩ := right_form hr
    cases hf with
    | col p c hc =>
      have hl := name_len hc
      refine ⟨?_, ?_, ?_⟩
      · rw [nodes_eq]; simp [printT, printTs, printK, Tree.kids, Tree.count]; omega
      · rw [Tree.sized]; exact ⟨by omega, by rw [Tree.sizeds]; trivial⟩
      · simp [printT, printTs, printK]
    | lit p v hv =>
      rw [WfT] at hw
      have hl := printVL_lenp hv hw.1
      have hrv : rightOf v = v := by unfold rightOf; rw [if_pos hv]
      have e : printT (.mk 1 p [] 0 v []) = printVL v := by rw [printT, printK, if_neg (by decide), if_pos rfl, hrv]
      refine ⟨?_, ?_, ?_⟩
      · rw [nodes_eq, e]; simp [Tree.kids, Tree.count]; omega
      · rw [Tree.sized]; exact ⟨by simp, by rw [Tree.sizeds]; trivial⟩
      · rw [e]
        unfold printVL
        split
        · exact itoa_ne _
        · split
          · split <;> decide
          · split
            · simp
            · split
              · intro h0
                rcases print_forms v.f.toNat with e | e | e | e | ⟨z, hz, e⟩ | e <;> rw [e] at h0 <;> simp at h0
              · decide
    | cmp p o a b h0 h5 la lb ra rb =>
      rw [depth_mk, deep_cons, deep_cons] at h
      rw [WfT, WfTs, WfTs] at hw
      have ha := ih a (d + 1) (by omega) ra hw.2.1
      have hb := ih b (d + 1) (by omega) rb hw.2.2.1
      have ho : (opTextL o).length ≤ 2 := by unfold opTextL; repeat' split
                                             all_goals decide
      refine ⟨?_, ?_, ?_⟩
      · rw [nodes_eq]; simp [printT, printTs, printK, Tree.kids, count_cons, show Tree.count [] = 0 from by rw [Tree.count]]; omega
      · rw [Tree.sized, Tree.sizeds, Tree.sizeds, Tree.sizeds]; exact ⟨by simp, ha.2.1, hb.2.1, trivial⟩
      · simp [printT, printTs, printK]
    | null p a la ra =>
      rw [depth_mk, deep_cons] at h
      rw [WfT, WfTs] at hw
      have ha := ih a (d + 1) (by omega) ra hw.2.1
      refine ⟨?_, ?_, ?_⟩
      · rw [nodes_eq]; simp [printT, printTs, printK, Tree.kids, count_cons, show Tree.count [] = 0 from by rw [Tree.count], kIs, tNull]; omega
      · rw [Tree.sized, Tree.sizeds, Tree.sizeds]; exact ⟨by simp, ha.2.1, trivial⟩
      · simp [printT, printTs, printK]
    | not p a ra =>
      rw [depth_mk, deep_cons] at h
      rw [WfT, WfTs] at hw
      have ha := ih a (d + 1) (by omega) ra hw.2.1
      refine ⟨?_, ?_, ?_⟩
      · rw [nodes_eq]; simp [printT, printTs, printK, Tree.kids, count_cons, show Tree.count [] = 0 from by rw [Tree.count], kNot]; omega
      · rw [Tree.sized, Tree.sizeds, Tree.sizeds]; exact ⟨by simp, ha.2.1, trivial⟩
      · simp [printT, printTs, printK]
    | and p a b ra rb =>
      rw [depth_mk, deep_cons, deep_cons] at h
      rw [WfT, WfTs, WfTs] at hw
      have ha := ih a (d + 1) (by omega) ra hw.2.1
      have hb := ih b (d + 1) (by omega) rb hw.2.2.1
      refine ⟨?_, ?_, ?_⟩
      · rw [nodes_eq]; simp [printT, printTs, printK, Tree.kids, count_cons, show Tree.count [] = 0 from by rw [Tree.count], kAnd]; omega
      · rw [Tree.sized, Tree.sizeds, Tree.sizeds, Tree.sizeds]; exact ⟨by simp, ha.2.1, hb.2.1, trivial⟩
      · simp [printT, printTs, printK]
    | or p a b ra rb =>
      rw [depth_mk, deep_cons, deep_cons] at h
      rw [WfT, WfTs, WfTs] at hw
      have ha := ih a (d + 1) (by omega) ra hw.2.1
      have hb := ih b (d + 1) (by omega) rb hw.2.2.1
      refine ⟨?_, ?_, ?_⟩
      · rw [nodes_eq]; simp [printT, printTs, printK, Tree.kids, count_cons, show Tree.count [] = 0 from by rw [Tree.count], kOr]; omega
      · rw [Tree.sized, Tree.sizeds, Tree.sizeds, Tree.sizeds]; exact ⟨by simp, ha.2.1, hb.2.1, trivial⟩
      · simp [printT, printTs, printK]
end Go.Proofs.YtfkghfmgeholeaaGreatDoor
