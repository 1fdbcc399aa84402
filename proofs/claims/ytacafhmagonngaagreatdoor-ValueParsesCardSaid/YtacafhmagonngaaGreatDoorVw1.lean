/- Which texts are a value: by their form. No code is stepped through. -/
import Derived.Test.YtacafhmagonngaaGreatDoorVw0
set_option linter.unusedVariables false
set_option linter.unusedSimpArgs false
namespace Go.Proofs.YtacafhmagonngaaGreatDoor
open Go.RowKit

theorem empty_toList : (⟨#[]⟩ : ByteArray).toList = [] := by rw [ByteArray.toList_eq]
theorem right_of {x : Val} (h : RightC x) : rightB x = true := by
  obtain ⟨k, n, s, f⟩ := x
  rcases h with ⟨hk, hn, hs, hf⟩ | ⟨hk, hs, hf⟩ | ⟨hk, hs, hf, hn⟩ | ⟨hk, hn, hf, hs⟩ | ⟨hk, hn, hs, hf⟩
  · simp only at hk hn hs hf
    subst hk hn hs hf
    simp [rightB, empty_toList]
  · simp only at hk hs hf
    subst hk hs hf
    simp [rightB, empty_toList]
  · simp only at hk hs hf hn
    subst hk hs hf
    simp [rightB, empty_toList, hn]
  · simp only at hk hn hf hs
    subst hk hn hf
    simp [rightB, hs]
  · simp only at hk hn hs hf
    subst hk hn hs
    simp [rightB, empty_toList, hf]
theorem parse_forms {l : List UInt8} (h : okV l = true) : l = tNull ∨ l = tTrue ∨ l = tFalse ∨ parseOk l = true ∨ numOk l = true ∨ ∃ b : List UInt8, b.length ≤ 64 ∧ l = 120 :: hexL b := by
  have e : printVL (rightOf (candVal l)) = l := by unfold okV at h; exact beq_iff_eq.1 h
  have hr := rightC (candVal l)
  have hw := right_wf (candVal l) (candVal_wf l)
  generalize rightOf (candVal l) = v at *
  obtain ⟨k, n, s, f⟩ := v
  obtain ⟨-, -, n0, n1, f0, f1⟩ := hw
  simp only at n0 n1 f0 f1
  rcases hr with ⟨hk, hn, hs, hf⟩ | ⟨hk, hs, hf⟩ | ⟨hk, hs, hf, hn⟩ | ⟨hk, hn, hf, hs⟩ | ⟨hk, hn, hs, hf⟩
  · simp only at hk hn hs hf
    subst hk
    exact .inl e.symm
  · simp only at hk hs hf
    subst hk
    refine .inr (.inr (.inr (.inr (.inl ?_))))
    rw [← e]
    exact (num_itoa n n0 n1).1
  · simp only at hk hs hf hn
    subst hk
    rcases hn with rfl | rfl
    · exact .inr (.inr (.inl e.symm))
    · exact .inr (.inl e.symm)
  · simp only at hk hn hf hs
    subst hk
    exact .inr (.inr (.inr (.inr (.inr ⟨s.data.toList, by rw [← Lib.size_eq]; exact hs, e.symm⟩))))
  · simp only at hk hn hs hf
    subst hk
    refine .inr (.inr (.inr (.inl ?_)))
    rw [← e]
    exact (parse_print f f0 f1).1
theorem parse_right {v : Val} (h : RightC v) (w : v.Wf) {l : List UInt8} (hl : printVL v = l) : okV l = true ∧ parseVal l = v := by
  subst hl
  exact parse_printV h (right_self (right_of h)) w
theorem parse_float {l : List UInt8} (h : parseOk l = true) : okV l = true ∧ parseVal l = ⟨4, 0, ⟨#[]⟩, parseV l⟩ := by
  have hv : parseV l = candV l := by unfold parseV; rw [if_pos h]
  have hp := parseOk_print h
  have hr := parseV_range l
  have hc : canonF (parseV l) = parseV l := by
    have h2 := h
    unfold parseOk at h2
    rw [Bool.and_eq_true] at h2
    rw [hv]
    exact beq_iff_eq.1 h2.2
  refine parse_right (.float rfl rfl rfl hc) (wf_small _ _ _ _ (by omega) (by omega) (by omega) (by omega) hr.1 hr.2) ?_
  show printL (parseV l).toNat = l
  rw [hv]; exact hp
theorem parse_num {l : List UInt8} (h : numOk l = true) : okV l = true ∧ parseVal l = ⟨1, numV l, ⟨#[]⟩, 0⟩ := by
  obtain ⟨h1, h2, h3⟩ := num_back h
  exact parse_right (.int rfl rfl rfl) (wf_small _ _ _ _ (by omega) (by omega) h2 h3 (by omega) (by omega)) h1.symm
theorem parse_hex {l b : List UInt8} (h : l = 120 :: hexL b) (hb : b.length ≤ 64) : okV l = true ∧ parseVal l = ⟨3, 0, ⟨b.toArray⟩, 0⟩ := by
  refine parse_right (.bytes rfl rfl rfl (by simpa [ByteArray.size] using hb)) (wf_small _ _ _ _ (by omega) (by omega) (by omega) (by omega) (by omega) (by omega)) ?_
  rw [h]
  rfl
theorem parse_no {l : List UInt8} (h1 : l ≠ tNull) (h2 : l ≠ tFalse) (h3 : l ≠ tTrue) (h4 : parseOk l = false) (h5 : numOk l = false) (h6 : ∀ b : List UInt8, b.length ≤ 64 → l ≠ 120 :: hexL b) : okV l = false ∧ parseVal l = zeroVal := by
  have : okV l = false := by
    cases h : okV l with
    | false => rfl
    | true =>
      exfalso
      rcases parse_forms h with e | e | e | e | e | ⟨b, e1, e2⟩
      · exact h1 e
      · exact h3 e
      · exact h2 e
      · rw [h4] at e; cases e
      · rw [h5] at e; cases e
      · exact h6 b e1 e2
  exact ⟨this, by unfold parseVal; rw [this]; rfl⟩
theorem parse_words : (okV tNull = true ∧ parseVal tNull = ⟨0, 0, ⟨#[]⟩, 0⟩) ∧ (okV tFalse = true ∧ parseVal tFalse = ⟨2, 0, ⟨#[]⟩, 0⟩) ∧ (okV tTrue = true ∧ parseVal tTrue = ⟨2, 1, ⟨#[]⟩, 0⟩) := by
  refine ⟨?_, ?_, ?_⟩
  · exact parse_right (.null rfl rfl rfl rfl) (wf_small _ _ _ _ (by omega) (by omega) (by omega) (by omega) (by omega) (by omega)) rfl
  · exact parse_right (.bool rfl rfl rfl (.inl rfl)) (wf_small _ _ _ _ (by omega) (by omega) (by omega) (by omega) (by omega) (by omega)) rfl
  · exact parse_right (.bool rfl rfl rfl (.inr rfl)) (wf_small _ _ _ _ (by omega) (by omega) (by omega) (by omega) (by omega) (by omega)) rfl
theorem mem_hexL {b : List UInt8} {c : UInt8} (h : c ∈ hexL b) : ∃ d, d < 16 ∧ dig d = c := by
  induction b with
  | nil => cases h
  | cons x b ih =>
    have hx := x.toNat_lt
    rcases List.mem_cons.1 (show c ∈ dig (x.toNat / 16) :: dig (x.toNat % 16) :: hexL b from h) with e | e
    · exact ⟨_, by omega, e.symm⟩
    · rcases List.mem_cons.1 e with e | e
      · exact ⟨_, by omega, e.symm⟩
      · exact ih e
theorem hex_none {l : List UInt8} (h : l.head? ≠ some 120 ∨ l.length % 2 = 0 ∨ 129 < l.length ∨ ∃ j c, l[j + 1]? = some c ∧ ∀ d, d < 16 → dig d ≠ c) : ∀ b : List UInt8, b.length ≤ 64 → l ≠ 120 :: hexL b := by
  intro b hb e
  have hlen : l.length = 2 * b.length + 1 := by rw [e, List.length_cons, hexL_length]
  rcases h with h | h | h | ⟨j, c, h1, h2⟩
  · rw [e] at h; exact h rfl
  · omega
  · omega
  · rw [e, List.getElem?_cons_succ] at h1
    obtain ⟨d, hd, e2⟩ := mem_hexL (List.mem_of_getElem? h1)
    exact h2 d hd e2
end Go.Proofs.YtacafhmagonngaaGreatDoor
