/- The walk of law18.long. -/
import Derived.Test.YtfkghfmgeholeaaGreatDoorCf0
set_option linter.unusedVariables false
set_option linter.unusedSimpArgs false
namespace Go.Proofs.YtfkghfmgeholeaaGreatDoor
open Go.RowKit

theorem longF_hit {l : List Fd} {j : Nat} {f : Fd} (hf : l[j]? = some f) (h : 30 ≤ j ∨ 100 < f.name.length) : longF l = true := by
  have hlt := (List.getElem?_eq_some_iff.1 hf).1
  unfold longF
  rw [Bool.or_eq_true]
  rcases h with h | h
  · exact .inl (decide_eq_true (by omega))
  · exact .inr (List.any_eq_true.2 ⟨f, List.mem_of_getElem? hf, decide_eq_true h⟩)
theorem longF_end {l : List Fd} {j : Nat} (hj : j = l.length) (h30 : j ≤ 30) (h : ∀ i f, i < j → l[i]? = some f → f.name.length ≤ 100) : longF l = false := by
  unfold longF
  rw [Bool.or_eq_false_iff]
  refine ⟨decide_eq_false (by omega), ?_⟩
  rw [List.any_eq_false]
  intro f hf
  obtain ⟨i, hi⟩ := List.getElem?_of_mem hf
  have := h i f (by rw [hj]; exact (List.getElem?_eq_some_iff.1 hi).1) hi
  simp
  omega
set_option maxHeartbeats 4000000 in
set_option maxRecDepth 100000 in
theorem long18_any (w : World) (a : Option Addr) (n c : Nat) (l : List Fd) (hl : FSl w a n l) :
    Calls Tryz.prog 12 #[.slice a n c] w fun e w' => e = .returned (.bool (longF l)) ∧ Below w.heap.size w w' := by
  have Hl := Lib.hid hl
  clear hl
  generalize hR : longF l = R
  have HR := Lib.hid hR
  clear hR
  go_enter Tryz.func12, Tryz.ntmps12
  go_wp2_with fail
  go_loopg [3, 4, 7] n (fun g _ _ s7 wx => ∃ (j : Nat) (I : Int), s7 = .int .i64 I ∧ Hid (I = (j : Int) ∧ j + g = n ∧ j ≤ 30 ∧ ∀ i f, i < j → l[i]? = some f → f.name.length ≤ 100) ∧ Below w.heap.size w wx)
  case atStart => exact ⟨0, 0, rfl, Lib.hid ⟨rfl, by omega, by omega, fun i f hi => absurd hi (Nat.not_lt_zero _)⟩, Below.refl _ _⟩
  case round =>
    obtain ⟨j, I, rfl, HI, hb⟩ := hrel
    have Hb := Lib.hid hb; clear hb
    have hI0 : 0 ≤ I := by have := HI.out; omega
    have hI30 : I ≤ 30 := by have := HI.out; omega
    by_cases hm : gk = 0
    · have hI1 : ¬ I < (n : Int) := by have := HI.out; omega
      obtain rfl : R = false := by
        have h1 := HI.out; have h2 := Hl.out.1
        rw [← HR.out]
        exact longF_end (by omega) h1.2.2.1 h1.2.2.2
      clear hm
      go_wp2_with fail
      go_ret
      exact ⟨rfl, Hb.out⟩
    · have hI1 : I < (n : Int) := by have := HI.out; omega
      have hIj : I.toNat = j := by have := HI.out; omega
      obtain ⟨f, hf⟩ : ∃ f, l[j]? = some f := ⟨l[j]'(by have := HI.out; have := Hl.out.1; omega), List.getElem?_eq_getElem _⟩
      obtain ⟨b, o, e1, hfa⟩ := Hl.out.2 j f hf
      subst e1
      obtain ⟨k0, k1⟩ := hfa.map fun i v hc => (Hb.out.cell (World.block_lt_of_cell? w _ hc)).trans hc
      have Hbig := Lib.hid (Hb.out.trans ((Below.new wr (.cells #[.string ⟨f.name.toArray⟩, .int .i64 f.kind] 45)).mono Hb.out.size))
      have HV := Lib.hid (FVar.new wr f 45)
      have Hf := Lib.hid hf
      have Hm := Lib.hid hm
      clear hf hfa hm
      go_upto_region 4 with fail
      clear k0 k1
      generalize (wr.alloc _) = W at Hbig HV ⊢
      obtain ⟨k0, k1, -⟩ := HV.out
      by_cases h30 : 30 ≤ I
      · obtain rfl : R = true := by rw [← HR.out]; exact longF_hit Hf.out (.inl (by omega))
        go_wp2_with fail
        go_ret
        exact ⟨rfl, Hbig.out⟩
      · by_cases h100 : 100 < f.name.length
        · obtain rfl : R = true := by rw [← HR.out]; exact longF_hit Hf.out (.inr h100)
          have h100' : 100 < (f.name.length : Int) := by omega
          go_wp2_with fail
          go_ret
          exact ⟨rfl, Hbig.out⟩
        · have h100' : ¬ 100 < (f.name.length : Int) := by omega
          have H100 := Lib.hid h100
          clear h100
          go_wp2_with fail
          go_roundg (gk - 1)
          case measure => have := Hm.out; omega
          case rel => exact ⟨j + 1, I + 1, rfl, Lib.hid ⟨by have := HI.out; omega, by have := HI.out; have := Hm.out; omega, by have := HI.out; omega, fun i g hi hg => by
            by_cases e : i = j
            · subst e
              have := Hf.out
              rw [hg] at this
              injection this with this
              subst this
              have := H100.out
              omega
            · exact HI.out.2.2.2 i g (by omega) hg⟩, Hbig.out⟩
end Go.Proofs.YtfkghfmgeholeaaGreatDoor
