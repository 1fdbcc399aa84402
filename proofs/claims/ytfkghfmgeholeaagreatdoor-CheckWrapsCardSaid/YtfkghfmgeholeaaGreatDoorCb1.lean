/- The walks of check.Index. -/
import Derived.Test.YtfkghfmgeholeaaGreatDoorCb0
import Derived.Test.YtfkghfmgeholeaaGreatDoorPc0
set_option linter.unusedVariables false
set_option linter.unusedSimpArgs false
namespace Go.Proofs.YtfkghfmgeholeaaGreatDoor
open Go.RowKit

/-- a variable that holds a field -/
structure FVar (w : World) (b : Nat) (f : Fd) : Prop where
  c0 : w.cell? ⟨b, 0, none⟩ = some (.string ⟨f.name.toArray⟩)
  c1 : w.cell? ⟨b, 1, none⟩ = some (.int .i64 f.kind)
  lt : b < w.heap.size
theorem FVar.new (w : World) (f : Fd) (ty : TypeId) : FVar (w.alloc (.cells #[.string ⟨f.name.toArray⟩, .int .i64 f.kind] ty)) w.heap.size f where
  c0 := by simp
  c1 := by simp
  lt := by simp
theorem FVar.below {w w' : World} {b B : Nat} {f : Fd} (h : FVar w b f) (hb : Below B w w') (hB : b < B) : FVar w' b f :=
  ⟨(hb.cell hB).trans h.c0, (hb.cell hB).trans h.c1, Nat.lt_of_lt_of_le h.lt hb.size⟩
set_option maxHeartbeats 4000000 in
set_option maxRecDepth 100000 in
theorem idx1_any (w : World) (P : Nat) (f : Fd) (s : List UInt8) (hp : w.cell? ⟨P, 0, none⟩ = some (.string ⟨s.toArray⟩)) :
    Calls Tryz.prog 43 #[f.val, .pointer (some ⟨P, 0, none⟩)] w fun e w' => e = .returned (.bool (decide (f.name = s))) ∧ Below w.heap.size w w' := by
  have hP := World.block_lt_of_cell? w _ hp
  have hb := Below.new w (.cells #[.string ⟨f.name.toArray⟩, .int .i64 f.kind] 45)
  have hp2 := (hb.cell hP).trans hp
  have hv := FVar.new w f 45
  have Hb := Lib.hid hb
  clear hp hb hP
  obtain ⟨c, k⟩ := f
  by_cases h : c = s
  · subst h
    simp only [Fd.val, decide_true]
    go_enter Tryz.func43, Tryz.ntmps43
    go_upto_region 1 with fail
    generalize (w.alloc _) = W at hp2 hv Hb ⊢
    obtain ⟨k0, k1, -⟩ := hv
    go_wp2_with fail
    go_ret
    exact ⟨rfl, Hb.out⟩
  · have hd : decide (c = s) = false := decide_eq_false h
    simp only [Fd.val]
    rw [hd]
    clear hd
    have h2 : (c == s) = false := beq_eq_false_iff_ne.2 h
    clear h
    go_enter Tryz.func43, Tryz.ntmps43
    go_upto_region 1 with fail
    generalize (w.alloc _) = W at hp2 hv Hb ⊢
    obtain ⟨k0, k1, -⟩ := hv
    go_wp2_with fail
    go_ret
    exact ⟨rfl, Hb.out⟩
set_option maxHeartbeats 4000000 in
set_option maxRecDepth 100000 in
theorem idxFn_any (w : World) (P : Nat) (s : List UInt8) (hp : w.cell? ⟨P, 0, none⟩ = some (.string ⟨s.toArray⟩)) (a : Option Addr) (n c : Nat) (l : List Fd) (hl : FSl w a n l) (hn : n ≤ 100000) :
    Calls Tryz.prog 42 #[.slice a n c, .func (.func 43) #[] #[.pointer (some ⟨P, 0, none⟩)]] w fun e w' => e = .returned (.int .i64 (idxL l s)) ∧ Below w.heap.size w w' := by
  have Hp := Lib.hid hp; have Hl := Lib.hid hl
  have hni : (n : Int) ≤ 100000 := by omega
  have HP := Lib.hid (World.block_lt_of_cell? w _ hp)
  clear hp hl hn
  generalize hR : idxL l s = R
  have HR := Lib.hid hR
  clear hR
  go_enter Tryz.func42, Tryz.ntmps42
  go_wp2_with fail
  go_loopg [5, 8] n (fun g _ s8 wx => ∃ (j : Nat) (I : Int), s8 = .int .i64 I ∧ Hid (I = (j : Int) ∧ j + g = n ∧ ∀ i f, i < j → l[i]? = some f → f.name ≠ s) ∧ Below w.heap.size w wx)
  case atStart => exact ⟨0, 0, rfl, Lib.hid ⟨rfl, by omega, fun i f hi => absurd hi (Nat.not_lt_zero _)⟩, Below.refl _ _⟩
  case round =>
    obtain ⟨j, I, rfl, HI, hb⟩ := hrel
    have Hb := Lib.hid hb; clear hb
    have hI0 : 0 ≤ I := by have := HI.out; omega
    by_cases hm : gk = 0
    · have hI1 : ¬ I < (n : Int) := by have := HI.out; omega
      have hq : R = -1 := by
        have h1 := HI.out; have h2 := Hl.out.1
        rw [← HR.out]
        exact idxL_end h1.2.2 (by omega)
      subst hq
      clear hm
      go_wp2_with fail
      go_ret
      exact ⟨rfl, Hb.out⟩
    · have hI1 : I < (n : Int) := by have := HI.out; omega
      have hIj : I.toNat = j := by have := HI.out; omega
      obtain ⟨f, hf⟩ : ∃ f, l[j]? = some f := ⟨l[j]'(by have := HI.out; have := Hl.out.1; omega), List.getElem?_eq_getElem _⟩
      obtain ⟨b, o, e1, hfa⟩ := Hl.out.2 j f hf
      subst e1
      obtain ⟨k0, k1⟩ := hfa.map fun i v hc => (Hb.out.cell (World.block_lt_of_cell? w _ hc)).trans hc
      have Hc := Lib.hid (idx1_any wr P f s ((Hb.out.cell HP.out).trans Hp.out))
      have Hf := Lib.hid hf
      have Hm := Lib.hid hm
      clear hf hfa hm
      by_cases hd : f.name = s
      · have hq : R = I := by
          rw [← HR.out, HI.out.1]
          exact idxL_hit HI.out.2.2 Hf.out hd
        subst hq
        rw [decide_eq_true hd] at Hc
        simp only [Fd.val] at Hc
        clear hd
        go_wp2_with fail
        refine Hc.out.mono ?_
        rintro e w2 ⟨rfl, hb2⟩
        have Hb2 := Lib.hid (Hb.out.trans (hb2.mono Hb.out.size))
        clear hb2
        go_wp2_with fail
        go_ret
        exact ⟨rfl, Hb2.out⟩
      · rw [decide_eq_false hd] at Hc
        simp only [Fd.val] at Hc
        have Hd := Lib.hid hd
        clear hd
        go_wp2_with fail
        refine Hc.out.mono ?_
        rintro e w2 ⟨rfl, hb2⟩
        have Hb2 := Lib.hid (Hb.out.trans (hb2.mono Hb.out.size))
        clear hb2
        go_wp2_with fail
        go_roundg (gk - 1)
        case measure => have := Hm.out; omega
        case rel => exact ⟨j + 1, I + 1, rfl, Lib.hid ⟨by have := HI.out; omega, by have := HI.out; have := Hm.out; omega, fun i g hi hg => by
          by_cases e : i = j
          · subst e
            have := Hf.out
            rw [hg] at this
            injection this with this
            subst this
            exact Hd.out
          · exact HI.out.2.2 i g (by omega) hg⟩, Hb2.out⟩
set_option maxHeartbeats 4000000 in
set_option maxRecDepth 100000 in
theorem index_any (w : World) (a : Option Addr) (n c : Nat) (l : List Fd) (hl : FSl w a n l) (hn : n ≤ 100000) (s : List UInt8) :
    Calls Tryz.prog 18 #[.slice a n c, .string ⟨s.toArray⟩] w fun e w' => e = .returned (.int .i64 (idxL l s)) ∧ Below w.heap.size w w' := by
  have hb := Below.new w (.cells #[.string ⟨s.toArray⟩] 9)
  have hc : (w.alloc (.cells #[.string ⟨s.toArray⟩] 9)).cell? ⟨w.heap.size, 0, none⟩ = some (.string ⟨s.toArray⟩) := by simp
  have Hc := Lib.hid (idxFn_any _ w.heap.size s hc a n c l (hl.later hb) hn)
  have Hb := Lib.hid hb
  generalize idxL l s = R at Hc ⊢
  clear hl hn hb hc
  go_enter Tryz.func18, Tryz.ntmps18
  go_upto_region 1 with fail
  generalize (w.alloc _) = W at Hc Hb ⊢
  go_wp2_with fail
  refine Hc.out.mono ?_
  rintro e w2 ⟨rfl, hb2⟩
  have Hb2 := Lib.hid (Hb.out.trans (hb2.mono Hb.out.size))
  clear hb2
  go_wp2_with fail
  go_ret
  exact ⟨rfl, Hb2.out⟩
end Go.Proofs.YtfkghfmgeholeaaGreatDoor
