/- The walk of CheckFields. -/
import Derived.Test.YtfkghfmgeholeaaGreatDoorCf1
import Derived.Test.YtfkghfmgeholeaaGreatDoorCe0
set_option linter.unusedVariables false
set_option linter.unusedSimpArgs false
namespace Go.Proofs.YtfkghfmgeholeaaGreatDoor
open Go.RowKit

set_option maxHeartbeats 32000000 in
set_option maxRecDepth 100000 in
theorem checkFields_walk (w : World) (hl : Laid w) (hs : Spc w) (l : List Fd) (a : Option Addr) (n c : Nat) (hf : FSl w a n l) (hnc : n ≤ c) (s : ByteArray) :
    Calls Tryz.prog 5 #[.slice a n c, .string s] w fun e w' => e = .returned (.bool true) ∧ Below w.heap.size w w' := by
  obtain ⟨name, rfl⟩ : ∃ name : List UInt8, s = ⟨name.toArray⟩ := ⟨s.data.toList, by simp⟩
  have Hf := Lib.hid hf; have Hnc := Lib.hid hnc
  have CF : Hid (∀ W, Below w.heap.size w W → Calls Tryz.prog 10 #[] W fun e w' => e = .returned (.bool true) ∧ Below W.heap.size W w') := Lib.hid fun W hb => first18_any W (hl.below hb) (hs.below hb)
  have CL : Hid (∀ W, Below w.heap.size w W → Calls Tryz.prog 12 #[.slice a n c] W fun e w' => e = .returned (.bool (longF l)) ∧ Below W.heap.size W w') := Lib.hid fun W hb => long18_any W a n c l (hf.later hb)
  clear hl hs hf hnc
  have hc0 := Lib.hid (CF.out w (Below.refl _ _))
  cases hlg : longF l with
  | true =>
    rw [hlg] at CL
    clear hlg
    go_enter Tryz.func5, Tryz.ntmps5
    go_wp2_with fail
    refine hc0.out.mono ?_
    rintro e w1 ⟨rfl, hb⟩
    have HB1 := Lib.hid hb
    clear hb hc0
    have hc := Lib.hid (CL.out w1 HB1.out)
    go_wp2_with fail
    refine hc.out.mono ?_
    rintro e w2 ⟨rfl, hb⟩
    have HB2 := Lib.hid (HB1.out.trans (hb.mono HB1.out.size))
    clear hb hc
    go_wp2_with fail
    go_ret
    exact ⟨rfl, HB2.out⟩
  | false =>
    have hlf := longF_facts hlg
    have hn30 : n ≤ 30 := by have := Hf.out.1; omega
    have hn30i : (n : Int) ≤ 30 := by omega
    have hnm : ∀ f ∈ l, f.name.length ≤ 100000 := fun f hf => by have := hlf.2 f hf; omega
    have C1 : Hid (∀ W, Below w.heap.size w W → Calls Tryz.prog 16 #[.slice a n c] W fun e w' => e = .returned (.bool (fieldsB l)) ∧ Below W.heap.size W w') := Lib.hid fun W hb => ckFields_any W a n c l (Hf.out.later hb) (by omega) Hnc.out hnm
    have C2 : Hid (∀ W, Below w.heap.size w W → Calls Tryz.prog 17 #[.slice a n c] W fun e w' => e = .returned (.bool (fieldsB l)) ∧ Below W.heap.size W w') := Lib.hid fun W hb => ckFieldsR_any W a n c l (Hf.out.later hb) (by omega) Hnc.out hnm
    have C3 : Hid (∀ W, Below w.heap.size w W → Calls Tryz.prog 18 #[.slice a n c, .string ⟨name.toArray⟩] W fun e w' => e = .returned (.int .i64 (idxL l name)) ∧ Below W.heap.size W w') := Lib.hid fun W hb => index_any W a n c l (Hf.out.later hb) (by omega) name
    have Hz : Hid (bkL l name 0 = idxL l name) := Lib.hid (bk_zero l name)
    rw [hlg] at CL
    generalize fieldsB l = B at C1 C2
    generalize idxL l name = Q at C3 Hz
    clear hlg hlf hn30 hnm
    by_cases hlen : 100 < name.length
    · have hlen' : 100 < (name.length : Int) := by omega
      clear hlen
      go_enter Tryz.func5, Tryz.ntmps5
      go_wp2_with fail
      refine hc0.out.mono ?_
      rintro e w1 ⟨rfl, hb⟩
      have HB1 := Lib.hid hb
      clear hb hc0
      have hc := Lib.hid (CL.out w1 HB1.out)
      go_wp2_with fail
      refine hc.out.mono ?_
      rintro e w2 ⟨rfl, hb⟩
      have HB2 := Lib.hid (HB1.out.trans (hb.mono HB1.out.size))
      clear hb hc
      go_wp2_with fail
      go_ret
      exact ⟨rfl, HB2.out⟩
    · have hlen' : ¬ 100 < (name.length : Int) := by omega
      clear hlen
      go_enter Tryz.func5, Tryz.ntmps5
      go_wp2_with fail
      refine hc0.out.mono ?_
      rintro e w1 ⟨rfl, hb⟩
      have HB1 := Lib.hid hb
      clear hb hc0
      have hc := Lib.hid (CL.out w1 HB1.out)
      go_wp2_with fail
      refine hc.out.mono ?_
      rintro e w2 ⟨rfl, hb⟩
      have HB2 := Lib.hid (HB1.out.trans (hb.mono HB1.out.size))
      clear hb hc
      go_wp2_with fail
      go_loopg [5, 6] n (fun g s5 s6 wx => ∃ (m : Nat) (V I : Int), s5 = .int .i64 V ∧ s6 = .int .i64 I ∧ Hid (I = (m : Int) - 1 ∧ m = g ∧ m ≤ n ∧ V = bkL l name m) ∧ w2 = wx)
      case atStart => exact ⟨n, -1, (n : Int) - 1, rfl, rfl, Lib.hid ⟨rfl, rfl, Nat.le_refl _, by rw [Hf.out.1, bk_end]⟩, rfl⟩
      case round =>
        obtain ⟨m, V, I, rfl, rfl, HI, rfl⟩ := hrel
        by_cases hm : gk = 0
        · have hI1 : ¬ 0 ≤ I := by have := HI.out; omega
          obtain rfl : V = Q := by
            have h1 := HI.out
            rw [h1.2.2.2, ← Hz.out]
            rw [show m = 0 by omega]
          clear hm
          have hc := Lib.hid (C1.out w2 HB2.out)
          go_wp2_with fail
          refine hc.out.mono ?_
          rintro e w3 ⟨rfl, hb⟩
          have HB3 := Lib.hid (HB2.out.trans (hb.mono HB2.out.size))
          clear hb hc
          have hc := Lib.hid (C2.out w3 HB3.out)
          go_wp2_with fail
          refine hc.out.mono ?_
          rintro e w4 ⟨rfl, hb⟩
          have HB4 := Lib.hid (HB3.out.trans (hb.mono HB3.out.size))
          clear hb hc
          have hc := Lib.hid (C3.out w4 HB4.out)
          go_wp2_with fail
          refine hc.out.mono ?_
          rintro e w5 ⟨rfl, hb⟩
          have HB5 := Lib.hid (HB4.out.trans (hb.mono HB4.out.size))
          clear hb hc
          go_wp2_with fail
          go_ret
          exact ⟨rfl, HB5.out⟩
        · have hI1 : 0 ≤ I := by have := HI.out; omega
          have hI2 : I < (n : Int) := by have := HI.out; omega
          have hIj : I.toNat = m - 1 := by have := HI.out; omega
          obtain ⟨f, hf⟩ : ∃ f, l[m - 1]? = some f := ⟨l[m - 1]'(by have := HI.out; have := Hf.out.1; omega), List.getElem?_eq_getElem _⟩
          obtain ⟨b, o, e1, hfa⟩ := Hf.out.2 (m - 1) f hf
          subst e1
          obtain ⟨k0, k1⟩ := hfa.map fun i v hc => (HB2.out.cell (World.block_lt_of_cell? w _ hc)).trans hc
          have hst := bk_step (s := name) hf
          rw [show m - 1 + 1 = m from by have := HI.out; omega] at hst
          have Hst := Lib.hid hst
          have Hm := Lib.hid hm
          clear hf hfa hst hm
          by_cases hd : f.name = name
          · have Hv : Hid (I = bkL l name (m - 1)) := Lib.hid (by rw [Hst.out, if_pos hd]; have := HI.out; have := Hm.out; omega)
            have hbe : (f.name == name) = true := by rw [hd]; simp
            clear hd
            go_wp2_with fail
            go_roundg (gk - 1)
            case measure => have := Hm.out; omega
            case rel => exact ⟨m - 1, I, I - 1, rfl, rfl, Lib.hid ⟨by have := HI.out; have := Hm.out; omega, by have := HI.out; omega, by have := HI.out; omega, Hv.out⟩, rfl⟩
          · have Hv : Hid (V = bkL l name (m - 1)) := Lib.hid (by rw [Hst.out, if_neg hd]; exact HI.out.2.2.2)
            have hbe : (f.name == name) = false := beq_eq_false_iff_ne.2 hd
            clear hd
            go_wp2_with fail
            go_roundg (gk - 1)
            case measure => have := Hm.out; omega
            case rel => exact ⟨m - 1, V, I - 1, rfl, rfl, Lib.hid ⟨by have := HI.out; have := Hm.out; omega, by have := HI.out; omega, by have := HI.out; omega, Hv.out⟩, rfl⟩
end Go.Proofs.YtfkghfmgeholeaaGreatDoor
