/- Fields made anew; what is asked ahead of each statement on checks: the walks of law18.first, law18.long. -/
import Derived.Test.YtfkghfmgeholeaaGreatDoorCd1
import Derived.Test.YtfkghfmgeholeaaGreatDoorRo0
import Derived.Test.YtfkghfmgeholeaaGreatDoorPe1
import Derived.Test.YtfkghfmgeholeaaGreatDoorPj3
import Derived.Test.YtfkghfmgeholeaaGreatDoorPj0
set_option linter.unusedVariables false
set_option linter.unusedSimpArgs false
namespace Go.Proofs.YtfkghfmgeholeaaGreatDoor
open Go.RowKit

def encFd (f : Fd) : List Value := [.string ⟨f.name.toArray⟩, .int .i64 f.kind]
/-- fields in a row -/
def EFd : Ety Fd where
  T := 45
  S := 31
  k := 2
  bytes := 24
  enc := encFd
  und := Tryz.underlying31
  info := ⟨.agg #[.string ⟨#[]⟩, .int .i64 0], rfl, by kernel_rfl⟩
  pos := by decide
  small := by decide
  len := fun x => rfl
  one := fun x u hu => by
    simp only [encFd, List.mem_cons, List.not_mem_nil, or_false] at hu
    rcases hu with rfl | rfl <;> rfl
/-- a slice built at once -/
theorem RBuf.made {α : Type} {E : Ety α} (w : World) (l : List α) (hne : l ≠ []) (arr : Array Value) (h : arr.toList = E.all l) (hl : l.length ≤ 1000000) : RBuf E w (w.alloc (.cells arr E.T)) (.slice (some ⟨w.heap.size, 0, none⟩) l.length l.length) l := by
  refine ⟨Below.new w _, E.all_len l, .inr ⟨w.heap.size, l.length, arr, rfl, Nat.le_refl _, ?_, Nat.le_refl _, by unfold maxLen; omega, ?_, ?_⟩⟩
  · show (w.heap.push _)[w.heap.size]? = _
    simp
  · rw [← E.all_len l, ← h]; simp
  · rw [h, ← E.all_len l, List.take_length]
theorem RBuf.fsl {w wr : World} {v : Value} {l : List Fd} (h : RBuf EFd w wr v l) : ∃ (a : Option Addr) (n c : Nat), v = .slice a n c ∧ n = l.length ∧ n ≤ c ∧ FSl wr a n l := by
  rcases h.form with ⟨rfl, rfl⟩ | ⟨g, c, rfl, hc, -, -, -, h4⟩
  · exact ⟨_, _, _, rfl, rfl, Nat.le_refl _, rfl, fun i f hf => by simp at hf⟩
  · refine ⟨_, _, _, rfl, rfl, hc, rfl, fun i f hf => ⟨g, 0, rfl, ?_⟩⟩
    have h0 := EFd.all_get hf 0 (by decide)
    have h1 := EFd.all_get hf 1 (by decide)
    refine ⟨?_, ?_⟩
    · rw [Nat.zero_add]
      exact h4 _ _ h0
    · rw [Nat.zero_add]
      exact h4 _ _ h1
def fdsA : List Fd := [⟨[97], 1⟩, ⟨[98], 2⟩]
def chkT1 : Tree := .mk 2 3 [] 0 zeroVal [.mk 0 0 [97] 0 zeroVal [], .mk 1 5 [] 0 ⟨3, 0, ⟨#[97]⟩, 0⟩ []]
def chkT2 : Tree := .mk 5 14 [] 0 zeroVal [.mk 5 3 [] 0 zeroVal [.mk 0 0 [98] 0 zeroVal [], .mk 2 10 [] 2 zeroVal [.mk 0 7 [97] 0 zeroVal [], .mk 1 12 [] 0 ⟨1, 3, ⟨#[]⟩, 0⟩ []]], .mk 4 18 [] 0 zeroVal [.mk 3 25 [] 0 zeroVal [.mk 0 22 [97] 0 zeroVal []]]]
theorem parse_chk1 : parseF [36, 97, 32, 61, 32, 120, 54, 49] = (chkT1, 0, 0) := by kernel_rfl
theorem parse_chk2 : parseF [36, 98, 32, 97, 110, 100, 32, 36, 97, 32, 60, 32, 51, 32, 97, 110, 100, 32, 110, 111, 116, 32, 36, 97, 32, 105, 115, 32, 110, 117, 108, 108] = (chkT2, 0, 0) := by kernel_rfl
theorem check_chk1 : checkF chkT1 fdsA = (3, 181) := by kernel_rfl
theorem check_chk2 : checkF chkT2 fdsA = (0, 0) := by kernel_rfl
theorem fields_A : fieldsB fdsA = true := by kernel_rfl
theorem fields_AA : fieldsB (fdsA ++ fdsA) = false := by kernel_rfl
theorem idx_A : idxL fdsA [98] = 1 := by kernel_rfl
/-- a test that was read is of a size that is asked -/
theorem parsed_facts {s : List UInt8} {t : Tree} {p : Nat} (h : parseF s = (t, p, 0)) : t.sized ∧ WfT t ∧ rightT 0 t = true ∧ t.nodes ≤ 2000 ∧ t.depth ≤ 40 := by
  obtain ⟨-, h1, h2, h3, h4, h5⟩ := parseF_good h
  exact ⟨(print_facts t.depth t 0 (Nat.le_refl _) h3 h4).2.1, h4, h3, by omega, h2⟩
theorem names_A : ∀ f ∈ fdsA, f.name.length ≤ 100000 := by
  intro f hf
  rcases List.mem_cons.1 hf with rfl | hf
  · decide
  · rw [List.mem_singleton.1 hf]; decide
theorem names_AA : ∀ f ∈ fdsA ++ fdsA, f.name.length ≤ 100000 := by
  intro f hf
  rcases List.mem_append.1 hf with hf | hf <;> exact names_A f hf
set_option maxHeartbeats 16000000 in
set_option maxRecDepth 100000 in
theorem first18_any (w : World) (hl : Laid w) (hs : Spc w) : Calls Tryz.prog 10 #[] w fun e w' => e = .returned (.bool true) ∧ Below w.heap.size w w' := by
  have Hl := Lib.hid hl; have Hs := Lib.hid hs
  have H1 : Hid (∀ W : World, Below w.heap.size w W → Calls Tryz.prog 15 #[.string ⟨#[36, 97, 32, 61, 32, 120, 54, 49]⟩] W fun e w' => ∃ a n c, e = .returned (.tuple #[.agg #[.int .i64 2, .int .i64 3, .string ⟨#[]⟩, .int .i64 0, .int .i64 0, .string ⟨#[]⟩, .int .u64 0, .int .i64 0, .slice a n c], .int .i64 0, .int .i64 0]) ∧ KSl w' W.heap.size chkT1.kids a n ∧ Below W.heap.size W w') := Lib.hid fun W hb => (pparse_any W (Hl.out.below hb) (Hs.out.below hb) ⟨#[36, 97, 32, 61, 32, 120, 54, 49]⟩).mono fun e w' h => by
    obtain ⟨hb, h⟩ := h
    rw [show parseF (⟨#[36, 97, 32, 61, 32, 120, 54, 49]⟩ : ByteArray).data.toList = (chkT1, 0, 0) from parse_chk1] at h
    obtain ⟨a, n, c, he, hk⟩ := h
    exact ⟨a, n, c, he, hk, hb⟩
  have H2 : Hid (∀ W : World, Below w.heap.size w W → Calls Tryz.prog 15 #[.string ⟨#[36, 98, 32, 97, 110, 100, 32, 36, 97, 32, 60, 32, 51, 32, 97, 110, 100, 32, 110, 111, 116, 32, 36, 97, 32, 105, 115, 32, 110, 117, 108, 108]⟩] W fun e w' => ∃ a n c, e = .returned (.tuple #[.agg #[.int .i64 5, .int .i64 14, .string ⟨#[]⟩, .int .i64 0, .int .i64 0, .string ⟨#[]⟩, .int .u64 0, .int .i64 0, .slice a n c], .int .i64 0, .int .i64 0]) ∧ KSl w' W.heap.size chkT2.kids a n ∧ Below W.heap.size W w') := Lib.hid fun W hb => (pparse_any W (Hl.out.below hb) (Hs.out.below hb) ⟨#[36, 98, 32, 97, 110, 100, 32, 36, 97, 32, 60, 32, 51, 32, 97, 110, 100, 32, 110, 111, 116, 32, 36, 97, 32, 105, 115, 32, 110, 117, 108, 108]⟩).mono fun e w' h => by
    obtain ⟨hb, h⟩ := h
    rw [show parseF (⟨#[36, 98, 32, 97, 110, 100, 32, 36, 97, 32, 60, 32, 51, 32, 97, 110, 100, 32, 110, 111, 116, 32, 36, 97, 32, 105, 115, 32, 110, 117, 108, 108]⟩ : ByteArray).data.toList = (chkT2, 0, 0) from parse_chk2] at h
    obtain ⟨a, n, c, he, hk⟩ := h
    exact ⟨a, n, c, he, hk, hb⟩
  have C1 : Hid (∀ (W : World) (S : Nat → Prop) (ta : Option Addr) (tn tc B : Nat), KSl W S chkT1.kids ta tn → FSl W (some ⟨B, 0, none⟩) 2 fdsA → Calls Tryz.prog 13 #[.agg #[.int .i64 2, .int .i64 3, .string ⟨#[]⟩, .int .i64 0, .int .i64 0, .string ⟨#[]⟩, .int .u64 0, .int .i64 0, .slice ta tn tc], .slice (some ⟨B, 0, none⟩) 2 2] W fun e w' => e = .returned (.tuple #[.int .i64 3, .int .i64 181]) ∧ Below W.heap.size W w') := Lib.hid fun W S ta tn tc B hk hf => by
    have := check_any W chkT1 (parsed_facts parse_chk1).1 S ta tn tc hk _ 2 2 fdsA hf (by decide) (by decide) names_A
    rw [check_chk1] at this
    exact this
  have C2 : Hid (∀ (W : World) (S : Nat → Prop) (ta : Option Addr) (tn tc B : Nat), KSl W S chkT2.kids ta tn → FSl W (some ⟨B, 0, none⟩) 2 fdsA → Calls Tryz.prog 13 #[.agg #[.int .i64 5, .int .i64 14, .string ⟨#[]⟩, .int .i64 0, .int .i64 0, .string ⟨#[]⟩, .int .u64 0, .int .i64 0, .slice ta tn tc], .slice (some ⟨B, 0, none⟩) 2 2] W fun e w' => e = .returned (.tuple #[.int .i64 0, .int .i64 0]) ∧ Below W.heap.size W w') := Lib.hid fun W S ta tn tc B hk hf => by
    have := check_any W chkT2 (parsed_facts parse_chk2).1 S ta tn tc hk _ 2 2 fdsA hf (by decide) (by decide) names_A
    rw [check_chk2] at this
    exact this
  have C3 : Hid (∀ (W : World) (B : Nat), FSl W (some ⟨B, 0, none⟩) 2 fdsA → Calls Tryz.prog 18 #[.slice (some ⟨B, 0, none⟩) 2 2, .string ⟨#[98]⟩] W fun e w' => e = .returned (.int .i64 1) ∧ Below W.heap.size W w') := Lib.hid fun W B hf => by
    have := index_any W _ 2 2 fdsA hf (by decide) [98]
    rw [idx_A] at this
    exact this
  have C4 : Hid (∀ (W : World) (B : Nat), FSl W (some ⟨B, 0, none⟩) 2 fdsA → Calls Tryz.prog 16 #[.slice (some ⟨B, 0, none⟩) 2 2] W fun e w' => e = .returned (.bool true) ∧ Below W.heap.size W w') := Lib.hid fun W B hf => by
    have := ckFields_any W _ 2 2 fdsA hf (by decide) (by decide) names_A
    rw [fields_A] at this
    exact this
  have C5 : Hid (∀ (W : World) (a : Option Addr) (n c : Nat), FSl W a n (fdsA ++ fdsA) → n ≤ c → Calls Tryz.prog 16 #[.slice a n c] W fun e w' => e = .returned (.bool false) ∧ Below W.heap.size W w') := Lib.hid fun W a n c hf hc => by
    have := ckFields_any W a n c (fdsA ++ fdsA) hf (by have := hf.1; simp [fdsA] at this; omega) hc names_AA
    rw [fields_AA] at this
    exact this
  have hmade := RBuf.made (E := EFd) w fdsA (by simp [fdsA]) #[.string ⟨#[97]⟩, .int .i64 1, .string ⟨#[98]⟩, .int .i64 2] rfl (by decide)
  have HM : Hid (RBuf EFd w (w.alloc (.cells #[.string ⟨#[97]⟩, .int .i64 1, .string ⟨#[98]⟩, .int .i64 2] 45)) (.slice (some ⟨w.heap.size, 0, none⟩) 2 2) fdsA) := Lib.hid hmade
  clear hl hs hmade
  go_enter Tryz.func10, Tryz.ntmps10
  go_upto_region 2 with fail
  generalize hW : World.alloc w _ = W0
  replace HM : Hid (RBuf EFd w W0 (.slice (some ⟨w.heap.size, 0, none⟩) 2 2) fdsA) := Lib.hid (by rw [← hW]; exact HM.out)
  clear hW
  have HF0 : Hid (FSl W0 (some ⟨w.heap.size, 0, none⟩) 2 fdsA) := Lib.hid (by
    obtain ⟨a, n, c, e, e2, e3, h⟩ := HM.out.fsl
    injection e with e4 e5 e6
    subst e4 e5
    exact h)
  have Hb0 := Lib.hid HM.out.below
  have hc := Lib.hid (H1.out W0 Hb0.out)
  go_wp2_with fail
  refine hc.out.mono ?_
  clear hc
  rintro e w1 ⟨ta, tn, tc, rfl, hk, hb⟩
  have Hb1 := Lib.hid (Hb0.out.trans (hb.mono Hb0.out.size))
  have HF1 := Lib.hid (HF0.out.later hb)
  have HM1 := Lib.hid (HM.out.later hb)
  have Hk1 := Lib.hid hk
  clear hk hb
  go_upto_region 3 with fail
  generalize hW : World.alloc w1 _ = W2
  have hbn : Below w1.heap.size w1 W2 := by rw [← hW]; exact Below.new _ _
  have hvn : KVar W2 w1.heap.size chkT1 ta tn tc := by rw [← hW]; exact KVar.new w1 chkT1 ta tn tc _
  have Hb2 := Lib.hid (Hb1.out.trans (hbn.mono Hb1.out.size))
  have HF2 := Lib.hid (HF1.out.later hbn)
  have HM2 := Lib.hid (HM1.out.later hbn)
  have Hk2 := Lib.hid (Hk1.out.later hbn)
  have Hv2 := Lib.hid hvn
  clear hW hbn hvn
  have hc := Lib.hid (H2.out W2 Hb2.out)
  go_wp2_with fail
  refine hc.out.mono ?_
  clear hc
  rintro e w3 ⟨ua, un, uc, rfl, hk, hb⟩
  have Hb3 := Lib.hid (Hb2.out.trans (hb.mono Hb2.out.size))
  have HF3 := Lib.hid (HF2.out.later hb)
  have HM3 := Lib.hid (HM2.out.later hb)
  have Hk3 := Lib.hid (Hk2.out.later hb)
  have Hv3 := Lib.hid (Hv2.out.below hb Hv2.out.lt)
  have Hj3 := Lib.hid hk
  clear hk hb
  go_upto_region 4 with fail
  generalize hW : World.alloc w3 _ = W4
  have hbn : Below w3.heap.size w3 W4 := by rw [← hW]; exact Below.new _ _
  have hvn : KVar W4 w3.heap.size chkT2 ua un uc := by rw [← hW]; exact KVar.new w3 chkT2 ua un uc _
  have Hb4 := Lib.hid (Hb3.out.trans (hbn.mono Hb3.out.size))
  have HF4 := Lib.hid (HF3.out.later hbn)
  have HM4 := Lib.hid (HM3.out.later hbn)
  have Hk4 := Lib.hid (Hk3.out.later hbn)
  have Hv4 := Lib.hid (Hv3.out.below hbn Hv3.out.lt)
  have Hj4 := Lib.hid (Hj3.out.later hbn)
  have Hu4 := Lib.hid hvn
  clear hW hbn hvn
  obtain ⟨k0, k1, k2, k3, k4, k5, k6, k7, k8, -, -⟩ := Hv4.out
  simp only [chkT1, chkT2, Tree.k, Tree.pos, Tree.col, Tree.op, Tree.v, zeroVal] at k0 k1 k2 k3 k4 k5 k6 k7 k8
  have hc := Lib.hid (C1.out W4 _ ta tn tc w.heap.size Hk4.out HF4.out)
  go_wp2_with fail
  refine hc.out.mono ?_
  clear hc
  rintro e w5 ⟨rfl, hb⟩
  have Hb5 := Lib.hid (Hb4.out.trans (hb.mono Hb4.out.size))
  have HF5 := Lib.hid (HF4.out.later hb)
  have HM5 := Lib.hid (HM4.out.later hb)
  have Hj5 := Lib.hid (Hj4.out.later hb)
  have Hu5 := Lib.hid (Hu4.out.below hb Hu4.out.lt)
  clear hb
  clear k0 k1 k2 k3 k4 k5 k6 k7 k8
  obtain ⟨k0, k1, k2, k3, k4, k5, k6, k7, k8, -, -⟩ := Hu5.out
  simp only [chkT1, chkT2, Tree.k, Tree.pos, Tree.col, Tree.op, Tree.v, zeroVal] at k0 k1 k2 k3 k4 k5 k6 k7 k8
  have hc := Lib.hid (C2.out w5 _ ua un uc w.heap.size Hj5.out HF5.out)
  go_wp2_with fail
  refine hc.out.mono ?_
  clear hc
  rintro e w6 ⟨rfl, hb⟩
  have Hb6 := Lib.hid (Hb5.out.trans (hb.mono Hb5.out.size))
  have HF6 := Lib.hid (HF5.out.later hb)
  have HM6 := Lib.hid (HM5.out.later hb)
  clear hb
  clear k0 k1 k2 k3 k4 k5 k6 k7 k8
  have hc := Lib.hid (C3.out w6 w.heap.size HF6.out)
  go_wp2_with fail
  refine hc.out.mono ?_
  clear hc
  rintro e w7 ⟨rfl, hb⟩
  have Hb7 := Lib.hid (Hb6.out.trans (hb.mono Hb6.out.size))
  have HF7 := Lib.hid (HF6.out.later hb)
  have HM7 := Lib.hid (HM6.out.later hb)
  clear hb
  have hc := Lib.hid (C4.out w7 w.heap.size HF7.out)
  go_wp2_with fail
  refine hc.out.mono ?_
  clear hc
  rintro e w8 ⟨rfl, hb⟩
  have Hb8 := Lib.hid (Hb7.out.trans (hb.mono Hb7.out.size))
  have HM8 := Lib.hid (HM7.out.later hb)
  clear hb
  go_wp2_with (at_builtin; refine wpList_rbuf EFd rfl (.tmp 57) (.tmp 58) rfl w w8 _ _ fdsA fdsA HM8.out (by decide) (Below.refl _ _) HM8.out.sl rfl rfl ?_; intro v' w9 hb9 _; have Hb9 := Lib.hid hb9; clear hb9; obtain ⟨fa, fn, fc, efv, -, hfc, hfs⟩ := Hb9.out.fsl; subst efv; have hc := Lib.hid (C5.out w9 fa fn fc hfs hfc); clear hfc hfs)
  refine hc.out.mono ?_
  clear hc
  rintro e w10 ⟨rfl, hb⟩
  have Hb10 := Lib.hid (Hb9.out.below.trans (hb.mono Hb9.out.below.size))
  clear hb
  go_wp2_with fail
  go_ret
  exact ⟨rfl, Hb10.out⟩
def longF (l : List Fd) : Bool := decide (30 < l.length) || l.any fun f => decide (100 < f.name.length)
theorem longF_facts {l : List Fd} (h : longF l = false) : l.length ≤ 30 ∧ ∀ f ∈ l, f.name.length ≤ 100 := by
  unfold longF at h
  rw [Bool.or_eq_false_iff, decide_eq_false_iff_not, List.any_eq_false] at h
  exact ⟨by omega, fun f hf => by have := h.2 f hf; simp at this; omega⟩
end Go.Proofs.YtfkghfmgeholeaaGreatDoor
