/- The document's answer for values: the walk of texts. -/
import Derived.Test.YtjkkmepagdhaeaaGreatDoorVr0
set_option linter.unusedVariables false
set_option linter.unusedSimpArgs false
namespace Go.Proofs.YtjkkmepagdhaeaaGreatDoor
open Go.RowKit

theorem cmpBytes_ne (c d : UInt8) (x y : List UInt8) (h : c ≠ d) : Lib.compareBytes (c :: x) (d :: y) = cmp3 (c.toNat : Int) (d.toNat : Int) := by
  have hn : c.toNat ≠ d.toNat := fun e => h (UInt8.toNat_inj.1 e)
  unfold Lib.compareBytes cmp3
  by_cases h1 : c < d
  · have : c.toNat < d.toNat := UInt8.lt_iff_toNat_lt.1 h1
    rw [if_pos h1, if_pos (by omega)]
  · have h2 : ¬ c.toNat < d.toNat := fun e => h1 (UInt8.lt_iff_toNat_lt.2 e)
    have h3 : d < c := UInt8.lt_iff_toNat_lt.2 (by omega)
    rw [if_neg h1, if_pos h3, if_neg (by omega), if_pos (by omega)]
theorem cmpBytes_eq (c : UInt8) (x y : List UInt8) : Lib.compareBytes (c :: x) (c :: y) = Lib.compareBytes x y := by
  have : ¬ c < c := fun h => by have := UInt8.lt_iff_toNat_lt.1 h; omega
  rw [Lib.compareBytes, if_neg this, if_neg this]
theorem cmpBytes_end (x y : List UInt8) (h : x = [] ∨ y = []) : Lib.compareBytes x y = cmp3 (x.length : Int) (y.length : Int) := by
  cases x with
  | nil =>
    cases y with
    | nil => rfl
    | cons d y =>
      unfold Lib.compareBytes cmp3
      rw [if_pos (by simp only [List.length_nil, List.length_cons]; omega)]
  | cons c x =>
    cases y with
    | nil =>
      unfold Lib.compareBytes cmp3
      rw [if_neg (by simp only [List.length_nil, List.length_cons]; omega), if_pos (by simp only [List.length_nil, List.length_cons]; omega)]
    | cons d y => rcases h with h | h <;> cases h
theorem cmp3_shift (a b i : Int) : cmp3 (a - i) (b - i) = cmp3 a b := by
  unfold cmp3
  by_cases h : a < b
  · rw [if_pos h, if_pos (by omega)]
  · rw [if_neg h, if_neg (by omega)]
    by_cases h2 : b < a
    · rw [if_pos h2, if_pos (by omega)]
    · rw [if_neg h2, if_neg (by omega)]
set_option maxHeartbeats 8000000 in
set_option maxRecDepth 100000 in
theorem textsR_any (w : World) (a b : ByteArray) (ha : a.size ≤ 1000000000) (hb : b.size ≤ 1000000000) :
    Calls Tryz.prog 47 #[.string a, .string b] w fun e w' => e = .returned (.int .i64 (Lib.compareBytes a.data.toList b.data.toList)) ∧ Below w.heap.size w w' := by
  obtain ⟨N, hN⟩ : ∃ N, a.size = N := ⟨_, rfl⟩
  obtain ⟨M, hM⟩ : ∃ M, b.size = M := ⟨_, rfl⟩
  obtain ⟨x, hx⟩ : ∃ x, x = a.data.toList := ⟨_, rfl⟩
  obtain ⟨y, hy⟩ : ∃ y, y = b.data.toList := ⟨_, rfl⟩
  have hxN : x.length = N := by rw [hx, ← hN, Lib.size_eq]
  have hyM : y.length = M := by rw [hy, ← hM, Lib.size_eq]
  rw [← hx, ← hy]
  have Hx := Lib.hid hx; have Hy := Lib.hid hy; have HxN := Lib.hid hxN; have HyM := Lib.hid hyM
  have hNb : (N : Int) ≤ 1000000000 := by omega
  have hMb : (M : Int) ≤ 1000000000 := by omega
  clear hx hy hxN hyM ha hb
  have Hn : Hid (∀ (W : World) (p q : Int), Calls Tryz.prog 48 #[.int .i64 p, .int .i64 q] W fun e w' => e = .returned (.int .i64 (cmp3 p q)) ∧ W = w') := Lib.hid fun W p q => numbersR_any W p q
  go_enter Tryz.func47, Tryz.ntmps47
  go_wp2_with fail
  go_loopg [5] (N + 1) (fun mm i wr => ∃ (j : Nat) (I : Int), j + mm = N + 1 ∧ Hid (I = (j : Int) ∧ j ≤ N ∧ j ≤ M ∧ Lib.compareBytes (x.drop j) (y.drop j) = Lib.compareBytes x y) ∧ i = .int .i64 I ∧ Below w.heap.size w wr)
  case atStart => exact ⟨0, 0, by omega, Lib.hid ⟨rfl, Nat.zero_le _, Nat.zero_le _, rfl⟩, rfl, Below.refl _ _⟩
  case round =>
    obtain ⟨j, I, hj, HI, rfl, hb⟩ := hrel
    have Hb := Lib.hid hb; clear hb
    have Hj := Lib.hid hj; clear hj
    have hI0 : 0 ≤ I := by have := HI.out.1; omega
    by_cases hs : j < N ∧ j < M
    · have hI1 : I < (N : Int) := by have := HI.out.1; omega
      have hI2 : I < (M : Int) := by have := HI.out.1; omega
      have hIj : I.toNat = j := by have := HI.out.1; omega
      have h1 : j < a.size := by omega
      have h2 : j < b.size := by omega
      obtain ⟨c, hc⟩ : ∃ c, a[j] = c := ⟨_, rfl⟩
      obtain ⟨d, hd⟩ : ∃ d, b[j] = d := ⟨_, rfl⟩
      have hxc : x[j]? = some c := by rw [Hx.out, byte_at a j h1, hc]
      have hyd : y[j]? = some d := by rw [Hy.out, byte_at b j h2, hd]
      have dx : x.drop j = c :: x.drop (j + 1) := by
        have l1 : j < x.length := by rw [HxN.out]; omega
        rw [List.getElem?_eq_getElem l1] at hxc
        rw [List.drop_eq_getElem_cons l1, Option.some.inj hxc]
      have dy : y.drop j = d :: y.drop (j + 1) := by
        have l1 : j < y.length := by rw [HyM.out]; omega
        rw [List.getElem?_eq_getElem l1] at hyd
        rw [List.drop_eq_getElem_cons l1, Option.some.inj hyd]
      have hcm := HI.out.2.2.2
      rw [dx, dy] at hcm
      have Hs := Lib.hid hs
      have hwr : IntKind.i64.wrap (I + 1) = I + 1 := by rw [IntKind.wrap_i64]; omega
      have hwc : wrap64 (c.toNat : Int) = (c.toNat : Int) := by have := c.toNat_lt; unfold wrap64; omega
      have hwd : wrap64 (d.toNat : Int) = (d.toNat : Int) := by have := d.toNat_lt; unfold wrap64; omega
      clear hxc hyd dx dy hs
      by_cases he : c = d
      · have hne : ((c.toNat : Int) != (d.toNat : Int)) = false := by rw [he]; simp
        rw [he, cmpBytes_eq] at hcm
        have Hcm := Lib.hid hcm
        clear hcm he
        go_wp2_with fail
        go_quiet (fail)
        go_wp2_with fail
        go_roundg (N - j)
        case measure => have := Hj.out; omega
        case rel => exact ⟨j + 1, I + 1, by have := Hj.out; have := Hs.out; omega, Lib.hid ⟨by have := HI.out.1; omega, by have := Hs.out; omega, by have := Hs.out; omega, Hcm.out⟩, by go_num, below_drewN Hb.out _⟩
      · have hne : ((c.toNat : Int) != (d.toNat : Int)) = true := by
          rw [bne_iff_ne]
          intro e
          exact he (UInt8.toNat_inj.1 (by omega))
        rw [cmpBytes_ne c d _ _ he] at hcm
        have Hcm := Lib.hid hcm
        clear hcm he
        go_wp2_with fail
        go_quiet (fail)
        have Hb2 := Lib.hid (below_drewN Hb.out nq)
        generalize World.drewN wr nq = W1 at Hb2 ⊢
        go_wp2_with fail
        go_quiet ((go_at_call 48; exact Calls.quiet_of_same ((Hn.out _ _ _).mono fun e w1 h => ⟨h.1, h.2.symm⟩)))
        go_wp2_with fail
        go_ret
        exact ⟨by rw [← Hcm.out]; rfl, below_drewN Hb2.out _⟩
    · have hend : Lib.compareBytes x y = cmp3 (N : Int) (M : Int) := by
        rw [← HI.out.2.2.2, cmpBytes_end _ _ (by
          have := HI.out.2.1; have := HI.out.2.2.1
          rcases Nat.lt_or_ge j N with h | h
          · exact .inr (List.drop_eq_nil_of_le (by rw [HyM.out]; omega))
          · exact .inl (List.drop_eq_nil_of_le (by rw [HxN.out]; omega))), List.length_drop, List.length_drop, HxN.out, HyM.out]
        have h1 := HI.out.2.1; have h2 := HI.out.2.2.1
        rw [show ((N - j : Nat) : Int) = (N : Int) - (j : Int) from by omega, show ((M - j : Nat) : Int) = (M : Int) - (j : Int) from by omega, cmp3_shift]
      have Hend := Lib.hid hend
      by_cases hn : I < (N : Int)
      · have hm : ¬ I < (M : Int) := by have := HI.out.1; omega
        clear hs hend
        go_wp2_with fail
        refine (Hn.out _ _ _).mono ?_
        rintro e w1 ⟨rfl, rfl⟩
        go_wp2_with fail
        go_ret
        exact ⟨by rw [Hend.out]; rfl, Hb.out⟩
      · clear hs hend
        go_wp2_with fail
        refine (Hn.out _ _ _).mono ?_
        rintro e w1 ⟨rfl, rfl⟩
        go_wp2_with fail
        go_ret
        exact ⟨by rw [Hend.out]; rfl, Hb.out⟩
end Go.Proofs.YtjkkmepagdhaeaaGreatDoor
