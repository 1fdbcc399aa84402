/- The walk of float.Parse; first. -/
import Derived.Test.YtacafhmagonngaaGreatDoorFe1
set_option linter.unusedVariables false
set_option linter.unusedSimpArgs false
namespace Go.Proofs.YtacafhmagonngaaGreatDoor
open Go.RowKit

theorem word_range (s : Bool) (r : Nat) (h : r < B63) : Ieee.double.word s r < 18446744073709551616 := by
  have hs : Ieee.double.signWeight = B63 := by decide
  unfold Ieee.Format.word
  rw [hs]
  unfold B63 at *
  split <;> omega
/-- the word of a whole number -/
theorem fromW_spec (n : Int) (h : n.natAbs ≤ 9007199254740992) : ∃ r, fromW n = Ieee.double.word (decide (n < 0)) r ∧ mag r = n.natAbs * U ∧ r ≤ R53 := by
  have hf : fromW n = Ieee.double.nearest (decide (n < 0)) n.natAbs 0 := rfl
  by_cases h0 : n.natAbs = 0
  · exact ⟨0, by rw [hf, h0]; exact near_zero _ _, by rw [h0, mag_low (by decide), Nat.zero_mul], by decide⟩
  · obtain ⟨r, h1, h2, h3⟩ := near_exact (decide (n < 0)) n.natAbs (by omega) h
    exact ⟨r, by rw [hf, h1], h2, h3⟩
theorem inR_abs {n : Int} (h : inR n = true) : n.natAbs ≤ 9007199254740992 := by
  unfold inR at h
  simp only [Bool.and_eq_true, decide_eq_true_eq] at h
  omega
theorem fromV_range (n : Int) : 0 ≤ fromV n ∧ fromV n < 18446744073709551616 := by
  unfold fromV
  split
  · rename_i h
    obtain ⟨r, h1, _, h3⟩ := fromW_spec n (inR_abs h)
    have := word_range (decide (n < 0)) r (Nat.lt_of_le_of_lt h3 (by decide))
    rw [h1]
    omega
  · omega
theorem candV_range (l : List UInt8) : 0 ≤ candV l ∧ candV l < 18446744073709551616 := by
  unfold candV
  split
  · omega
  · split
    · omega
    · split
      · omega
      · split
        · omega
        · split
          · have := pu16_lt (Lib.trimPrefix l [48, 120]) 0 (by omega)
            omega
          · exact fromV_range _
def parseOk (l : List UInt8) : Bool := (printL (candV l).toNat == l) && (canonF (candV l) == candV l)
def parseV (l : List UInt8) : Int := if parseOk l then candV l else 0
theorem parse_any (w : World) (hl : Laid w) (s : ByteArray) (hs : s.size ≤ 281474976710656) :
    Calls Tryz.prog 57 #[.string s] w fun e w' => e = .returned (.tuple #[.int .u64 (parseV s.data.toList), .bool (parseOk s.data.toList)]) ∧ Below w.heap.size w w' := by
  have Hl := Lib.hid hl; clear hl
  obtain ⟨c0, c1⟩ := candV_range s.data.toList
  have hok : parseOk s.data.toList = ((printL (candV s.data.toList).toNat == s.data.toList) && (canonF (candV s.data.toList) == candV s.data.toList)) := rfl
  have hv : parseV s.data.toList = if parseOk s.data.toList then candV s.data.toList else 0 := rfl
  go_enter Tryz.func57, Tryz.ntmps57
  go_wp2_with fail
  refine (candidate_any w Hl.out s hs).mono ?_
  rintro e w1 ⟨rfl, hb⟩
  generalize hc : candV s.data.toList = c at c0 c1 hok hv ⊢
  have Hb := Lib.hid hb; clear hb
  by_cases hp : printL c.toNat = s.data.toList
  · have hse : s = ⟨(printL c.toNat).toArray⟩ := bytes_eq hp.symm
    have hlist : (printL c.toNat == s.data.toList) = true := by rw [beq_iff_eq]; exact hp
    rw [hlist, Bool.true_and] at hok
    cases hcn : canonF c == c with
    | true =>
      rw [hcn] at hok
      rw [hok, if_pos rfl] at hv
      have Hok := Lib.hid hok; have Hv := Lib.hid hv
      clear hok hv hlist hp hc
      subst hse
      go_wp2_with fail
      refine (print_any w1 (Hl.out.below Hb.out) c c0 c1).mono ?_
      rintro e w2 ⟨rfl, hb2⟩
      have Hbb := Lib.hid (Hb.out.trans (hb2.mono Hb.out.size)); clear hb2
      go_wp2_with fail
      refine (canon_any w2 c).mono ?_
      rintro e w3 ⟨rfl, rfl⟩
      go_wp2_with fail
      go_ret2
      exact ⟨by rw [Hok.out, Hv.out]; rfl, Hbb.out⟩
    | false =>
      have hcn' : (canonF c != c) = true := by rw [bne, hcn]; rfl
      rw [hcn] at hok
      rw [hok] at hv
      have Hok := Lib.hid hok; have Hv := Lib.hid hv
      clear hok hv hlist hp hc hcn
      subst hse
      go_wp2_with fail
      refine (print_any w1 (Hl.out.below Hb.out) c c0 c1).mono ?_
      rintro e w2 ⟨rfl, hb2⟩
      have Hbb := Lib.hid (Hb.out.trans (hb2.mono Hb.out.size)); clear hb2
      go_wp2_with fail
      refine (canon_any w2 c).mono ?_
      rintro e w3 ⟨rfl, rfl⟩
      go_wp2_with fail
      go_ret2
      exact ⟨by rw [Hok.out, Hv.out]; rfl, Hbb.out⟩
  · have hlist : (printL c.toNat == s.data.toList) = false := by rw [beq_eq_false_iff_ne]; exact hp
    rw [hlist, Bool.false_and] at hok
    rw [hok] at hv
    have Hok := Lib.hid hok; have Hv := Lib.hid hv
    have hne : (ByteArray.toList ⟨(printL c.toNat).toArray⟩ == s.toList) = false := by
      rw [ByteArray.toList_eq, ByteArray.toList_eq, beq_eq_false_iff_ne]; exact hp
    have hne2 : (ByteArray.toList ⟨(printL c.toNat).toArray⟩ != s.toList) = true := by rw [bne, hne]; rfl
    have Hpr := Lib.hid (show (ByteArray.mk (printL c.toNat).toArray) = ⟨(printL c.toNat).toArray⟩ from rfl)
    clear hok hv hlist hp hc
    generalize hS : (ByteArray.mk (printL c.toNat).toArray) = S at hne hne2
    have HS := Lib.hid hS
    clear hS Hpr
    go_wp2_with fail
    refine (print_any w1 (Hl.out.below Hb.out) c c0 c1).mono ?_
    rintro e w2 ⟨rfl, hb2⟩
    have Hbb := Lib.hid (Hb.out.trans (hb2.mono Hb.out.size)); clear hb2
    rw [HS.out]
    go_wp2_with fail
    go_ret2
    exact ⟨by rw [Hok.out, Hv.out]; rfl, Hbb.out⟩
end Go.Proofs.YtacafhmagonngaaGreatDoor
