/- The walk of FloatTexts. -/
import Derived.Test.YtjkkmepagdhaeaaDoorFe3
import Derived.Test.YtjkkmepagdhaeaaDoorFp0
set_option linter.unusedVariables false
set_option linter.unusedSimpArgs false
namespace Go.Proofs.YtjkkmepagdhaeaaDoor
open Go.RowKit

theorem mk_toList (l : List UInt8) : (⟨l.toArray⟩ : ByteArray).toList = l := by rw [ByteArray.toList_eq]
set_option maxHeartbeats 8000000 in
set_option maxRecDepth 100000 in
theorem texts_walk (w : World) (hl : Laid w) (a b : Int) (s : ByteArray) (a0 : 0 ≤ a) (a1 : a < 18446744073709551616) (b0 : 0 ≤ b) (b1 : b < 18446744073709551616) :
    Calls Tryd.prog 7 #[.int .u64 a, .int .u64 b, .string s] w fun e w' => e = .returned (.bool true) ∧ Below w.heap.size w w' := by
  have Hl := Lib.hid hl; clear hl
  have Pa : Hid (∀ W : World, Laid W → Calls Tryd.prog 20 #[.int .u64 a] W fun e w' => e = .returned (.string ⟨(printL a.toNat).toArray⟩) ∧ Below W.heap.size W w') := fun W h => print_any W h a a0 a1
  have Pb : Hid (∀ W : World, Laid W → Calls Tryd.prog 20 #[.int .u64 b] W fun e w' => e = .returned (.string ⟨(printL b.toNat).toArray⟩) ∧ Below W.heap.size W w') := fun W h => print_any W h b b0 b1
  have Ca : Hid (∀ W : World, Calls Tryd.prog 14 #[.int .u64 a] W fun e w' => e = .returned (.int .u64 (canonF a)) ∧ W = w') := fun W => canon_any W a
  have Cb : Hid (∀ W : World, Calls Tryd.prog 14 #[.int .u64 b] W fun e w' => e = .returned (.int .u64 (canonF b)) ∧ W = w') := fun W => canon_any W b
  have he : (printL a.toNat == printL b.toNat) = (canonF a == canonF b) := by
    rw [Bool.eq_iff_iff, beq_iff_eq, beq_iff_eq]
    exact print_eq a0 a1 b0 b1
  clear a0 a1 b0 b1
  generalize printL a.toNat = x at *
  generalize printL b.toNat = y at *
  generalize canonF a = A at *
  generalize canonF b = B at *
  have hxy : ((⟨x.toArray⟩ : ByteArray).toList == (⟨y.toArray⟩ : ByteArray).toList) = (A == B) := by rw [mk_toList, mk_toList, he]
  clear he
  generalize (⟨x.toArray⟩ : ByteArray) = X at *
  generalize (⟨y.toArray⟩ : ByteArray) = Y at *
  go_enter Tryd.func7, Tryd.ntmps7
  go_wp2_with fail
  refine (first_any w Hl.out).mono ?_
  rintro e w1 ⟨rfl, hb⟩
  go_wp2_with fail
  refine (Pa.out w1 (Hl.out.below hb)).mono ?_
  rintro e w2 ⟨rfl, hb2⟩
  have hb3 := hb.trans (hb2.mono hb.size)
  clear hb hb2
  go_wp2_with fail
  refine (Pb.out w2 (Hl.out.below hb3)).mono ?_
  rintro e w4 ⟨rfl, hb4⟩
  have hb5 := hb3.trans (hb4.mono hb3.size)
  clear hb4 hb3
  go_wp2_with fail
  refine (Ca.out w4).mono ?_
  rintro e w2 ⟨rfl, rfl⟩
  go_wp2_with fail
  refine (Cb.out w4).mono ?_
  rintro e w2 ⟨rfl, rfl⟩
  by_cases hs : 300 < s.size
  · go_wp2_with fail
    go_ret
    exact ⟨by simp [*], hb5⟩
  · go_wp2_with fail
    refine (parse_any w4 (Hl.out.below hb5) s (by omega)).mono ?_
    rintro e w5 ⟨rfl, hb6⟩
    have hb7 := hb5.trans (hb6.mono hb5.size)
    clear hb5 hb6
    cases hok : parseOk s.data.toList with
    | false =>
      go_wp2_with fail
      go_ret
      exact ⟨rfl, hb7⟩
    | true =>
      have hv : parseV s.data.toList = candV s.data.toList := by unfold parseV; rw [if_pos hok]
      have hr := candV_range s.data.toList
      rw [← hv] at hr
      have hok2 := hok
      unfold parseOk at hok2
      rw [Bool.and_eq_true, beq_iff_eq, beq_iff_eq, ← hv] at hok2
      obtain ⟨k1, k2⟩ := hok2
      clear hok hv
      generalize parseV s.data.toList = v at *
      go_wp2_with fail
      refine (print_any w5 (Hl.out.below hb7) v hr.1 hr.2).mono ?_
      rintro e w6 ⟨rfl, hb8⟩
      have hb9 := hb7.trans (hb8.mono hb7.size)
      clear hb7 hb8
      have hss : (⟨(printL v.toNat).toArray⟩ : ByteArray) = s := by rw [k1]
      rw [hss]
      clear hss k1
      go_wp2_with fail
      refine (canon_any w6 v).mono ?_
      rintro e w2 ⟨rfl, rfl⟩
      rw [k2]
      go_wp2_with fail
      go_ret
      exact ⟨by simp, hb9⟩
end Go.Proofs.YtjkkmepagdhaeaaDoor
