/- The texts of values read: the walk of value.Parse. -/
import Derived.Test.YtacafhmagonngaaGreatDoorVc1
set_option linter.unusedVariables false
set_option linter.unusedSimpArgs false
namespace Go.Proofs.YtacafhmagonngaaGreatDoor
open Go.RowKit

theorem parseV_range (l : List UInt8) : 0 ≤ parseV l ∧ parseV l < 18446744073709551616 := by
  unfold parseV
  split
  · exact candV_range l
  · omega
theorem wf_small (k n : Int) (s : ByteArray) (f : Int) (h1 : 0 ≤ k) (h2 : k ≤ 4) (h3 : -9223372036854775808 ≤ n) (h4 : n ≤ 9223372036854775807) (h5 : 0 ≤ f) (h6 : f < 18446744073709551616) : (Val.mk k n s f).Wf :=
  ⟨by show -9223372036854775808 ≤ k; omega, by show k ≤ 9223372036854775807; omega, h3, h4, h5, h6⟩
theorem candVal_wf (l : List UInt8) : (candVal l).Wf := by
  unfold candVal
  split
  · exact wf_small _ _ _ _ (by omega) (by omega) (by omega) (by omega) (by omega) (by omega)
  · split
    · exact wf_small _ _ _ _ (by omega) (by omega) (by omega) (by omega) (by omega) (by omega)
    · split
      · exact wf_small _ _ _ _ (by omega) (by omega) (by omega) (by omega) (by omega) (by omega)
      · split
        · have := parseV_range l
          exact wf_small _ _ _ _ (by omega) (by omega) (by omega) (by omega) this.1 this.2
        · split
          · rename_i v hv
            have := Lib.atoiAll_bounds (atoiO_some hv)
            exact wf_small _ _ _ _ (by omega) (by omega) this.1 this.2 (by omega) (by omega)
          · exact wf_small _ _ _ _ (by omega) (by omega) (by omega) (by omega) (by omega) (by omega)
def okV (l : List UInt8) : Bool := printVL (rightOf (candVal l)) == l
def parseVal (l : List UInt8) : Val := if okV l then candVal l else zeroVal
set_option maxHeartbeats 8000000 in
set_option maxRecDepth 100000 in
theorem parseV_any (w : World) (hl : Laid w) (s : ByteArray) (hs : s.size ≤ 100000) :
    Calls Tryz.prog 9 #[.string s] w fun e w' => e = .returned (.tuple #[(parseVal s.data.toList).v, .bool (okV s.data.toList)]) ∧ Below w.heap.size w w' := by
  have hat := At.new w 0 0 ⟨#[]⟩ 0 26
  have hbw : Below w.heap.size w (w.alloc (.cells #[.int .i64 0, .int .i64 0, .string ⟨#[]⟩, .int .u64 0] 26)) := (Below.refl _ _).alloc (Nat.le_refl _) _
  have Hl := Lib.hid hl; have Hat := Lib.hid hat; have Hbw := Lib.hid hbw
  have Hcand : Hid (∀ W : World, Laid W → Calls Tryz.prog 26 #[.string s] W fun e w' => e = .returned (candVal s.data.toList).v ∧ Below W.heap.size W w') := Lib.hid fun W h => candV_any W h s hs
  have hwf := candVal_wf s.data.toList
  have Hpr : Hid (∀ W : World, Laid W → Calls Tryz.prog 14 #[(candVal s.data.toList).v] W fun e w' => e = .returned (.string ⟨(printVL (rightOf (candVal s.data.toList))).toArray⟩) ∧ Below W.heap.size W w') := Lib.hid fun W h => printV_any W h _ hwf
  have hok : okV s.data.toList = ((⟨(printVL (rightOf (candVal s.data.toList))).toArray⟩ : ByteArray).toList == s.toList) := by
    unfold okV
    rw [mk_toList, ByteArray.toList_eq]
  have hpv : parseVal s.data.toList = if okV s.data.toList then candVal s.data.toList else zeroVal := rfl
  generalize (⟨(printVL (rightOf (candVal s.data.toList))).toArray⟩ : ByteArray) = X at *
  clear hl hat hbw hwf
  generalize candVal s.data.toList = c at *
  obtain ⟨ck, cn, cs, cf⟩ := c
  have hok2 := hok
  have hpv2 := hpv
  have Hok := Lib.hid hok; have Hpv := Lib.hid hpv
  clear hok hpv hok2 hpv2
  generalize okV s.data.toList = ok at *
  generalize parseVal s.data.toList = pv at *
  simp only [Val.v] at Hcand Hpr
  cases hx : (X.toList == s.toList) with
  | true =>
    have hx2 : (X.toList != s.toList) = false := by unfold bne; rw [hx]; rfl
    have Hok2 : Hid (ok = true) := Lib.hid (by rw [Hok.out, hx])
    have Hpv2 : Hid (pv = ⟨ck, cn, cs, cf⟩) := Lib.hid (by rw [Hpv.out, Hok2.out]; rfl)
    clear hs
    go_enter Tryz.func9, Tryz.ntmps9
    go_upto_region 1 with fail
    generalize (w.alloc _) = W0 at Hat Hbw ⊢
    go_wp2_with fail
    refine (Hcand.out W0 (Hl.out.below Hbw.out)).mono ?_
    rintro e w1 ⟨rfl, hb⟩
    have Hb1 := Lib.hid (Hbw.out.trans (hb.mono Hbw.out.size))
    have Hat1 := Lib.hid (Hat.out.below hb Hat.out.lt)
    have hst := At.new w1 ck cn cs cf 26
    have Hst := Lib.hid hst
    have hb2 : Below w.heap.size w (w1.alloc (.cells #[.int .i64 ck, .int .i64 cn, .string cs, .int .u64 cf] 26)) := Hb1.out.alloc Hb1.out.size _
    have hat2 : At (w1.alloc (.cells #[.int .i64 ck, .int .i64 cn, .string cs, .int .u64 cf] 26)) w.heap.size 0 0 ⟨#[]⟩ 0 := Hat1.out.alloc _
    have Hb2 := Lib.hid hb2; have Hat2 := Lib.hid hat2
    clear hb hst hb2 hat2
    go_upto_region 2 with fail
    generalize (w1.alloc _) = W2 at Hst Hb2 Hat2 ⊢
    obtain ⟨c0, c1, c2, c3, -, -⟩ := Hst.out
    go_wp2_with fail
    refine (Hpr.out W2 (Hl.out.below Hb2.out)).mono ?_
    rintro e w3 ⟨rfl, hb⟩
    have Hb3 := Lib.hid (Hb2.out.trans (hb.mono Hb2.out.size))
    have at1 := Hat2.out.below hb Hat2.out.lt
    have ct1 := Hst.out.below hb Hst.out.lt
    have z0 := at1.z 0; have z1 := at1.z 1; have z2 := at1.z 2; have z3 := at1.z 3
    obtain ⟨d0, d1, d2, d3, -, -⟩ := at1
    clear c0 c1 c2 c3
    obtain ⟨c0, c1, c2, c3, -, -⟩ := ct1
    clear hb
    go_wp2_with fail
    exact bodyPost_ret (v := .tuple #[.agg #[.int .i64 ck, .int .i64 cn, .string cs, .int .u64 cf], .bool true]) (by simp [results, Tryz.results9, go_sem, d0, d1, d2, d3]) rfl ⟨by rw [Hpv2.out, Hok2.out], ((((Hb3.out).setCell (Nat.le_refl _) _).setCell (Nat.le_refl _) _).setCell (Nat.le_refl _) _).setCell (Nat.le_refl _) _⟩
  | false =>
    have hx2 : (X.toList != s.toList) = true := by unfold bne; rw [hx]; rfl
    have Hok2 : Hid (ok = false) := Lib.hid (by rw [Hok.out, hx])
    have Hpv2 : Hid (pv = zeroVal) := Lib.hid (by rw [Hpv.out, Hok2.out]; rfl)
    clear hs
    go_enter Tryz.func9, Tryz.ntmps9
    go_upto_region 1 with fail
    generalize (w.alloc _) = W0 at Hat Hbw ⊢
    go_wp2_with fail
    refine (Hcand.out W0 (Hl.out.below Hbw.out)).mono ?_
    rintro e w1 ⟨rfl, hb⟩
    have Hb1 := Lib.hid (Hbw.out.trans (hb.mono Hbw.out.size))
    have Hat1 := Lib.hid (Hat.out.below hb Hat.out.lt)
    have hst := At.new w1 ck cn cs cf 26
    have Hst := Lib.hid hst
    have hb2 : Below w.heap.size w (w1.alloc (.cells #[.int .i64 ck, .int .i64 cn, .string cs, .int .u64 cf] 26)) := Hb1.out.alloc Hb1.out.size _
    have hat2 : At (w1.alloc (.cells #[.int .i64 ck, .int .i64 cn, .string cs, .int .u64 cf] 26)) w.heap.size 0 0 ⟨#[]⟩ 0 := Hat1.out.alloc _
    have Hb2 := Lib.hid hb2; have Hat2 := Lib.hid hat2
    clear hb hst hb2 hat2
    go_upto_region 2 with fail
    generalize (w1.alloc _) = W2 at Hst Hb2 Hat2 ⊢
    obtain ⟨c0, c1, c2, c3, -, -⟩ := Hst.out
    go_wp2_with fail
    refine (Hpr.out W2 (Hl.out.below Hb2.out)).mono ?_
    rintro e w3 ⟨rfl, hb⟩
    have Hb3 := Lib.hid (Hb2.out.trans (hb.mono Hb2.out.size))
    have at1 := Hat2.out.below hb Hat2.out.lt
    have ct1 := Hst.out.below hb Hst.out.lt
    have z0 := at1.z 0; have z1 := at1.z 1; have z2 := at1.z 2; have z3 := at1.z 3
    obtain ⟨d0, d1, d2, d3, -, -⟩ := at1
    clear c0 c1 c2 c3
    obtain ⟨c0, c1, c2, c3, -, -⟩ := ct1
    clear hb
    go_wp2_with fail
    exact bodyPost_ret (v := .tuple #[.agg #[.int .i64 0, .int .i64 0, .string ⟨#[]⟩, .int .u64 0], .bool false]) (by simp [results, Tryz.results9, go_sem, d0, d1, d2, d3]) rfl ⟨by rw [Hpv2.out, Hok2.out]; rfl, ((((Hb3.out).setCell (Nat.le_refl _) _).setCell (Nat.le_refl _) _).setCell (Nat.le_refl _) _).setCell (Nat.le_refl _) _⟩
end Go.Proofs.YtacafhmagonngaaGreatDoor
