/- The text of a float: the walk of float.Print. -/
import Derived.Test.YtacafhmagonngaaGreatDoorFc1
import Derived.Laws.Concat
set_option linter.unusedVariables false
set_option linter.unusedSimpArgs false
namespace Go.Proofs.YtacafhmagonngaaGreatDoor
open Go.RowKit Go.Sort Go.Lib

theorem hexN_pad (c k u : Nat) (h : u < 16 ^ k) : hexN (k + c) u = List.replicate c 48 ++ hexN k u := by
  induction c with
  | zero => rfl
  | succ c ih =>
    have h2 : u < 16 ^ (k + c) := Nat.lt_of_lt_of_le h (Nat.pow_le_pow_right (by decide) (by omega))
    show dig (u / 16 ^ (k + c) % 16) :: hexN (k + c) u = _
    rw [Nat.div_eq_of_lt h2, ih, List.replicate_succ]
    rfl
theorem repeat_one (c : Nat) (b : UInt8) : Lib.repeatL [b] c = List.replicate c b := by
  induction c with
  | zero => rfl
  | succ c ih => show [b] ++ Lib.repeatL [b] c = _; rw [ih]; rfl
theorem decDigits_length (u : Nat) : (Lib.decDigits u).length ≤ u + 1 := by
  induction u using Nat.strongRecOn with
  | _ u ih =>
    rw [Lib.decDigits]
    split
    · simp
    · have := ih (u / 10) (by omega)
      simp only [List.length_append, List.length_singleton]
      omega
theorem itoa_length (n : Int) : (Lib.itoa n).length ≤ n.natAbs + 2 := by
  unfold Lib.itoa
  split
  · have := decDigits_length n.natAbs
    simp only [List.length_cons]; omega
  · have := decDigits_length n.toNat
    omega
/-- the text of a float -/
def printL (u : Nat) : List UInt8 :=
  if nanW u then [110, 97, 110] else if infW false u then [105, 110, 102] else if infW true u then [45, 105, 110, 102]
  else if wholeW u then (if negW u && wholeV u == 0 then [45, 48, 46] else Lib.itoa (wholeV u) ++ [46]) else [48, 120] ++ hexN 16 u
theorem grow_below (w : World) (k : Nat) (os : Array Obj) : Below w.heap.size w (grow (w.drewN k) os) :=
  ⟨rfl, rfl, rfl, by show w.heap.size ≤ (w.heap ++ os).size; rw [Array.size_append]; omega, fun j hj => by have := Go.Sort.heap_grow_old (w.drewN k) os hj; exact this⟩
theorem wholeV_le (u : Nat) : (wholeV u).natAbs ≤ 9007199254740992 := by
  unfold wholeV
  split
  · rename_i h
    unfold wholeW at h
    rw [Bool.and_eq_true] at h
    have := intW_le (of_decide_eq_true h.1)
    split <;> omega
  · simp

theorem itoa_any (w : World) (hl : Laid w) (n : Int) (hn : n.natAbs ≤ 9007199254740992) : Calls Tryz.prog 31 #[.int .i64 n] w fun e w' => e = .returned (.string ⟨(Lib.itoa n).toArray⟩) ∧ Below w.heap.size w w' := by
  refine (Tryz.strconv_Itoa n (by omega) (by omega) w hl.tab).mono ?_
  rintro e w' ⟨rfl, k, os, rfl⟩
  exact ⟨rfl, grow_below w k os⟩
theorem add_lists (x y : List UInt8) (h : x.length + y.length ≤ 9223372036854775807) (W : World) : (Op.stringOp .add ⟨x.toArray⟩ ⟨y.toArray⟩).run Tryz.prog W = .ok (.string ⟨(x ++ y).toArray⟩) W := by
  rw [run_string_add_sum W _ _ (by simpa [ByteArray.size] using h), ByteArray.mk_append_mk]
set_option maxHeartbeats 4000000 in
set_option maxRecDepth 100000 in
theorem print_any (w : World) (hl : Laid w) (u : Int) (h0 : 0 ≤ u) (h1 : u < 18446744073709551616) :
    Calls Tryz.prog 34 #[.int .u64 u] w fun e w' => e = .returned (.string ⟨(printL u.toNat).toArray⟩) ∧ Below w.heap.size w w' := by
  have Hl := Lib.hid hl; clear hl
  go_enter Tryz.func34, Tryz.ntmps34
  go_wp2_with fail
  refine (canon_any w u).mono ?_
  rintro e w' ⟨rfl, rfl⟩
  obtain ⟨c0, c1⟩ := canon_range h0 h1
  have hcn : nanW u.toNat = false → canonF u = u := fun h => by unfold canonF; rw [if_neg (by simp [h])]
  have hcy : nanW u.toNat = true → canonF u = 9221120237041090560 := fun h => by unfold canonF; rw [if_pos h]
  have Hcn := Lib.hid hcn; have Hcy := Lib.hid hcy; clear hcn hcy
  generalize hc : canonF u = c at c0 c1 Hcn Hcy ⊢
  have hfb := from_bits c
  go_wp2_with fail
  refine (toint_any w c).mono ?_
  rintro e w' ⟨rfl, rfl⟩
  cases hn : nanW u.toNat with
  | true =>
    obtain rfl : c = 9221120237041090560 := Hcy.out hn
    have Hp := Lib.hid (show printL u.toNat = [110, 97, 110] by unfold printL; rw [if_pos hn])
    clear hn hc
    go_wp2_with fail
    go_ret
    exact ⟨by rw [Hp.out]; rfl, Below.refl _ _⟩
  | false =>
    obtain rfl : u = c := (Hcn.out hn).symm
    have hne : (u == 9221120237041090560) = false := by
      rw [beq_eq_false_iff_ne]
      intro e
      subst e
      exact absurd hn (by decide)
    have hpr : printL u.toNat = if infW false u.toNat then [105, 110, 102] else if infW true u.toNat then [45, 105, 110, 102]
      else if wholeW u.toNat then (if negW u.toNat && wholeV u.toNat == 0 then [45, 48, 46] else Lib.itoa (wholeV u.toNat) ++ [46]) else [48, 120] ++ hexN 16 u.toNat := by unfold printL; rw [if_neg (by simp [hn])]
    clear hn hc
    have Hpr := Lib.hid hpr; clear hpr
    go_wp2_with fail
    refine (isinf_pos w u.toNat).mono ?_
    rintro e w' ⟨rfl, rfl⟩
    cases hi : infW false u.toNat with
    | true =>
      have Hp := Lib.hid (show printL u.toNat = [105, 110, 102] by rw [Hpr.out, if_pos hi])
      clear hi
      go_wp2_with fail
      go_ret
      exact ⟨by rw [Hp.out]; rfl, Below.refl _ _⟩
    | false =>
      have Hpr2 := Lib.hid (show printL u.toNat = _ by rw [Hpr.out, if_neg (by simp [hi])])
      clear hi Hpr
      go_wp2_with fail
      refine (isinf_neg w u.toNat).mono ?_
      rintro e w' ⟨rfl, rfl⟩
      cases hi : infW true u.toNat with
      | true =>
        have Hp := Lib.hid (show printL u.toNat = [45, 105, 110, 102] by rw [Hpr2.out, if_pos hi])
        clear hi
        go_wp2_with fail
        go_ret
        exact ⟨by rw [Hp.out]; rfl, Below.refl _ _⟩
      | false =>
        have Hpr3 := Lib.hid (show printL u.toNat = _ by rw [Hpr2.out, if_neg (by simp [hi])])
        clear hi Hpr2
        cases hw : wholeW u.toNat with
        | true =>
          have Hpr4 := Lib.hid (show printL u.toNat = _ by rw [Hpr3.out, if_pos hw])
          clear hw Hpr3
          have hv := wholeV_le u.toNat
          by_cases hz : wholeV u.toNat = 0
          · rw [hz] at hv ⊢
            go_wp2_with fail
            refine (signbit_any w u.toNat (by omega)).mono ?_
            rintro e w' ⟨rfl, rfl⟩
            cases hs : negW u.toNat with
            | true =>
              have Hp := Lib.hid (show printL u.toNat = [45, 48, 46] by rw [Hpr4.out, hs, hz]; rfl)
              clear hs hz
              go_wp2_with fail
              go_ret
              exact ⟨by rw [Hp.out]; rfl, Below.refl _ _⟩
            | false =>
              have Hp := Lib.hid (show printL u.toNat = [48, 46] by rw [Hpr4.out, hs, hz]; decide +kernel)
              clear hs hz
              go_wp2_with fail
              refine (itoa_any w Hl.out 0 (by decide)).mono ?_
              rintro e w1 ⟨rfl, hb⟩
              rw [show Lib.itoa 0 = [48] by decide +kernel]
              go_wp2_with fail
              go_ret
              exact ⟨by rw [Hp.out]; rfl, hb⟩
          · have hz' : (wholeV u.toNat == 0) = false := by simpa using hz
            have Hp := Lib.hid (show printL u.toNat = Lib.itoa (wholeV u.toNat) ++ [46] by rw [Hpr4.out, hz', Bool.and_false]; rfl)
            have Hv := Lib.hid hv
            have hadd := add_lists (Lib.itoa (wholeV u.toNat)) [46] (by have := itoa_length (wholeV u.toNat); simp only [List.length_singleton]; omega)
            generalize wholeV u.toNat = n at hz' Hp Hv hadd ⊢
            clear hz hv Hpr4
            go_wp2_with fail
            refine (itoa_any w Hl.out n Hv.out).mono ?_
            rintro e w1 ⟨rfl, hb⟩
            go_wp2_with fail
            go_ret
            exact ⟨by rw [Hp.out]; rfl, hb⟩
        | false =>
          have Hp := Lib.hid (show printL u.toNat = [48, 120] ++ hexN 16 u.toNat by rw [Hpr3.out, if_neg (by simp [hw])])
          obtain ⟨n, rfl⟩ := Int.eq_ofNat_of_zero_le h0
          clear hw Hpr3 hfb
          go_wp2_with fail
          refine (formatuint_any w Hl.out n (by omega)).mono ?_
          rintro e w1 ⟨k, hk1, hk2, hk3, rfl, hb⟩
          obtain ⟨c, hc⟩ : ∃ c, k + c = 16 := ⟨16 - k, by omega⟩
          have Hk3 := Lib.hid hk3
          have hsz : (ByteArray.size ⟨(hexN k n).toArray⟩ : Int) = 16 - (c : Int) := by simp [ByteArray.size, hexN_length]; omega
          have hsz2 : ByteArray.size ⟨(hexN k n).toArray⟩ ≤ 16 := by simp [ByteArray.size, hexN_length]; omega
          clear hk3
          generalize hS : (⟨(hexN k n).toArray⟩ : ByteArray) = S at hsz hsz2 ⊢
          have HS := Lib.hid hS
          clear hS
          go_wp2_with fail
          rw [show (16 : Int) - (16 - (c : Int)) = (c : Int) from by omega]
          refine (Tryz.strings_Repeat ⟨#[48]⟩ c w1 (by omega) (by show 1 * c ≤ _; omega)).mono ?_
          rintro e w2 ⟨rfl, hb2⟩
          have hbb := hb.trans (hb2.mono hb.size)
          have hr : Lib.repeatL (ByteArray.mk #[48]).data.toList c = List.replicate c 48 := repeat_one c 48
          rw [hr]
          have ha1 := add_lists [48, 120] (List.replicate c 48) (by simp; omega)
          have ha2 : ∀ W : World, (Op.stringOp .add ⟨(([48, 120] : List UInt8) ++ List.replicate c 48).toArray⟩ S).run Tryz.prog W = .ok (.string ⟨(([48, 120] : List UInt8) ++ List.replicate c 48 ++ hexN k n).toArray⟩) W := fun W => by
            rw [← HS.out]
            exact add_lists _ _ (by simp [hexN_length]; omega) W
          generalize hR : (⟨(List.replicate c 48).toArray⟩ : ByteArray) = R at ha1 ⊢
          generalize hT : (⟨(([48, 120] : List UInt8) ++ List.replicate c 48).toArray⟩ : ByteArray) = T at ha1 ha2
          have HT := Lib.hid hT
          clear hR hT hr hb hb2
          go_wp2_with fail
          go_ret
          refine ⟨?_, hbb⟩
          rw [Hp.out]
          have := hexN_pad c k n Hk3.out
          rw [hc] at this
          rw [show (n : Int).toNat = n from rfl, this]
          simp [← HT.out, ← HS.out, ByteArray.mk_append_mk]
end Go.Proofs.YtacafhmagonngaaGreatDoor
