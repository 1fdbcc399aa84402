/- The document's answer for floats: the walk of Parse. -/
import Derived.Test.YtacafhmagonngaaGreatDoorFp2
import Derived.Deep.QuietTactic
import Derived.BigQuiet
set_option linter.unusedVariables false
set_option linter.unusedSimpArgs false
namespace Go.Proofs.YtacafhmagonngaaGreatDoor
open Go.RowKit

theorem below_drewN {B : Nat} {a w : World} (h : Below B a w) (n : Nat) : Below B a (w.drewN n) := ⟨h.os, h.tape, h.output, h.size, h.block⟩
def PrEnds (w w' : World) (e : Ending) (l : List UInt8) : Prop := ∃ v : Int, e = .returned (.tuple #[.int .u64 v, .bool (parseOk l)]) ∧ (parseOk l = true → v = parseV l) ∧ Below w.heap.size w w'
/-- the state of the loop over decimal digits -/
def DInvP (d' : List UInt8) (i n : Nat) (I NI : Int) : Prop := I = (i : Int) ∧ NI = (n : Int) ∧ Lib.decFrom 0 (d'.take i) = some n ∧ n < 10 ^ i
abbrev DInv (d' : List UInt8) (i n : Nat) (I NI : Int) : Prop := Hid (DInvP d' i n I NI)
theorem DInvP.next {d' : List UInt8} {i n : Nat} {I NI NJ : Int} {c : UInt8} (h : DInvP d' i n I NI) (hc : d'[i]? = some c) (hd : Lib.digitVal c = some (c.toNat - 48)) (hlo : 48 ≤ c.toNat) (hj : NJ = 10 * NI + ((c.toNat : Int) - 48)) (hhi : c.toNat ≤ 57) : DInvP d' (i + 1) (n * 10 + (c.toNat - 48)) (I + 1) NJ := by
  obtain ⟨h1, h2, h3, h4⟩ := h
  refine ⟨by omega, by omega, Lib.decFrom_take d' i 0 n c _ h3 hc hd, ?_⟩
  rw [Nat.pow_succ]
  omega
theorem consts_ok : (parseOk [110, 97, 110] = true ∧ parseV [110, 97, 110] = 9221120237041090560) ∧ (parseOk [105, 110, 102] = true ∧ parseV [105, 110, 102] = 9218868437227405312) ∧ (parseOk [45, 105, 110, 102] = true ∧ parseV [45, 105, 110, 102] = 18442240474082181120) ∧ (parseOk [45, 48, 46] = true ∧ parseV [45, 48, 46] = 9223372036854775808) := by
  refine ⟨⟨?_, ?_⟩, ⟨?_, ?_⟩, ⟨?_, ?_⟩, ⟨?_, ?_⟩⟩ <;> decide +kernel
/-- the state of the outer loop over hexadecimal digits -/
def XInv (t : List UInt8) (j U : Nat) : Prop := t.take j = hexN j U ∧ U < 16 ^ j
theorem hexN_snoc (j : Nat) : ∀ U D, D < 16 → U < 16 ^ j → hexN (j + 1) (U * 16 + D) = hexN j U ++ [dig D] := by
  intro U D hD _
  apply List.ext_getElem?
  intro i
  by_cases h : i < j
  · rw [hexN_get (j + 1) _ i (by omega), List.getElem?_append_left (by rw [hexN_length]; exact h), hexN_get j _ i h]
    congr 2
    rw [show j + 1 - 1 - i = (j - 1 - i) + 1 from by omega, Nat.pow_succ, Nat.mul_comm (16 ^ _), ← Nat.div_div_eq_div_mul, show (U * 16 + D) / 16 = U from by omega]
  · by_cases h2 : i = j
    · subst h2
      rw [hexN_get (i + 1) _ i (by omega), List.getElem?_append_right (by rw [hexN_length]; exact Nat.le_refl _), hexN_length, Nat.sub_self, show i + 1 - 1 - i = 0 from by omega, Nat.pow_zero, Nat.div_one, show (U * 16 + D) % 16 = D from by omega]
      rfl
    · rw [List.getElem?_eq_none (by rw [hexN_length]; omega), List.getElem?_eq_none (by rw [List.length_append, hexN_length]; simp; omega)]
theorem XInv.next {t : List UInt8} {j U D : Nat} (h : XInv t j U) (hc : t[j]? = some (dig D)) (hD : D < 16) : XInv t (j + 1) (U * 16 + D) := by
  refine ⟨?_, ?_⟩
  · rw [List.take_add_one, hc, h.1, hexN_snoc j U D hD h.2]
    rfl
  · have := h.2
    rw [Nat.pow_succ]
    omega
theorem digits16_size : digits16.size = 16 := by decide
theorem digit16_at (d : Nat) (h : d < 16) (h2 : d < digits16.size) : digits16[d] = dig d := by
  match d, h with
  | 0, _ => rfl
  | 1, _ => rfl
  | 2, _ => rfl
  | 3, _ => rfl
  | 4, _ => rfl
  | 5, _ => rfl
  | 6, _ => rfl
  | 7, _ => rfl
  | 8, _ => rfl
  | 9, _ => rfl
  | 10, _ => rfl
  | 11, _ => rfl
  | 12, _ => rfl
  | 13, _ => rfl
  | 14, _ => rfl
  | 15, _ => rfl
  | d + 16, h => omega
set_option maxHeartbeats 8000000 in
set_option maxRecDepth 100000 in
theorem parseR_any (w : World) (s : ByteArray) (hs : s.size ≤ 281474976710656) :
    Calls Tryz.prog 27 #[.string s] w fun e w' => PrEnds w w' e s.data.toList := by
  obtain ⟨⟨c1, c2⟩, ⟨c3, c4⟩, ⟨c5, c6⟩, ⟨c7, c8⟩⟩ := consts_ok
  by_cases k1 : s.data.toList = [110, 97, 110]
  · rw [bytes_eq k1]
    have H1 := Lib.hid c1; have H2 := Lib.hid c2
    clear c1 c2 c3 c4 c5 c6 c7 c8 k1 hs
    go_enter Tryz.func27, Tryz.ntmps27
    go_wp2_with fail
    go_ret2
    exact ⟨_, by rw [H1.out]; rfl, fun _ => H2.out.symm, Below.refl _ _⟩
  by_cases k2 : s.data.toList = [105, 110, 102]
  · rw [bytes_eq k2]
    have H1 := Lib.hid c3; have H2 := Lib.hid c4
    clear c1 c2 c3 c4 c5 c6 c7 c8 k1 k2 hs
    go_enter Tryz.func27, Tryz.ntmps27
    go_wp2_with fail
    go_ret2
    exact ⟨_, by rw [H1.out]; rfl, fun _ => H2.out.symm, Below.refl _ _⟩
  by_cases k3 : s.data.toList = [45, 105, 110, 102]
  · rw [bytes_eq k3]
    have H1 := Lib.hid c5; have H2 := Lib.hid c6
    clear c1 c2 c3 c4 c5 c6 c7 c8 k1 k2 k3 hs
    go_enter Tryz.func27, Tryz.ntmps27
    go_wp2_with fail
    go_ret2
    exact ⟨_, by rw [H1.out]; rfl, fun _ => H2.out.symm, Below.refl _ _⟩
  by_cases k4 : s.data.toList = [45, 48, 46]
  · rw [bytes_eq k4]
    have H1 := Lib.hid c7; have H2 := Lib.hid c8
    clear c1 c2 c3 c4 c5 c6 c7 c8 k1 k2 k3 k4 hs
    go_enter Tryz.func27, Tryz.ntmps27
    go_wp2_with fail
    go_ret2
    exact ⟨_, by rw [H1.out]; rfl, fun _ => H2.out.symm, Below.refl _ _⟩
  clear c1 c2 c3 c4 c5 c6 c7 c8
  have b1 := bytes_ne k1
  have b2 := bytes_ne k2
  have b3 := bytes_ne k3
  have b4 := bytes_ne k4
  obtain ⟨l, hl⟩ : ∃ l, l = s.data.toList := ⟨_, rfl⟩
  have hlen : l.length = s.size := by rw [hl, Lib.size_eq]
  by_cases k5 : l.length = 18 ∧ l.take 2 = [48, 120]
  · have hsz : s.size = 18 := by omega
    have Hl := Lib.hid hl
    have hex : (s.extract 0 2).toList = [48, 120] := by
      rw [Lib.extract_toList, List.drop_zero, ← hl]; exact k5.2
    have hexb : ((s.extract 0 2).toList == [48, 120]) = true := by rw [hex]; rfl
    have Hk := Lib.hid k5
    clear k1 k2 k3 k4 k5 hex hl hlen hs
    go_enter Tryz.func27, Tryz.ntmps27
    go_wp2_with fail
    obtain ⟨t, ht⟩ : ∃ t, l = [48, 120] ++ t := ⟨l.drop 2, by rw [← Hk.out.2, List.take_append_drop]⟩
    have htl : t.length = 16 := by have := Hk.out.1; rw [ht, List.length_append] at this; simp at this; omega
    have Ht := Lib.hid ht
    have Htl := Lib.hid htl
    clear ht htl
    have Hget : Hid (∀ j, j < 16 → ∀ h : j + 2 < s.size, ∃ c, t[j]? = some c ∧ s[j + 2] = c) := by
      refine Lib.hid fun j hj h => ⟨s[j + 2], ?_, rfl⟩
      have h2 : l[j + 2]? = some s[j + 2] := by
        rw [Hl.out, List.getElem?_eq_getElem (by rw [← Lib.size_eq]; exact h)]
        rfl
      rw [Ht.out] at h2
      simpa using h2
    go_loopg [4, 5] 16 (fun mm u i wr => ∃ (j U : Nat) (I UI : Int), j + mm = 16 ∧ Hid (I = (j : Int) + 2 ∧ UI = (U : Int)) ∧ u = .int .u64 UI ∧ i = .int .i64 I ∧ XInv t j U ∧ Below w.heap.size w wr)
    case atStart => exact ⟨0, 0, 2, 0, rfl, Lib.hid ⟨rfl, rfl⟩, rfl, rfl, ⟨rfl, by decide⟩, Below.refl _ _⟩
    case round =>
      obtain ⟨j, U, I, UI, hj, HI, rfl, rfl, hx, hb⟩ := hrel
      have Hx := Lib.hid hx; clear hx
      by_cases hm : gk = 0
      · have hj2 : j = 16 := by omega
        subst hj2
        have hI : I = 18 := by have := HI.out.1; omega
        subst hI
        have hu0 : 0 ≤ UI := by have := HI.out.2; omega
        have hu1 : UI < 18446744073709551616 := by have := HI.out.2; have := Hx.out.2; omega
        have htt : t = hexN 16 U := by
          have := Hx.out.1
          rwa [List.take_of_length_le (by rw [Htl.out]; exact Nat.le_refl _)] at this
        obtain ⟨hc1, hc2⟩ := hex_yes (l := l) Hx.out.2 (by rw [Ht.out, htt])
        rw [← HI.out.2] at hc1 hc2
        have hU : U = UI.toNat := by have := HI.out.2; omega
        rw [hU] at hc2
        have Hp : Hid (∀ W : World, Calls Tryz.prog 59 #[.int .u64 UI] W fun e w' => e = .returned (.string ⟨(printL UI.toNat).toArray⟩) ∧ Below W.heap.size W w') := Lib.hid fun W => printR_any W UI hu0 hu1
        have Hc : Hid (∀ W : World, Calls Tryz.prog 29 #[.int .u64 UI] W fun e w' => e = .returned (.int .u64 (canonF UI)) ∧ W = w') := Lib.hid fun W => canonR_any W UI hu0 hu1
        have hpv : parseOk l = true → parseV l = UI := by
          intro h
          unfold parseV
          rw [if_pos h, hc1]
        rw [Hl.out] at hc2 hpv
        rw [← ByteArray.toList_eq] at hc2
        have hsl : (printL UI.toNat == s.toList) = ((⟨(printL UI.toNat).toArray⟩ : ByteArray).toList == s.toList) := congrArg (· == s.toList) (mk_toList _).symm
        rw [hsl] at hc2
        generalize (⟨(printL UI.toNat).toArray⟩ : ByteArray) = X at *
        generalize canonF UI = C at *
        clear hm hj hu0 hu1 htt hc1 hU hsl
        have Hok := Lib.hid hc2
        have Hpv := Lib.hid hpv
        clear hc2 hpv
        cases hx1 : (X.toList == s.toList) with
        | false =>
          rw [hx1] at Hok
          go_wp2_with fail
          refine (Hp.out wr).mono ?_
          rintro e w2 ⟨rfl, hb2⟩
          have hb3 := hb.trans (hb2.mono hb.size)
          go_wp2_with fail
          go_ret2
          exact ⟨_, by rw [← ByteArray.toList_eq, Hok.out]; rfl, fun h => (Hpv.out h).symm, hb3⟩
        | true =>
          rw [hx1] at Hok
          go_wp2_with fail
          refine (Hp.out wr).mono ?_
          rintro e w2 ⟨rfl, hb2⟩
          have hb3 := hb.trans (hb2.mono hb.size)
          go_wp2_with fail
          refine (Hc.out w2).mono ?_
          rintro e w3 ⟨rfl, rfl⟩
          go_wp2_with fail
          go_ret2
          exact ⟨_, by rw [← ByteArray.toList_eq, Hok.out]; rfl, fun h => (Hpv.out h).symm, hb3⟩
      · have hj2 : j < 16 := by omega
        have hi : j + 2 < s.size := by omega
        have hI0 : 0 ≤ I := by have := HI.out.1; omega
        have hI1 : I < 18 := by have := HI.out.1; omega
        have hI2 : I < (s.size : Int) := by have := HI.out.1; omega
        have hIn : I.toNat = j + 2 := by have := HI.out.1; omega
        have Hm := Lib.hid hm
        have Hj := Lib.hid hj
        clear hm hj
        obtain ⟨c, hc1, hc2⟩ := Hget.out j hj2 hi
        have Hc1 := Lib.hid hc1; clear hc1
        have hU0 : 0 ≤ UI := by have := HI.out.2; omega
        have hU1 : UI < 1152921504606846976 := by
          have h1 := HI.out.2
          have h2 := Hx.out.2
          have h3 : 16 ^ j ≤ 16 ^ 15 := Nat.pow_le_pow_right (by decide) (by omega)
          omega
        go_wp2_with fail
        go_loopg [6] 16 (fun mm d wr => ∃ (D : Nat) (DI : Int), D + mm = 16 ∧ DI = (D : Int) ∧ d = .int .u64 DI ∧ Hid (∀ x, x < D → dig x ≠ c) ∧ Below w.heap.size w wr)
        case atStart => exact ⟨0, 0, rfl, rfl, rfl, Lib.hid fun x hx => by omega, hb⟩
        case round =>
          obtain ⟨D, DI, hD, hDI, rfl, hno, hb2⟩ := hrel
          by_cases hm : gk = 0
          · have hD2 : DI = 16 := by omega
            subst hD2
            have hdd : decide ((16 : Int) < 16) = false := by decide
            have hD16 : D = 16 := by omega
            clear hDI hm
            have hno2 := hex_no Ht.out (List.mem_of_getElem? Hc1.out) (fun d hd => hno.out d (by omega))
            have Hno := Lib.hid hno2
            clear hno2
            go_wp2_with fail
            go_quiet (fail)
            go_wp2_with fail
            go_ret2
            exact ⟨0, by rw [← Hl.out, Hno.out]; rfl, fun h => absurd (Hl.out ▸ h) (by rw [Hno.out]; decide), below_drewN hb2 nq⟩
          · have hD2 : D < 16 := by omega
            have hDs : D < digits16.size := by rw [digits16_size]; exact hD2
            have hD3 : DI < 16 := by omega
            have hD0 : 0 ≤ DI := by omega
            have hdd : decide (DI < 16) = true := by rw [decide_eq_true hD3]
            have hat := digit16_at D hD2 hDs
            have hDn : DI.toNat = D := by omega
            have HDI := Lib.hid hDI; have HD := Lib.hid hD; have Hm2 := Lib.hid hm
            clear hDI hD hm
            by_cases hcd : dig D = c
            · have hneq : ((((dig D).toNat : Int) != (c.toNat : Int))) = false := by rw [hcd]; simp
              have Hcd := Lib.hid hcd
              clear hcd
              have hd16 : (DI == 16) = false := by rw [beq_eq_false_iff_ne]; omega
              go_wp2_with fail
              go_quiet (fail)
              go_wp2_with fail
              go_roundg (15 - j)
              case measure => have := Hj.out; omega
              case rel => exact ⟨j + 1, U * 16 + D, I + 1, 16 * UI + DI, by have := Hj.out; omega, Lib.hid ⟨by have := HI.out.1; omega, by have := HI.out.2; have := HDI.out; omega⟩, by go_num, by go_num, Hx.out.next (by rw [Hc1.out, Hcd.out]) hD2, below_drewN hb2 nq⟩
            · have hneq : ((((dig D).toNat : Int) != (c.toNat : Int))) = true := by
                rw [bne_iff_ne]
                intro e
                exact hcd (UInt8.toNat_inj.1 (by omega))
              have Hcd := Lib.hid hcd
              clear hcd
              go_wp2_with fail
              go_quiet (fail)
              go_wp2_with fail
              go_roundg (15 - D)
              case measure => have := HD.out; omega
              case rel => exact ⟨D + 1, DI + 1, by have := HD.out; have := Hm2.out; omega, by have := HDI.out; omega, by go_num, Lib.hid fun x hx => by
                rcases Nat.lt_or_eq_of_le (Nat.le_of_lt_succ hx) with h | h
                · exact hno.out x h
                · rw [h]; exact Hcd.out, below_drewN hb2 nq⟩
  · have hsh : (l.length < 2 ∨ 18 < l.length ∨ l.getLast? ≠ some 46) → parseOk s.data.toList = false := by
      intro h
      have := shape_no (l := l) (by rw [hl]; exact k1) (by rw [hl]; exact k2) (by rw [hl]; exact k3) (by rw [hl]; exact k4) k5 h
      rwa [hl] at this
    have Hsh := Lib.hid hsh
    clear hsh
    obtain ⟨N, hN⟩ : ∃ N, s.size = N := ⟨_, rfl⟩
    rw [hN] at hlen
    have hk5 : (((N : Int) == 18) = true ∧ ((s.extract 0 2).toList == [48, 120]) = false ∧ 2 ≤ N) ∨ ((N : Int) == 18) = false := by
      by_cases h18 : N = 18
      · refine .inl ⟨by rw [h18]; rfl, ?_, by omega⟩
        rw [beq_eq_false_iff_ne, Lib.extract_toList, List.drop_zero, ← hl]
        exact fun e => k5 ⟨by omega, e⟩
      · refine .inr ?_
        rw [beq_eq_false_iff_ne]
        omega
    have Hl := Lib.hid hl
    have hk4 : l ≠ [45, 48, 46] := by rw [hl]; exact k4
    have Hk4 := Lib.hid hk4
    have Hlen := Lib.hid hlen
    clear k1 k2 k3 k4 k5 hl hlen hs hk4
    by_cases h2 : N < 2
    · have Hno := Lib.hid (Hsh.out (.inl (by rw [Hlen.out]; exact h2)))
      have h2i : (N : Int) < 2 := by omega
      rcases hk5 with ⟨hk5, hk6, hk7⟩ | hk5
      · omega
      · clear h2
        go_enter Tryz.func27, Tryz.ntmps27
        go_wp2_with fail
        go_ret2
        exact ⟨0, by rw [Hno.out]; rfl, fun h => absurd h (by rw [Hno.out]; decide), Below.refl _ _⟩
    have h2i : ¬ (N : Int) < 2 := by omega
    by_cases h18 : 18 < N
    · have Hno := Lib.hid (Hsh.out (.inr (.inl (by rw [Hlen.out]; exact h18))))
      have h18i : 18 < (N : Int) := by omega
      clear h2 h18
      rcases hk5 with ⟨hk5, hk6, hk7⟩ | hk5
      all_goals
        go_enter Tryz.func27, Tryz.ntmps27
        go_wp2_with fail
        go_ret2
        exact ⟨0, by rw [Hno.out]; rfl, fun h => absurd h (by rw [Hno.out]; decide), Below.refl _ _⟩
    have h18i : ¬ 18 < (N : Int) := by omega
    obtain ⟨M, hM⟩ : ∃ M, N = M + 1 := ⟨N - 1, by omega⟩
    have hix : ((N : Int) - 1).toNat = M := by omega
    have hix2 : M < s.size := by omega
    obtain ⟨b, hb⟩ : ∃ b, s[M] = b := ⟨_, rfl⟩
    have hlast : l.getLast? = some b := by
      rw [List.getLast?_eq_getElem?, Hlen.out, hM, Nat.add_sub_cancel, Hl.out, List.getElem?_eq_getElem (by rw [← Lib.size_eq]; exact hix2), ← hb]
      rfl
    have Hlast := Lib.hid hlast
    clear hlast
    by_cases h46 : b = 46
    · have hb46 : ((b.toNat : Int) != 46) = false := by rw [h46]; decide
      obtain ⟨d, hd⟩ : ∃ d, d = l.take M := ⟨_, rfl⟩
      have hld : l = d ++ [46] := by
        have h1 : l = l.take M ++ l.drop M := (List.take_append_drop M l).symm
        have h3 : l.drop M = [46] := by
          have hMl : M < l.length := by rw [Hlen.out, hM]; omega
          have h4 : l[M]? = some 46 := by
            have := Hlast.out
            rw [List.getLast?_eq_getElem?, Hlen.out, hM, Nat.add_sub_cancel, h46] at this
            exact this
          rw [List.drop_eq_getElem_cons hMl, List.drop_eq_nil_of_le (by rw [Hlen.out, hM]; exact Nat.le_refl _)]
          rw [List.getElem?_eq_getElem hMl] at h4
          rw [Option.some.inj h4]
        rw [hd]
        rw [h3] at h1
        exact h1
      have hdl : d.length = M := by rw [hd, List.length_take, Hlen.out, hM]; omega
      have Hld := Lib.hid hld; have Hdl := Lib.hid hdl
      have hed : (s.extract 0 M).data.toList = d := by
        rw [hd, Hl.out, ← ByteArray.toList_eq, Lib.extract_toList, List.drop_zero, Nat.sub_zero]
      have hes : (s.extract 0 M).size = M := by rw [Lib.size_eq, hed, hdl]
      clear hld hdl hd h2 h18
      have hM1 : 1 ≤ M := by omega
      have hM2 : M ≤ 17 := by omega
      have HM := Lib.hid hM
      clear hM
      obtain ⟨c0, r, hdr⟩ : ∃ c0 r, d = c0 :: r := by
        cases hdc : d with
        | nil => have := Hdl.out; rw [hdc] at this; simp at this; omega
        | cons c0 r => exact ⟨c0, r, rfl⟩
      have hNx : ∃ (S1 T : ByteArray) (P : Nat) (neg : Bool), s.extract 0 M = S1 ∧ S1.size = M ∧ (∀ h : 0 < S1.size, S1[0] = c0) ∧ T.size = P ∧ P ≤ 17 ∧ signed d T.data.toList neg ∧ ((c0.toNat : Int) == 45) = neg ∧ (neg = true → S1.extract 1 M = T) ∧ (neg = false → S1 = T ∧ P = M) := by
        have h0 : ∀ h : 0 < (s.extract 0 M).size, (s.extract 0 M)[0] = c0 := by
          intro h
          have h5 : (s.extract 0 M).data.toList[0]? = some ((s.extract 0 M)[0]) := by
            rw [List.getElem?_eq_getElem (by rw [← Lib.size_eq]; exact h)]
            rfl
          rw [hed, hdr] at h5
          exact (Option.some.inj h5).symm
        by_cases h45 : c0 = 45
        · have hT : ((s.extract 0 M).extract 1 M).data.toList = r := by
            rw [← ByteArray.toList_eq, Lib.extract_toList, hed, hdr]
            have : r.length + 1 = M := by have := Hdl.out; rw [hdr] at this; simpa using this
            simp only [List.drop_succ_cons, List.drop_zero]
            rw [List.take_of_length_le (by omega)]
          refine ⟨_, (s.extract 0 M).extract 1 M, ((s.extract 0 M).extract 1 M).size, true, rfl, hes, h0, rfl, ?_, ?_, ?_, fun _ => rfl, fun h => (by cases h)⟩
          · rw [Lib.size_eq, hT]
            have := Hdl.out; rw [hdr] at this; simp at this; omega
          · rw [hT]; exact .inl ⟨rfl, by rw [hdr, h45]⟩
          · rw [h45]; decide
        · refine ⟨_, s.extract 0 M, M, false, rfl, hes, h0, hes, hM2, ?_, ?_, fun h => (by cases h), fun _ => ⟨rfl, rfl⟩⟩
          · rw [hed]
            refine .inr ⟨rfl, rfl, by rw [hdr]; simp, ?_⟩
            rw [hdr]
            intro e
            exact h45 (Option.some.inj e)
          · rw [beq_eq_false_iff_ne]
            intro e
            exact h45 (UInt8.toNat_inj.1 (by simp; omega))
      obtain ⟨S1, T, P, neg, hS1, hS1s, hS0, hTs, hP, hsg, hc45, hneg, hpos⟩ := hNx
      obtain ⟨d', hd'⟩ : ∃ d', d' = T.data.toList := ⟨_, rfl⟩
      rw [← hd'] at hsg
      have hd'l : d'.length = P := by rw [hd', Lib.size_eq] at *; exact hTs
      have hget : Hid (∀ i, i < P → ∀ h : i < T.size, ∃ c, d'[i]? = some c ∧ T[i] = c) := by
        refine Lib.hid fun i hi h => ⟨T[i], ?_, rfl⟩
        rw [hd', List.getElem?_eq_getElem (by rw [← Lib.size_eq]; exact h)]
        rfl
      have hS1lt : 0 < S1.size := by rw [hS1s]; omega
      have hS00 := hS0 hS1lt
      have Hsg := Lib.hid hsg
      have Hd'l := Lib.hid hd'l
      have HP := Lib.hid hP
      clear hS0 hed hes hsg hd'l hdr hd'
      have hno : ∀ c ∈ d', ¬ isDig c → parseOk s.data.toList = false := by
        intro c h1 h2
        have := dec_no Hld.out Hsg.out h1 h2
        rwa [Hl.out] at this
      have Hno := Lib.hid hno
      clear hno
      have hyes : ∀ (n : Nat) (v : Int), Lib.decFrom 0 d' = some n → v = (if neg then -(n : Int) else n) → candV l = fromV v ∧ parseOk l = (inR v && (printL (fromV v).toNat == l)) := by
        intro n v h1 h2
        exact dec_ok Hld.out Hsg.out (by rw [Hdl.out]; exact hM2) h1 Hk4.out h2
      have Hyes := Lib.hid hyes
      clear hyes
      have Hlen17 := Lib.hid hM2
      cases neg with
      | true =>
        have hS2 := hneg rfl
        clear hneg hpos
        rcases hk5 with ⟨hk5, hk6, hk7⟩ | hk5
        all_goals
          go_enter Tryz.func27, Tryz.ntmps27
          go_wp2_with fail
          go_loopg [9, 10] P (fun mm nv iv wr => ∃ (i n : Nat) (I NI : Int), i + mm = P ∧ DInv d' i n I NI ∧ nv = .int .i64 NI ∧ iv = .int .i64 I ∧ w = wr)
          case atStart => exact ⟨0, 0, 0, 0, by omega, Lib.hid ⟨rfl, rfl, rfl, by decide⟩, rfl, rfl, rfl⟩
          case round =>
            obtain ⟨i, n, I, NI, hi, HI, rfl, rfl, rfl⟩ := hrel
            have hNI0 : 0 ≤ NI := by have := HI.out.2.1; omega
            have hNI1 : NI < 100000000000000000 := by
              have h1 := HI.out.2.1
              have h2 := HI.out.2.2.2
              have h3 : 10 ^ i ≤ 10 ^ 17 := Nat.pow_le_pow_right (by decide) (by have := HP.out; omega)
              omega
            by_cases hm : gk = 0
            · have hiP : i = P := by omega
              have hIP : I = (P : Int) := by have := HI.out.1; omega
              have hn : Lib.decFrom 0 d' = some n := by
                have := HI.out.2.2.1
                rwa [List.take_of_length_le (by rw [Hd'l.out, hiP]; exact Nat.le_refl _)] at this
              obtain ⟨y1, y2⟩ := Hyes.out n (-NI) hn (by have := HI.out.2.1; simp only [if_true]; omega)
              have Hf : Hid (∀ W : World, Calls Tryz.prog 60 #[.int .i64 (-NI)] W fun e w' => e = .returned (.tuple #[.int .u64 (fromV (-NI)), .bool (inR (-NI))]) ∧ W = w') := Lib.hid fun W => fromintR_any W (-NI) (by omega) (by omega)
              have hr := fromV_range (-NI)
              have Hp : Hid (∀ W : World, Calls Tryz.prog 59 #[.int .u64 (fromV (-NI))] W fun e w' => e = .returned (.string ⟨(printL (fromV (-NI)).toNat).toArray⟩) ∧ Below W.heap.size W w') := Lib.hid fun W => printR_any W _ hr.1 hr.2
              have hpv : parseOk l = true → parseV l = fromV (-NI) := by
                intro h
                unfold parseV
                rw [if_pos h, y1]
              rw [Hl.out] at y2 hpv
              rw [← ByteArray.toList_eq, show (printL (fromV (-NI)).toNat == s.toList) = ((⟨(printL (fromV (-NI)).toNat).toArray⟩ : ByteArray).toList == s.toList) from congrArg (· == s.toList) (mk_toList _).symm] at y2
              generalize (⟨(printL (fromV (-NI)).toNat).toArray⟩ : ByteArray) = X at *
              generalize fromV (-NI) = F at *
              clear hr y1 hn hm hi hiP
              subst hIP
              have Hok := Lib.hid y2
              have Hpv := Lib.hid hpv
              clear y2 hpv
              cases hin : inR (-NI) with
              | false =>
                rw [hin] at Hok Hf
                go_wp2_with fail
                refine (Hf.out w).mono ?_
                rintro e w2 ⟨rfl, rfl⟩
                go_wp2_with fail
                go_ret2
                exact ⟨0, by rw [← ByteArray.toList_eq, Hok.out]; rfl, fun h => absurd h (by rw [← ByteArray.toList_eq, Hok.out]; simp), Below.refl _ _⟩
              | true =>
                rw [hin] at Hok Hf
                cases hx1 : (X.toList == s.toList) with
                | false =>
                  have hx2 : (X.toList != s.toList) = true := by unfold bne; rw [hx1]; rfl
                  rw [hx1] at Hok
                  go_wp2_with fail
                  refine (Hf.out w).mono ?_
                  rintro e w2 ⟨rfl, rfl⟩
                  go_wp2_with fail
                  refine (Hp.out w).mono ?_
                  rintro e w2 ⟨rfl, hb2⟩
                  go_wp2_with fail
                  go_ret2
                  exact ⟨0, by rw [← ByteArray.toList_eq, Hok.out]; rfl, fun h => absurd h (by rw [← ByteArray.toList_eq, Hok.out]; simp), hb2⟩
                | true =>
                  have hx2 : (X.toList != s.toList) = false := by unfold bne; rw [hx1]; rfl
                  rw [hx1] at Hok
                  go_wp2_with fail
                  refine (Hf.out w).mono ?_
                  rintro e w2 ⟨rfl, rfl⟩
                  go_wp2_with fail
                  refine (Hp.out w).mono ?_
                  rintro e w2 ⟨rfl, hb2⟩
                  go_wp2_with fail
                  go_ret2
                  exact ⟨_, by rw [← ByteArray.toList_eq, Hok.out]; rfl, fun h => (Hpv.out h).symm, hb2⟩
            · have hiP : i < P := by omega
              have hI0 : 0 ≤ I := by have := HI.out.1; omega
              have hI1 : I < (P : Int) := by have := HI.out.1; omega
              have hIn : I.toNat = i := by have := HI.out.1; omega
              obtain ⟨c, hc1, hc2⟩ := hget.out i hiP (by rw [hTs]; exact hiP)
              have Hc1 := Lib.hid hc1
              have Hi := Lib.hid hi; have Hm := Lib.hid hm
              have hNI2 : NI < 10000000000000000 := by
                have h1 := HI.out.2.1
                have h2 := HI.out.2.2.2
                have h3 : 10 ^ i ≤ 10 ^ 16 := Nat.pow_le_pow_right (by decide) (by have := HP.out; omega)
                omega
              clear hc1 hi hm hNI1
              by_cases hlo : (c.toNat : Int) < 48
              · have hno := Hno.out c (List.mem_of_getElem? Hc1.out) (by unfold isDig; omega)
                have HN := Lib.hid hno; clear hno
                go_wp2_with fail
                go_ret2
                exact ⟨0, by rw [HN.out]; rfl, fun h => absurd h (by rw [HN.out]; decide), Below.refl _ _⟩
              by_cases hhi : 57 < (c.toNat : Int)
              · have hno := Hno.out c (List.mem_of_getElem? Hc1.out) (by unfold isDig; omega)
                have HN := Lib.hid hno; clear hno
                go_wp2_with fail
                go_ret2
                exact ⟨0, by rw [HN.out]; rfl, fun h => absurd h (by rw [HN.out]; decide), Below.refl _ _⟩
              have hdig : Lib.digitVal c = some (c.toNat - 48) := by unfold Lib.digitVal; rw [if_pos ⟨by omega, by omega⟩]
              have HD := Lib.hid (HI.out.next Hc1.out hdig (by omega) (show 10 * NI + ((c.toNat : Int) - 48) = 10 * NI + ((c.toNat : Int) - 48) from rfl) (by omega))
              have hlo2 : 48 ≤ (c.toNat : Int) := by omega
              have hhi2 : (c.toNat : Int) ≤ 57 := by omega
              clear hdig hlo hhi
              go_wp2_with fail
              go_roundg (P - (i + 1))
              case measure => have := Hi.out; have := Hm.out; omega
              case rel => exact ⟨i + 1, _, I + 1, _, by have := Hi.out; have := Hm.out; omega, HD, by go_num, by go_num, rfl⟩
      | false =>
        obtain ⟨rfl, rfl⟩ := hpos rfl
        clear hneg hpos
        rcases hk5 with ⟨hk5, hk6, hk7⟩ | hk5
        all_goals
          go_enter Tryz.func27, Tryz.ntmps27
          go_wp2_with fail
          go_loopg [9, 10] P (fun mm nv iv wr => ∃ (i n : Nat) (I NI : Int), i + mm = P ∧ DInv d' i n I NI ∧ nv = .int .i64 NI ∧ iv = .int .i64 I ∧ w = wr)
          case atStart => exact ⟨0, 0, 0, 0, by omega, Lib.hid ⟨rfl, rfl, rfl, by decide⟩, rfl, rfl, rfl⟩
          case round =>
            obtain ⟨i, n, I, NI, hi, HI, rfl, rfl, rfl⟩ := hrel
            have hNI0 : 0 ≤ NI := by have := HI.out.2.1; omega
            have hNI1 : NI < 100000000000000000 := by
              have h1 := HI.out.2.1
              have h2 := HI.out.2.2.2
              have h3 : 10 ^ i ≤ 10 ^ 17 := Nat.pow_le_pow_right (by decide) (by have := HP.out; omega)
              omega
            by_cases hm : gk = 0
            · have hiP : i = P := by omega
              have hIP : I = (P : Int) := by have := HI.out.1; omega
              have hn : Lib.decFrom 0 d' = some n := by
                have := HI.out.2.2.1
                rwa [List.take_of_length_le (by rw [Hd'l.out, hiP]; exact Nat.le_refl _)] at this
              obtain ⟨y1, y2⟩ := Hyes.out n (NI) hn (by have := HI.out.2.1; simp only [Bool.false_eq_true, if_false]; omega)
              have Hf : Hid (∀ W : World, Calls Tryz.prog 60 #[.int .i64 (NI)] W fun e w' => e = .returned (.tuple #[.int .u64 (fromV (NI)), .bool (inR (NI))]) ∧ W = w') := Lib.hid fun W => fromintR_any W (NI) (by omega) (by omega)
              have hr := fromV_range (NI)
              have Hp : Hid (∀ W : World, Calls Tryz.prog 59 #[.int .u64 (fromV (NI))] W fun e w' => e = .returned (.string ⟨(printL (fromV (NI)).toNat).toArray⟩) ∧ Below W.heap.size W w') := Lib.hid fun W => printR_any W _ hr.1 hr.2
              have hpv : parseOk l = true → parseV l = fromV (NI) := by
                intro h
                unfold parseV
                rw [if_pos h, y1]
              rw [Hl.out] at y2 hpv
              rw [← ByteArray.toList_eq, show (printL (fromV (NI)).toNat == s.toList) = ((⟨(printL (fromV (NI)).toNat).toArray⟩ : ByteArray).toList == s.toList) from congrArg (· == s.toList) (mk_toList _).symm] at y2
              generalize (⟨(printL (fromV (NI)).toNat).toArray⟩ : ByteArray) = X at *
              generalize fromV (NI) = F at *
              clear hr y1 hn hm hi hiP
              subst hIP
              have Hok := Lib.hid y2
              have Hpv := Lib.hid hpv
              clear y2 hpv
              cases hin : inR (NI) with
              | false =>
                rw [hin] at Hok Hf
                go_wp2_with fail
                refine (Hf.out w).mono ?_
                rintro e w2 ⟨rfl, rfl⟩
                go_wp2_with fail
                go_ret2
                exact ⟨0, by rw [← ByteArray.toList_eq, Hok.out]; rfl, fun h => absurd h (by rw [← ByteArray.toList_eq, Hok.out]; simp), Below.refl _ _⟩
              | true =>
                rw [hin] at Hok Hf
                cases hx1 : (X.toList == s.toList) with
                | false =>
                  have hx2 : (X.toList != s.toList) = true := by unfold bne; rw [hx1]; rfl
                  rw [hx1] at Hok
                  go_wp2_with fail
                  refine (Hf.out w).mono ?_
                  rintro e w2 ⟨rfl, rfl⟩
                  go_wp2_with fail
                  refine (Hp.out w).mono ?_
                  rintro e w2 ⟨rfl, hb2⟩
                  go_wp2_with fail
                  go_ret2
                  exact ⟨0, by rw [← ByteArray.toList_eq, Hok.out]; rfl, fun h => absurd h (by rw [← ByteArray.toList_eq, Hok.out]; simp), hb2⟩
                | true =>
                  have hx2 : (X.toList != s.toList) = false := by unfold bne; rw [hx1]; rfl
                  rw [hx1] at Hok
                  go_wp2_with fail
                  refine (Hf.out w).mono ?_
                  rintro e w2 ⟨rfl, rfl⟩
                  go_wp2_with fail
                  refine (Hp.out w).mono ?_
                  rintro e w2 ⟨rfl, hb2⟩
                  go_wp2_with fail
                  go_ret2
                  exact ⟨_, by rw [← ByteArray.toList_eq, Hok.out]; rfl, fun h => (Hpv.out h).symm, hb2⟩
            · have hiP : i < P := by omega
              have hI0 : 0 ≤ I := by have := HI.out.1; omega
              have hI1 : I < (P : Int) := by have := HI.out.1; omega
              have hIn : I.toNat = i := by have := HI.out.1; omega
              obtain ⟨c, hc1, hc2⟩ := hget.out i hiP (by rw [hTs]; exact hiP)
              have Hc1 := Lib.hid hc1
              have Hi := Lib.hid hi; have Hm := Lib.hid hm
              have hNI2 : NI < 10000000000000000 := by
                have h1 := HI.out.2.1
                have h2 := HI.out.2.2.2
                have h3 : 10 ^ i ≤ 10 ^ 16 := Nat.pow_le_pow_right (by decide) (by have := HP.out; omega)
                omega
              clear hc1 hi hm hNI1
              by_cases hlo : (c.toNat : Int) < 48
              · have hno := Hno.out c (List.mem_of_getElem? Hc1.out) (by unfold isDig; omega)
                have HN := Lib.hid hno; clear hno
                go_wp2_with fail
                go_ret2
                exact ⟨0, by rw [HN.out]; rfl, fun h => absurd h (by rw [HN.out]; decide), Below.refl _ _⟩
              by_cases hhi : 57 < (c.toNat : Int)
              · have hno := Hno.out c (List.mem_of_getElem? Hc1.out) (by unfold isDig; omega)
                have HN := Lib.hid hno; clear hno
                go_wp2_with fail
                go_ret2
                exact ⟨0, by rw [HN.out]; rfl, fun h => absurd h (by rw [HN.out]; decide), Below.refl _ _⟩
              have hdig : Lib.digitVal c = some (c.toNat - 48) := by unfold Lib.digitVal; rw [if_pos ⟨by omega, by omega⟩]
              have HD := Lib.hid (HI.out.next Hc1.out hdig (by omega) (show 10 * NI + ((c.toNat : Int) - 48) = 10 * NI + ((c.toNat : Int) - 48) from rfl) (by omega))
              have hlo2 : 48 ≤ (c.toNat : Int) := by omega
              have hhi2 : (c.toNat : Int) ≤ 57 := by omega
              clear hdig hlo hhi
              go_wp2_with fail
              go_roundg (P - (i + 1))
              case measure => have := Hi.out; have := Hm.out; omega
              case rel => exact ⟨i + 1, _, I + 1, _, by have := Hi.out; have := Hm.out; omega, HD, by go_num, by go_num, rfl⟩
    · have Hno := Lib.hid (Hsh.out (.inr (.inr (by rw [Hlast.out]; exact fun e => h46 (Option.some.inj e)))))
      have hb46 : ((b.toNat : Int) != 46) = true := by
        rw [bne_iff_ne]
        intro e
        exact h46 (UInt8.toNat_inj.1 (by simp; omega))
      have HM := Lib.hid hM
      clear h46 h2 h18 hM
      rcases hk5 with ⟨hk5, hk6, hk7⟩ | hk5
      all_goals
        go_enter Tryz.func27, Tryz.ntmps27
        go_wp2_with fail
        go_ret2
        exact ⟨0, by rw [Hno.out]; rfl, fun h => absurd h (by rw [Hno.out]; decide), Below.refl _ _⟩
end Go.Proofs.YtacafhmagonngaaGreatDoor
