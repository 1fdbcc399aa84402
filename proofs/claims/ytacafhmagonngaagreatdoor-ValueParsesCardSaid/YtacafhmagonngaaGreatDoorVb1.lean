/- Bytes in hexadecimal digits, and back: the walks of value.hex, unhex. -/
import Derived.Test.YtacafhmagonngaaGreatDoorVb0
set_option linter.unusedVariables false
set_option linter.unusedSimpArgs false
namespace Go.Proofs.YtacafhmagonngaaGreatDoor
open Go.RowKit

/-- two digits a byte -/
def hexL : List UInt8 → List UInt8
  | [] => []
  | c :: cs => dig (c.toNat / 16) :: dig (c.toNat % 16) :: hexL cs
theorem hexL_append (a b : List UInt8) : hexL (a ++ b) = hexL a ++ hexL b := by
  induction a with
  | nil => rfl
  | cons c cs ih => show _ :: _ :: hexL (cs ++ b) = _; rw [ih]; rfl
theorem hexL_length (a : List UInt8) : (hexL a).length = 2 * a.length := by
  induction a with
  | nil => rfl
  | cons c cs ih => show (hexL cs).length + 1 + 1 = 2 * (cs.length + 1); omega
theorem take_snoc {l : List UInt8} {j : Nat} {c : UInt8} (h : l[j]? = some c) : l.take (j + 1) = l.take j ++ [c] := by
  rw [List.take_add_one, h]; rfl
theorem byte_at (s : ByteArray) (j : Nat) (h : j < s.size) : s.data.toList[j]? = some s[j] := by
  rw [List.getElem?_eq_getElem (by rw [← Lib.size_eq]; exact h)]
  rfl
theorem and15b (c : UInt8) : bits BinOp.and .u8 (c.toNat : Int) 15 = ((c.toNat % 16 : Nat) : Int) := by
  have h := (bits_nat .u8 8 (by decide) wraps_u8 c.toNat 15 c.toNat_lt (by decide)).1
  rw [show (15 : Nat) = 2 ^ 4 - 1 from by decide, Nat.and_two_pow_sub_one_eq_mod] at h
  exact h
set_option maxHeartbeats 8000000 in
set_option maxRecDepth 100000 in
theorem hex_any (w : World) (s : ByteArray) (hs : s.size ≤ 100000) :
    Calls Tryz.prog 33 #[.string s] w fun e w' => e = .returned (.string ⟨(hexL s.data.toList).toArray⟩) ∧ Below w.heap.size w w' := by
  obtain ⟨N, hN⟩ : ∃ N, s.size = N := ⟨_, rfl⟩
  obtain ⟨l, hl⟩ : ∃ l, l = s.data.toList := ⟨_, rfl⟩
  have hlN : l.length = N := by rw [hl, ← hN, Lib.size_eq]
  rw [← hl]
  have Hl := Lib.hid hl; have HlN := Lib.hid hlN
  clear hl hlN
  have hN2 : N ≤ 100000 := by omega
  have HN2 := Lib.hid hN2
  clear hs hN2
  have hNi : (N : Int) ≤ 100000 := by have := HN2.out; omega
  go_enter Tryz.func33, Tryz.ntmps33
  go_wp2_with fail
  go_loopg [3, 7] N (fun mm v i wr => ∃ (j : Nat) (I : Int), j + mm = N ∧ Hid (I = (j : Int)) ∧ i = .int .i64 I ∧ Buf w wr v (hexL (l.take j)))
  case atStart => exact ⟨0, 0, by omega, Lib.hid rfl, rfl, Buf.start w⟩
  case round =>
    obtain ⟨j, I, hj, HI, rfl, hb⟩ := hrel
    have hI0 : 0 ≤ I := by have := HI.out; omega
    have Hb := Lib.hid hb; clear hb
    obtain ⟨g, cap, hv⟩ := Hb.out.form
    by_cases hm : gk = 0
    · have hjN : j = N := by omega
      have hI1 : ¬ I < (N : Int) := by have := HI.out; omega
      have ht := Hb.out.text
      have hall : hexL (l.take j) = hexL l := by rw [List.take_of_length_le (by rw [HlN.out, hjN]; exact Nat.le_refl _)]
      rw [hall] at ht
      clear hm hj hjN hall hv
      go_wp2_with fail
      go_ret
      exact ⟨rfl, Hb.out.below⟩
    · have hjN : j < N := by omega
      have hI1 : I < (N : Int) := by have := HI.out; omega
      have hIj : I.toNat = j := by have := HI.out; omega
      have hjs : j < s.size := by omega
      obtain ⟨c, hc⟩ : ∃ c, s[j] = c := ⟨_, rfl⟩
      have hlc : l[j]? = some c := by rw [Hl.out, byte_at s j hjs, hc]
      obtain ⟨hi, hhi⟩ : ∃ hi, c.toNat / 16 = hi := ⟨_, rfl⟩
      obtain ⟨lo, hlo⟩ : ∃ lo, c.toNat % 16 = lo := ⟨_, rfl⟩
      have hc256 := c.toNat_lt
      have hhi16 : hi < 16 := by omega
      have hlo16 : lo < 16 := by omega
      have hhs : hi < digits16.size := by rw [digits16_size]; exact hhi16
      have hls : lo < digits16.size := by rw [digits16_size]; exact hlo16
      have a1 := digit16_at hi hhi16 hhs
      have a2 := digit16_at lo hlo16 hls
      have hand := and15b c
      rw [hlo] at hand
      have hdiv : (c.toNat : Int) / 16 = (hi : Int) := by omega
      have hi3 : (hi : Int) < 16 := by omega
      have lo3 : (lo : Int) < 16 := by omega
      have hstep : hexL (l.take j) ++ [dig hi, dig lo] = hexL (l.take (j + 1)) := by
        rw [take_snoc hlc, hexL_append, ← hhi, ← hlo]; rfl
      have Hstep := Lib.hid hstep
      have hlen : (hexL (l.take j)).length + 2 ≤ 1000000 := by
        have := HN2.out
        rw [hexL_length, List.length_take]; omega
      have Hlen := Lib.hid hlen
      have Hj := Lib.hid hj; have Hm := Lib.hid hm
      clear hstep hlen hj hm hlc hhi hlo hv
      go_wp2_with fail
      go_region_law (refine step_bytes rfl (.tmp 10) (.tmp 21) rfl w wr _ _ [dig hi, dig lo] wr.heap.size 2 Hb.out rfl (by decide) Hlen.out (((Below.refl _ _).drew).alloc (Nat.le_refl _) _) (alloc_cells wr.drew [dig hi, dig lo] _ _ rfl) rfl rfl ?_; intro g2 cap2 w1 hb1; have Hb1 := Lib.hid hb1; clear hb1)
      all_goals
        go_wp2_with fail
        go_roundg (N - (j + 1))
        case measure => have := Hj.out; have := Hm.out; omega
        case rel => exact ⟨j + 1, I + 1, by have := Hj.out; have := Hm.out; omega, Lib.hid (by have := HI.out; omega), by go_num, by rw [← Hstep.out]; exact Hb1.out⟩

/-- the value of a digit, or -1 -/
def nibV (c : UInt8) : Int := Lib.indexByte [48, 49, 50, 51, 52, 53, 54, 55, 56, 57, 97, 98, 99, 100, 101, 102] c
/-- what pairs of digits say, up to the first that is none -/
def unhexL : List UInt8 → List UInt8
  | a :: b :: r => if nibV a < 0 ∨ nibV b < 0 then [] else UInt8.ofNat ((nibV a).toNat * 16 + (nibV b).toNat) :: unhexL r
  | _ => []
theorem index_lt (l : List UInt8) (c : UInt8) : Lib.indexByte l c < l.length := by
  induction l with
  | nil => simp [Lib.indexByte]
  | cons b l ih =>
    unfold Lib.indexByte
    simp only [List.length_cons]
    split
    · omega
    · split
      · omega
      · omega
theorem nibV_range (c : UInt8) : -1 ≤ nibV c ∧ nibV c < 16 := ⟨Lib.indexByte_ge _ _, by have := index_lt [48, 49, 50, 51, 52, 53, 54, 55, 56, 57, 97, 98, 99, 100, 101, 102] c; simpa [nibV] using this⟩
theorem or16 (a b : Nat) (ha : a < 16) (hb : b < 16) : bits BinOp.or .i64 ((a : Int) * 16) (b : Int) = ((a * 16 + b : Nat) : Int) := by
  have h := (bits_nat .i64 62 (by decide) (fun n h0 h1 => by rw [IntKind.wrap_i64]; omega) (a * 16) b (by omega) (by omega)).2
  have h2 : a * 16 ||| b = a * 16 + b := by
    have := Nat.shiftLeft_add_eq_or_of_lt (i := 4) (b := b) (by omega) a
    rw [Nat.shiftLeft_eq] at this
    exact this.symm
  rw [h2] at h
  rw [← h]
  congr 1
set_option maxHeartbeats 8000000 in
set_option maxRecDepth 100000 in
theorem unhex_any (w : World) (s : ByteArray) (hs : s.size ≤ 100000) :
    Calls Tryz.prog 56 #[.string s] w fun e w' => e = .returned (.string ⟨(unhexL s.data.toList).toArray⟩) ∧ Below w.heap.size w w' := by
  obtain ⟨N, hN⟩ : ∃ N, s.size = N := ⟨_, rfl⟩
  obtain ⟨l, hl⟩ : ∃ l, l = s.data.toList := ⟨_, rfl⟩
  have hlN : l.length = N := by rw [hl, ← hN, Lib.size_eq]
  rw [← hl]
  have Hl := Lib.hid hl; have HlN := Lib.hid hlN
  clear hl hlN
  have hN2 : N ≤ 100000 := by omega
  have HN2 := Lib.hid hN2
  clear hs hN2
  have hNi : (N : Int) ≤ 100000 := by have := HN2.out; omega
  go_enter Tryz.func56, Tryz.ntmps56
  go_wp2_with fail
  go_loopg [3, 4] (N + 1) (fun mm v i wr => ∃ (j : Nat) (I : Int) (acc : List UInt8), j + mm = N + 1 ∧ Hid (I = (j : Int) ∧ acc ++ unhexL (l.drop j) = unhexL l ∧ acc.length ≤ j) ∧ i = .int .i64 I ∧ Buf w wr v acc)
  case atStart => exact ⟨0, 0, [], by omega, Lib.hid ⟨rfl, rfl, Nat.le_refl _⟩, rfl, Buf.start w⟩
  case round =>
    obtain ⟨j, I, acc, hj, HI, rfl, hb⟩ := hrel
    have hI0 : 0 ≤ I := by have := HI.out.1; omega
    have hI9 : I ≤ 100001 := by have := HI.out.1; have := HN2.out; omega
    have Hb := Lib.hid hb; clear hb
    by_cases hm : N ≤ j + 1
    · have hI1 : ¬ I + 1 < (N : Int) := by have := HI.out.1; omega
      have hz : unhexL (l.drop j) = [] := by
        have hlen : (l.drop j).length ≤ 1 := by rw [List.length_drop, HlN.out]; omega
        match l.drop j, hlen with
        | [], _ => rfl
        | [_], _ => rfl
      have hall : acc = unhexL l := by rw [← HI.out.2.1, hz, List.append_nil]
      have ht := Hb.out.text
      rw [hall] at ht
      clear hm hj hz hall
      go_wp2_with fail
      go_ret
      exact ⟨rfl, Hb.out.below⟩
    · have hI1 : I + 1 < (N : Int) := by have := HI.out.1; omega
      have hIa : I < (N : Int) := by omega
      have hIj : I.toNat = j := by have := HI.out.1; omega
      have hIj2 : (I + 1).toNat = j + 1 := by have := HI.out.1; omega
      have hjs : j < s.size := by omega
      have hjs2 : j + 1 < s.size := by omega
      obtain ⟨a, ha⟩ : ∃ a, s[j] = a := ⟨_, rfl⟩
      obtain ⟨b, hb⟩ : ∃ b, s[j + 1] = b := ⟨_, rfl⟩
      have hla : l[j]? = some a := by rw [Hl.out, byte_at s j hjs, ha]
      have hlb : l[j + 1]? = some b := by rw [Hl.out, byte_at s (j + 1) hjs2, hb]
      have hdrop : l.drop j = a :: b :: l.drop (j + 2) := by
        have l1 : j < l.length := by rw [HlN.out]; omega
        have l2 : j + 1 < l.length := by rw [HlN.out]; omega
        rw [List.getElem?_eq_getElem l1] at hla
        rw [List.getElem?_eq_getElem l2] at hlb
        rw [List.drop_eq_getElem_cons l1, List.drop_eq_getElem_cons l2, Option.some.inj hla, Option.some.inj hlb]
      have hun : unhexL (l.drop j) = if nibV a < 0 ∨ nibV b < 0 then [] else UInt8.ofNat ((nibV a).toNat * 16 + (nibV b).toNat) :: unhexL (l.drop (j + 2)) := by rw [hdrop]; rfl
      have Hun := Lib.hid hun
      have ra := nibV_range a
      have rb := nibV_range b
      have Na : Hid (∀ W : World, Calls Tryz.prog 81 #[.string ⟨#[48, 49, 50, 51, 52, 53, 54, 55, 56, 57, 97, 98, 99, 100, 101, 102]⟩, .int .u8 (a.toNat : Int)] W fun e w' => e = .returned (.int .i64 (nibV a)) ∧ w' = W) := Lib.hid fun W => by
        have := Tryz.strings_IndexByte ⟨#[48, 49, 50, 51, 52, 53, 54, 55, 56, 57, 97, 98, 99, 100, 101, 102]⟩ (a.toNat : Int) W
        rwa [show ((a.toNat : Int).toNat.toUInt8) = a from by rw [Int.toNat_natCast]; exact UInt8.ofNat_toNat] at this
      have Nb : Hid (∀ W : World, Calls Tryz.prog 81 #[.string ⟨#[48, 49, 50, 51, 52, 53, 54, 55, 56, 57, 97, 98, 99, 100, 101, 102]⟩, .int .u8 (b.toNat : Int)] W fun e w' => e = .returned (.int .i64 (nibV b)) ∧ w' = W) := Lib.hid fun W => by
        have := Tryz.strings_IndexByte ⟨#[48, 49, 50, 51, 52, 53, 54, 55, 56, 57, 97, 98, 99, 100, 101, 102]⟩ (b.toNat : Int) W
        rwa [show ((b.toNat : Int).toNat.toUInt8) = b from by rw [Int.toNat_natCast]; exact UInt8.ofNat_toNat] at this
      clear hun hdrop hla hlb
      generalize nibV a = x at *
      generalize nibV b = y at *
      have Hj := Lib.hid hj; have Hm := Lib.hid hm
      have hwr : IntKind.i64.wrap (I + 1) = I + 1 := by rw [IntKind.wrap_i64]; omega
      clear hj hm
      by_cases hneg : x < 0 ∨ y < 0
      · have hall : acc = unhexL l := by rw [← HI.out.2.1, Hun.out, if_pos hneg, List.append_nil]
        have ht : ∀ q, (convert 39 9 u3).run Tryz.prog (wr.drewN q) = .ok (.string ⟨(unhexL l).toArray⟩) (wr.drewN q) := by
          intro q
          have := (Hb.out.later (below_drewN (Below.refl _ _) q)).text
          rwa [hall] at this
        clear hall
        by_cases hx : x < 0
        · clear hneg
          go_wp2_with fail
          go_quiet ((first | (go_at_call_of 81 (Value.int .u8 (a.toNat : Int)); exact Calls.quiet_of_same (Na.out _)) | (go_at_call 81; exact Calls.quiet_of_same (Nb.out _)) | (go_at_call 81; exact Calls.quiet_of_same (Na.out _))))
          go_wp2_with fail
          go_ret
          exact ⟨rfl, below_drewN Hb.out.below nq⟩
        · have hx0 : 0 ≤ x := by omega
          have hy : y < 0 := by omega
          clear hneg
          go_wp2_with fail
          go_quiet ((first | (go_at_call_of 81 (Value.int .u8 (a.toNat : Int)); exact Calls.quiet_of_same (Na.out _)) | (go_at_call 81; exact Calls.quiet_of_same (Nb.out _)) | (go_at_call 81; exact Calls.quiet_of_same (Na.out _))))
          go_wp2_with fail
          go_ret
          exact ⟨rfl, below_drewN Hb.out.below nq⟩
      · have hx0 : 0 ≤ x := by omega
        have hy0 : 0 ≤ y := by omega
        have hun2 := Hun.out
        rw [if_neg hneg] at hun2
        have hst := HI.out.2.1
        rw [hun2] at hst
        obtain ⟨p, hp⟩ : ∃ p : Nat, x = p := ⟨x.toNat, by omega⟩
        obtain ⟨q, hq⟩ : ∃ q : Nat, y = q := ⟨y.toNat, by omega⟩
        have hor := or16 p q (by omega) (by omega)
        rw [← hp, ← hq] at hor
        obtain ⟨z, hz⟩ : ∃ z : UInt8, z = UInt8.ofNat (x.toNat * 16 + y.toNat) := ⟨_, rfl⟩
        have hzn : (z.toNat : Int) = ((p * 16 + q : Nat) : Int) := by
          rw [hz, UInt8.toNat_ofNat', hp, hq, Int.toNat_natCast, Int.toNat_natCast]
          omega
        rw [← hz] at hst
        rw [← hzn] at hor
        have hz0 : 0 ≤ (z.toNat : Int) := by omega
        have hz1 : (z.toNat : Int) < 256 := by have := z.toNat_lt; omega
        have hst2 : acc ++ [z] ++ unhexL (l.drop (j + 2)) = unhexL l := by rw [List.append_assoc]; exact hst
        have Hst := Lib.hid hst2
        have hal : acc.length + 1 ≤ 1000000 := by have := HI.out.2.2; have := HN2.out; omega
        have Hal := Lib.hid hal
        clear hst hst2 hal hun2 hp hq hz hzn hneg Hun
        have hx16 := ra.2
        have hy16 := rb.2
        generalize hZ : (z.toNat : Int) = Z at *
        have HZ := Lib.hid hZ
        clear hZ
        go_wp2_with fail
        go_quiet ((first | (go_at_call_of 81 (Value.int .u8 (a.toNat : Int)); exact Calls.quiet_of_same (Na.out _)) | (go_at_call 81; exact Calls.quiet_of_same (Nb.out _)) | (go_at_call 81; exact Calls.quiet_of_same (Na.out _))))
        go_wp2_with (at_builtin; refine wpList_bytes rfl (.tmp 29) (.tmp 35) rfl w wr _ _ [z] wr.heap.size 1 Hb.out rfl (by decide) Hal.out ((below_drewN (Below.refl _ _) nq).alloc (Nat.le_refl _) _) (alloc_cells (wr.drewN nq) [z] _ _ (by simp [encB, HZ.out])) rfl rfl ?_; intro g2 cap2 w1 hb1; have Hb1 := Lib.hid hb1; clear hb1)
        go_roundg (N - (j + 1))
        case measure => have := Hj.out; have := Hm.out; omega
        case rel => exact ⟨j + 2, I + 2, acc ++ [z], by have := Hj.out; have := Hm.out; omega, Lib.hid ⟨by have := HI.out.1; omega, Hst.out, by rw [List.length_append]; have := HI.out.2.2; simp; omega⟩, by go_num, Hb1.out⟩
end Go.Proofs.YtacafhmagonngaaGreatDoor
