/- A number read in base 16: the walk of ParseUint. -/
import Derived.Test.YtacafhmagonngaaGreatDoorFd0
import Derived.Lib.ConvBytes
import Derived.Lib.AtoiErrMem
import Derived.Laws.Closers25b
import Derived.Laws.Closers25
set_option linter.unusedVariables false
set_option linter.unusedSimpArgs false
namespace Go.Proofs.YtacafhmagonngaaGreatDoor
open Go.RowKit

def lowOf (c : UInt8) : Int := bits .or .u8 (c.toNat : Int) 32
def hexd (c : UInt8) : Option Nat := if 48 ≤ c.toNat ∧ c.toNat ≤ 57 then some (c.toNat - 48) else if 97 ≤ lowOf c ∧ lowOf c ≤ 102 then some (lowOf c - 87).toNat else none
/-- the value and how it ended: 0 well, 1 out of range, 2 no number -/
def pu16 : Nat → List UInt8 → Nat × Nat
  | acc, [] => (acc, 0)
  | acc, c :: cs => match hexd c with
    | none => (0, 2)
    | some d => if 1152921504606846976 ≤ acc then (18446744073709551615, 1) else pu16 (acc * 16 + d) cs
def puErr (k : Nat) : Value := if k = 0 then .nilIface else if k = 1 then .iface 129 (.int .i64 1) else .iface 129 (.int .i64 2)
theorem hexd_lt {c : UInt8} {d : Nat} (h : hexd c = some d) : d < 16 := by
  unfold hexd at h
  split at h
  · cases h; omega
  · split at h
    · cases h; omega
    · cases h
theorem pu16_lt (cs : List UInt8) : ∀ acc, acc < 18446744073709551616 → (pu16 acc cs).1 < 18446744073709551616 := by
  induction cs with
  | nil => intro acc h; exact h
  | cons c cs ih =>
    intro acc h
    unfold pu16
    split
    · decide
    · rename_i d hd
      have := hexd_lt hd
      split
      · decide
      · exact ih _ (by omega)

theorem lower_at (c : UInt8) (l : Int) (h : lowOf c = l) (w : World) : Calls Tryz.prog 136 #[.int .u8 (c.toNat : Int)] w fun e w' => e = .returned (.int .u8 l) ∧ w = w' := by
  refine (Tryz.internal_strconv_lower (c.toNat : Int) w).mono ?_
  rintro e w' ⟨rfl, rfl⟩
  exact ⟨by rw [← h]; rfl, rfl⟩
theorem lower95 (w : World) : Calls Tryz.prog 136 #[.int .u8 95] w fun e w' => e = .returned (.int .u8 127) ∧ w = w' :=
  lower_at 95 127 (by decide) w
set_option maxHeartbeats 32000000 in
set_option maxRecDepth 100000 in
theorem parse16 (s : ByteArray) (hne : s.size ≠ 0) (hmax : s.size ≤ 9223372036854775806) (w : World) :
    Calls Tryz.prog 124 #[.string s, .int .i64 16, .int .i64 64] w fun e w' => e = .returned (.tuple #[.int .u64 ((pu16 0 s.data.toList).1 : Int), puErr (pu16 0 s.data.toList).2]) ∧ Below w.heap.size w w' := by
  have hemp : s.toList.isEmpty = false := by
    rw [← decide_eq_emptyBytes]
    exact decide_eq_false (fun h => hne (by rw [h]; rfl))
  have hcv := Lib.run_convert_string_bytes (P := Tryz.prog) w 9 39 5 s (u := .string) Tryz.underlying9 Tryz.underlying39 Tryz.underlying5
  have hB : ∀ j, j < s.size → (Lib.bytesWorld w 5 s).cell? ⟨w.heap.size, j, none⟩ = some (.int .u8 (s.data.toList.getD j 0).toNat) := fun j hj => Lib.bytesWorld_cell w 5 s j hj
  have hbel : Below w.heap.size w (Lib.bytesWorld w 5 s) := by
    exact Lib.bytesWorld_below w 5 s
  generalize Lib.bytesWorld w 5 s = W1 at hcv hB hbel
  obtain ⟨bs, hL⟩ : ∃ bs, bs = s.data.toList := ⟨_, rfl⟩
  have hLn : bs.length = s.size := by rw [hL, Lib.size_eq]
  rw [← hL] at hB ⊢
  clear hL
  have hmv : IntKind.u64.wrap (IntKind.u64.wrap 18446744073709551616 - 1) = 18446744073709551615 := by
    rw [IntKind.wrap_u64, IntKind.wrap_u64]
    decide
  have HB := Lib.hid hB; clear hB
  have Hbel := Lib.hid hbel; clear hbel
  have HLn := Lib.hid hLn; clear hLn
  generalize hN : s.size = N at hne hmax HB HLn hcv
  have HN := Lib.hid hN
  go_enter Tryz.func124, Tryz.ntmps124
  go_wp2_with fail
  clear hcv hN
  go_loopg [12, 13, 101] N (fun m vu vn vi wr => ∃ (k acc : Nat) (a : Int), vu = .bool false ∧ vn = .int .u64 a ∧ vi = .int .i64 (k : Int) ∧ m = N - k ∧ k ≤ N ∧ Hid (a = (acc : Int) ∧ acc < 18446744073709551616 ∧ pu16 0 bs = pu16 acc (bs.drop k)) ∧ wr = W1)
  case atStart => exact ⟨0, 0, 0, rfl, rfl, rfl, by omega, by omega, ⟨rfl, by omega, rfl⟩, rfl⟩
  case round =>
    obtain ⟨k, acc, a, rfl, rfl, rfl, hm, hk, hh, rfl⟩ := hrel
    have Hm := Lib.hid hm; clear hm
    obtain ⟨ha, hacc, hdec⟩ := hh.out
    clear hh
    have a0 : 0 ≤ a := by omega
    have a1 : a < 18446744073709551616 := by omega
    by_cases hkn : k < N
    · have hc := HB.out k hkn
      have hlen : k < bs.length := by have := HLn.out; omega
      have hdrop : bs.drop k = bs[k] :: bs.drop (k + 1) := List.drop_eq_getElem_cons hlen
      have hget : bs.getD k 0 = bs[k] := by simp [List.getD, List.getElem?_eq_getElem hlen]
      rw [hdrop] at hdec
      rw [hget] at hc
      generalize bs[k] = c at hc hdec
      have hc256 : c.toNat < 256 := c.toNat_lt
      clear hdrop hget
      have hstep : pu16 acc (c :: bs.drop (k + 1)) = match hexd c with | none => (0, 2) | some d => if 1152921504606846976 ≤ acc then (18446744073709551615, 1) else pu16 (acc * 16 + d) (bs.drop (k + 1)) := rfl
      by_cases hdig : 48 ≤ c.toNat ∧ c.toNat ≤ 57
      · have hx : hexd c = some (c.toNat - 48) := by unfold hexd; rw [if_pos hdig]
        rw [hx] at hstep
        simp only at hstep
        obtain ⟨hd0, hd1⟩ := hdig
        by_cases hcut : 1152921504606846976 ≤ acc
        · have icut : 1152921504606846976 ≤ a := by omega
          rw [if_pos hcut] at hstep
          rw [hstep] at hdec
          have Hd := Lib.hid hdec
          clear hdec hstep hx ha hacc hcut
          go_wp2_with fail
          go_ret2
          exact ⟨by rw [Hd.out]; rfl, Hbel.out⟩
        · have icut : a < 1152921504606846976 := by omega
          rw [if_neg hcut] at hstep
          rw [hstep] at hdec
          have HH : Hid (a * 16 + ((c.toNat : Int) - 48) = ((acc * 16 + (c.toNat - 48) : Nat) : Int) ∧ acc * 16 + (c.toNat - 48) < 18446744073709551616 ∧ pu16 0 bs = pu16 (acc * 16 + (c.toNat - 48)) (bs.drop (k + 1))) := ⟨by omega, by omega, hdec⟩
          clear hdec hstep hx ha hacc hcut
          go_wp2_with fail
          go_roundg (N - (k + 1))
          case measure => have := Hm.out; omega
          case rel => exact ⟨k + 1, _, _, rfl, by go_num, by go_num, rfl, by omega, HH, rfl⟩
      · have hl0 : 0 ≤ lowOf c := bits_lo_u8 .or (c.toNat : Int) 32
        have hl1 : lowOf c ≤ 255 := bits_hi_u8 .or (c.toNat : Int) 32
        have hxd : hexd c = if 97 ≤ lowOf c ∧ lowOf c ≤ 102 then some (lowOf c - 87).toNat else none := by unfold hexd; rw [if_neg hdig]
        have hnd : ((c.toNat : Int) < 48) ∨ (57 < (c.toNat : Int)) := by omega
        generalize hl : lowOf c = l at hl0 hl1 hxd
        have Hl := Lib.hid hl; clear hl
        have Hxd := Lib.hid hxd; clear hxd
        have Hnd := Lib.hid hnd; clear hnd hdig
        by_cases h95 : c.toNat = 95
        · have hc95 : c = 95 := UInt8.toNat_inj.1 h95
          subst hc95
          have hx : hexd 95 = none := by decide
          rw [hx] at hstep
          simp only at hstep
          rw [hstep] at hdec
          have Hd := Lib.hid hdec
          clear hdec hstep hx ha hacc h95
          go_wp2_with fail
          refine (lower95 _).mono ?_
          rintro e w' ⟨rfl, rfl⟩
          go_wp2_with fail
          refine (lower95 _).mono ?_
          rintro e w' ⟨rfl, rfl⟩
          go_wp2_with fail
          go_ret2
          exact ⟨by rw [Hd.out]; rfl, Hbel.out⟩
        · have hn95 : ((c.toNat : Int) == 95) = false := by rw [beq_eq_false_iff_ne]; omega
          clear h95
          rcases Hnd.out with hnd | hnd
          all_goals (
            by_cases hA : 97 ≤ l
            · by_cases hB : l ≤ 102
              · have hx : hexd c = some (l - 87).toNat := by rw [Hxd.out, if_pos ⟨hA, hB⟩]
                rw [hx] at hstep
                simp only at hstep
                by_cases hcut : 1152921504606846976 ≤ acc
                · have icut : 1152921504606846976 ≤ a := by omega
                  rw [if_pos hcut] at hstep
                  rw [hstep] at hdec
                  have Hd := Lib.hid hdec
                  clear hdec hstep hx ha hacc hcut
                  go_wp2_with fail
                  refine (lower_at c l Hl.out _).mono ?_
                  rintro e w' ⟨rfl, rfl⟩
                  go_wp2_with fail
                  refine (lower_at c l Hl.out _).mono ?_
                  rintro e w' ⟨rfl, rfl⟩
                  go_wp2_with fail
                  refine (lower_at c l Hl.out _).mono ?_
                  rintro e w' ⟨rfl, rfl⟩
                  go_wp2_with fail
                  go_ret2
                  exact ⟨by rw [Hd.out]; rfl, Hbel.out⟩
                · have icut : a < 1152921504606846976 := by omega
                  rw [if_neg hcut] at hstep
                  rw [hstep] at hdec
                  have HH : Hid (a * 16 + (l - 97 + 10) = ((acc * 16 + (l - 87).toNat : Nat) : Int) ∧ acc * 16 + (l - 87).toNat < 18446744073709551616 ∧ pu16 0 bs = pu16 (acc * 16 + (l - 87).toNat) (bs.drop (k + 1))) := ⟨by omega, by omega, hdec⟩
                  clear hdec hstep hx ha hacc hcut
                  go_wp2_with fail
                  refine (lower_at c l Hl.out _).mono ?_
                  rintro e w' ⟨rfl, rfl⟩
                  go_wp2_with fail
                  refine (lower_at c l Hl.out _).mono ?_
                  rintro e w' ⟨rfl, rfl⟩
                  go_wp2_with fail
                  refine (lower_at c l Hl.out _).mono ?_
                  rintro e w' ⟨rfl, rfl⟩
                  go_wp2_with fail
                  go_roundg (N - (k + 1))
                  case measure => have := Hm.out; omega
                  case rel => exact ⟨k + 1, _, _, rfl, by go_num, by go_num, rfl, by omega, HH, rfl⟩
              · have hx : hexd c = none := by rw [Hxd.out, if_neg (by omega)]
                rw [hx] at hstep
                simp only at hstep
                rw [hstep] at hdec
                have Hd := Lib.hid hdec
                clear hdec hstep hx ha hacc
                by_cases hC : l ≤ 122
                · go_wp2_with fail
                  refine (lower_at c l Hl.out _).mono ?_
                  rintro e w' ⟨rfl, rfl⟩
                  go_wp2_with fail
                  refine (lower_at c l Hl.out _).mono ?_
                  rintro e w' ⟨rfl, rfl⟩
                  go_wp2_with fail
                  refine (lower_at c l Hl.out _).mono ?_
                  rintro e w' ⟨rfl, rfl⟩
                  go_wp2_with fail
                  go_ret2
                  exact ⟨by rw [Hd.out]; rfl, Hbel.out⟩
                · go_wp2_with fail
                  refine (lower_at c l Hl.out _).mono ?_
                  rintro e w' ⟨rfl, rfl⟩
                  go_wp2_with fail
                  refine (lower_at c l Hl.out _).mono ?_
                  rintro e w' ⟨rfl, rfl⟩
                  go_wp2_with fail
                  go_ret2
                  exact ⟨by rw [Hd.out]; rfl, Hbel.out⟩
            · have hx : hexd c = none := by rw [Hxd.out, if_neg (by omega)]
              rw [hx] at hstep
              simp only at hstep
              rw [hstep] at hdec
              have Hd := Lib.hid hdec
              clear hdec hstep hx ha hacc
              go_wp2_with fail
              refine (lower_at c l Hl.out _).mono ?_
              rintro e w' ⟨rfl, rfl⟩
              go_wp2_with fail
              go_ret2
              exact ⟨by rw [Hd.out]; rfl, Hbel.out⟩)
    · have hkk : k = N := by omega
      have hF : pu16 acc (bs.drop k) = (acc, 0) := by rw [List.drop_eq_nil_of_le (by have := HLn.out; omega)]; rfl
      rw [hF] at hdec
      have Hd := Lib.hid hdec
      have Ha := Lib.hid ha
      clear hdec hF ha hacc
      go_wp2_with fail
      go_ret2
      exact ⟨by rw [Hd.out, Ha.out]; rfl, Hbel.out⟩
end Go.Proofs.YtacafhmagonngaaGreatDoor
