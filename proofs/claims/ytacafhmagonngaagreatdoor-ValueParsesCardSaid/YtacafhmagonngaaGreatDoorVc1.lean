/- The texts of values read: the walks of value.candidate, Parse. -/
import Derived.Test.YtacafhmagonngaaGreatDoorVc0
set_option linter.unusedVariables false
set_option linter.unusedSimpArgs false
namespace Go.Proofs.YtacafhmagonngaaGreatDoor
open Go.RowKit

theorem candVal_eq (l : List UInt8) : candVal l = if l = tFalse then ⟨2, 0, ⟨#[]⟩, 0⟩ else if l = tTrue then ⟨2, 1, ⟨#[]⟩, 0⟩ else if Lib.hasPrefix l [120] then ⟨3, 0, ⟨(unhexL (Lib.trimPrefix l [120])).toArray⟩, 0⟩
  else if parseOk l then ⟨4, 0, ⟨#[]⟩, parseV l⟩ else match atoiO l with
    | some v => ⟨1, v, ⟨#[]⟩, 0⟩
    | none => zeroVal := rfl
set_option maxHeartbeats 8000000 in
set_option maxRecDepth 100000 in
theorem candV_any (w : World) (hl : Laid w) (s : ByteArray) (hs : s.size ≤ 100000) :
    Calls Tryz.prog 26 #[.string s] w fun e w' => e = .returned (candVal s.data.toList).v ∧ Below w.heap.size w w' := by
  have hc := candVal_eq s.data.toList
  have hat := At.new w 0 0 ⟨#[]⟩ 0 26
  have hbw : Below w.heap.size w (w.alloc (.cells #[.int .i64 0, .int .i64 0, .string ⟨#[]⟩, .int .u64 0] 26)) := (Below.refl _ _).alloc (Nat.le_refl _) _
  have Hl := Lib.hid hl; have Hat := Lib.hid hat; have Hbw := Lib.hid hbw
  clear hl hat hbw
  by_cases k1 : s.data.toList = tFalse
  · rw [if_pos k1] at hc
    have Hc := Lib.hid (show (candVal s.data.toList).v = _ from congrArg Val.v hc)
    simp only [Val.v] at Hc ⊢
    generalize candVal s.data.toList = C at *
    obtain rfl := bytes_eq k1
    clear hc hs 
    go_enter Tryz.func26, Tryz.ntmps26
    go_upto_region 1 with fail
    generalize (w.alloc _) = W0 at Hat Hbw ⊢
    have at1 := Hat.out
    have z0 := at1.z 0; have z1 := at1.z 1; have z2 := at1.z 2; have z3 := at1.z 3
    obtain ⟨d0, d1, d2, d3, -, -⟩ := at1
    go_wp2_with fail
    exact bodyPost_ret (v := .agg #[.int .i64 2, .int .i64 0, .string ⟨#[]⟩, .int .u64 0]) (by simp [results, Tryz.results26, go_sem, d0, d1, d2, d3]) rfl ⟨by rw [Hc.out], ((((Hbw.out).setCell (Nat.le_refl _) _).setCell (Nat.le_refl _) _).setCell (Nat.le_refl _) _).setCell (Nat.le_refl _) _⟩
  rw [if_neg k1] at hc
  have b1 := bytes_ne k1
  by_cases k2 : s.data.toList = tTrue
  · rw [if_pos k2] at hc
    have Hc := Lib.hid (show (candVal s.data.toList).v = _ from congrArg Val.v hc)
    simp only [Val.v] at Hc ⊢
    generalize candVal s.data.toList = C at *
    obtain rfl := bytes_eq k2
    clear hc hs k1 b1
    go_enter Tryz.func26, Tryz.ntmps26
    go_upto_region 1 with fail
    generalize (w.alloc _) = W0 at Hat Hbw ⊢
    have at1 := Hat.out
    have z0 := at1.z 0; have z1 := at1.z 1; have z2 := at1.z 2; have z3 := at1.z 3
    obtain ⟨d0, d1, d2, d3, -, -⟩ := at1
    go_wp2_with fail
    exact bodyPost_ret (v := .agg #[.int .i64 2, .int .i64 1, .string ⟨#[]⟩, .int .u64 0]) (by simp [results, Tryz.results26, go_sem, d0, d1, d2, d3]) rfl ⟨by rw [Hc.out], ((((Hbw.out).setCell (Nat.le_refl _) _).setCell (Nat.le_refl _) _).setCell (Nat.le_refl _) _).setCell (Nat.le_refl _) _⟩
  rw [if_neg k2] at hc
  have b2 := bytes_ne k2
  have hcp := Tryz.strings_CutPrefix s ⟨#[120]⟩
  have Hcp : Hid (∀ W : World, Calls Tryz.prog 55 #[.string s, .string ⟨#[120]⟩] W fun e w' => e = .returned (.tuple #[.string ⟨(Lib.trimPrefix s.data.toList [120]).toArray⟩, .bool (Lib.hasPrefix s.data.toList [120])]) ∧ w' = W) := Lib.hid fun W => hcp W
  clear hcp
  cases hp : Lib.hasPrefix s.data.toList [120] with
  | true =>
    rw [if_pos hp] at hc
    rw [hp] at Hcp
    have hsz : (Lib.trimPrefix s.data.toList [120]).length ≤ 100000 := by
      have hl := Lib.size_eq s
      unfold Lib.trimPrefix
      rw [if_pos hp, List.length_drop]
      omega
    have Hu : Hid (∀ W : World, Calls Tryz.prog 56 #[.string ⟨(Lib.trimPrefix s.data.toList [120]).toArray⟩] W fun e w' => e = .returned (.string ⟨(unhexL (Lib.trimPrefix s.data.toList [120])).toArray⟩) ∧ Below W.heap.size W w') := Lib.hid fun W => unhex_any W ⟨(Lib.trimPrefix s.data.toList [120]).toArray⟩ (by simpa [ByteArray.size] using hsz)
    have Hc := Lib.hid (show (candVal s.data.toList).v = _ from congrArg Val.v hc)
    simp only [Val.v] at Hc ⊢
    generalize candVal s.data.toList = C at *
    generalize (⟨(unhexL (Lib.trimPrefix s.data.toList [120])).toArray⟩ : ByteArray) = U at *
    generalize (⟨(Lib.trimPrefix s.data.toList [120]).toArray⟩ : ByteArray) = T at *
    clear hc hs k1 k2 hp hsz
    go_enter Tryz.func26, Tryz.ntmps26
    go_upto_region 1 with fail
    generalize (w.alloc _) = W0 at Hat Hbw ⊢
    go_wp2_with fail
    refine (Hcp.out W0).mono ?_
    rintro e w1 ⟨rfl, rfl⟩
    go_wp2_with fail
    refine (Hu.out w1).mono ?_
    rintro e w2 ⟨rfl, hb⟩
    have Hb2 := Lib.hid (Hbw.out.trans (hb.mono Hbw.out.size))
    have at1 := Hat.out.below hb Hat.out.lt
    have z0 := at1.z 0; have z1 := at1.z 1; have z2 := at1.z 2; have z3 := at1.z 3
    obtain ⟨d0, d1, d2, d3, -, -⟩ := at1
    go_wp2_with fail
    exact bodyPost_ret (v := .agg #[.int .i64 3, .int .i64 0, .string U, .int .u64 0]) (by simp [results, Tryz.results26, go_sem, d0, d1, d2, d3]) rfl ⟨by rw [Hc.out], ((((Hb2.out).setCell (Nat.le_refl _) _).setCell (Nat.le_refl _) _).setCell (Nat.le_refl _) _).setCell (Nat.le_refl _) _⟩
  | false =>
    rw [if_neg (by simp [hp])] at hc
    rw [hp] at Hcp
    generalize (⟨(Lib.trimPrefix s.data.toList [120]).toArray⟩ : ByteArray) = T at *
    have Hp : Hid (∀ W : World, Laid W → Calls Tryz.prog 57 #[.string s] W fun e w' => e = .returned (.tuple #[.int .u64 (parseV s.data.toList), .bool (parseOk s.data.toList)]) ∧ Below W.heap.size W w') := Lib.hid fun W h => parse_any W h s (by omega)
    cases hok : parseOk s.data.toList with
    | true =>
      rw [if_pos hok] at hc
      rw [hok] at Hp
      have Hc := Lib.hid (show (candVal s.data.toList).v = _ from congrArg Val.v hc)
      simp only [Val.v] at Hc ⊢
      generalize candVal s.data.toList = C at *
      generalize parseV s.data.toList = F at *
      clear hc hs k1 k2 hp hok
      go_enter Tryz.func26, Tryz.ntmps26
      go_upto_region 1 with fail
      generalize (w.alloc _) = W0 at Hat Hbw ⊢
      go_wp2_with fail
      refine (Hcp.out W0).mono ?_
      rintro e w1 ⟨rfl, rfl⟩
      go_wp2_with fail
      refine (Hp.out w1 (Hl.out.below Hbw.out)).mono ?_
      rintro e w2 ⟨rfl, hb⟩
      have Hb2 := Lib.hid (Hbw.out.trans (hb.mono Hbw.out.size))
      have at1 := Hat.out.below hb Hat.out.lt
      have z0 := at1.z 0; have z1 := at1.z 1; have z2 := at1.z 2; have z3 := at1.z 3
      obtain ⟨d0, d1, d2, d3, -, -⟩ := at1
      go_wp2_with fail
      exact bodyPost_ret (v := .agg #[.int .i64 4, .int .i64 0, .string ⟨#[]⟩, .int .u64 F]) (by simp [results, Tryz.results26, go_sem, d0, d1, d2, d3]) rfl ⟨by rw [Hc.out], ((((Hb2.out).setCell (Nat.le_refl _) _).setCell (Nat.le_refl _) _).setCell (Nat.le_refl _) _).setCell (Nat.le_refl _) _⟩
    | false =>
      rw [if_neg (by simp [hok])] at hc
      rw [hok] at Hp
      generalize parseV s.data.toList = F at *
      cases ha : atoiO s.data.toList with
      | some v =>
        rw [ha] at hc
        have Ha : Hid (∀ W : World, Calls Tryz.prog 58 #[.string s] W fun e w' => e = .returned (.tuple #[.int .i64 v, .nilIface]) ∧ Below W.heap.size W w') := Lib.hid fun W => atoi_some W s (by omega) v (atoiO_some ha)
        have Hc := Lib.hid (show (candVal s.data.toList).v = _ from congrArg Val.v hc)
        simp only [Val.v] at Hc ⊢
        generalize candVal s.data.toList = C at *
        clear hc hs k1 k2 hp hok ha
        go_enter Tryz.func26, Tryz.ntmps26
        go_upto_region 1 with fail
        generalize (w.alloc _) = W0 at Hat Hbw ⊢
        go_wp2_with fail
        refine (Hcp.out W0).mono ?_
        rintro e w1 ⟨rfl, rfl⟩
        go_wp2_with fail
        refine (Hp.out w1 (Hl.out.below Hbw.out)).mono ?_
        rintro e w2 ⟨rfl, hb⟩
        have Hb2 := Lib.hid (Hbw.out.trans (hb.mono Hbw.out.size))
        have Hat2 := Lib.hid (Hat.out.below hb Hat.out.lt)
        clear hb
        go_wp2_with fail
        refine (Ha.out w2).mono ?_
        rintro e w3 ⟨rfl, hb⟩
        have Hb3 := Lib.hid (Hb2.out.trans (hb.mono Hb2.out.size))
        have at1 := Hat2.out.below hb Hat2.out.lt
        have z0 := at1.z 0; have z1 := at1.z 1; have z2 := at1.z 2; have z3 := at1.z 3
        obtain ⟨d0, d1, d2, d3, -, -⟩ := at1
        go_wp2_with fail
        exact bodyPost_ret (v := .agg #[.int .i64 1, .int .i64 v, .string ⟨#[]⟩, .int .u64 0]) (by simp [results, Tryz.results26, go_sem, d0, d1, d2, d3]) rfl ⟨by rw [Hc.out], ((((Hb3.out).setCell (Nat.le_refl _) _).setCell (Nat.le_refl _) _).setCell (Nat.le_refl _) _).setCell (Nat.le_refl _) _⟩
      | none =>
        rw [ha] at hc
        have Ha : Hid (∀ W : World, Laid W → Calls Tryz.prog 58 #[.string s] W fun e w' => ErrEnds W w' e) := Lib.hid fun W h => atoi_none W h s (by omega) (atoiO_none ha)
        have Hc := Lib.hid (show (candVal s.data.toList).v = _ from congrArg Val.v hc)
        simp only [Val.v, zeroVal] at Hc ⊢
        generalize candVal s.data.toList = C at *
        clear hc hs k1 k2 hp hok ha
        go_enter Tryz.func26, Tryz.ntmps26
        go_upto_region 1 with fail
        generalize (w.alloc _) = W0 at Hat Hbw ⊢
        go_wp2_with fail
        refine (Hcp.out W0).mono ?_
        rintro e w1 ⟨rfl, rfl⟩
        go_wp2_with fail
        refine (Hp.out w1 (Hl.out.below Hbw.out)).mono ?_
        rintro e w2 ⟨rfl, hb⟩
        have Hb2 := Lib.hid (Hbw.out.trans (hb.mono Hbw.out.size))
        have Hat2 := Lib.hid (Hat.out.below hb Hat.out.lt)
        clear hb
        go_wp2_with fail
        refine (Ha.out w2 (Hl.out.below Hb2.out)).mono ?_
        rintro e w3 ⟨n9, tp9, p9, rfl, hb⟩
        have Hb3 := Lib.hid (Hb2.out.trans (hb.mono Hb2.out.size))
        have at1 := Hat2.out.below hb Hat2.out.lt
        have z0 := at1.z 0; have z1 := at1.z 1; have z2 := at1.z 2; have z3 := at1.z 3
        obtain ⟨d0, d1, d2, d3, -, -⟩ := at1
        go_wp2_with fail
        exact bodyPost_ret (v := .agg #[.int .i64 0, .int .i64 0, .string ⟨#[]⟩, .int .u64 0]) (by simp [results, Tryz.results26, go_sem, d0, d1, d2, d3]) rfl ⟨by rw [Hc.out], ((((Hb3.out).setCell (Nat.le_refl _) _).setCell (Nat.le_refl _) _).setCell (Nat.le_refl _) _).setCell (Nat.le_refl _) _⟩
end Go.Proofs.YtacafhmagonngaaGreatDoor
