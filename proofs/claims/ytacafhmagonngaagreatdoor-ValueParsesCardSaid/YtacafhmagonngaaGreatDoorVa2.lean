/- Values: the walks of cmp.Or, cmp.Compare of kinds. -/
import Derived.Test.YtacafhmagonngaaGreatDoorVa1
set_option linter.unusedVariables false
set_option linter.unusedSimpArgs false
namespace Go.Proofs.YtacafhmagonngaaGreatDoor
open Go.RowKit

/-- the first that is not nought -/
def orL : List Int → Int
  | [] => 0
  | c :: cs => if c = 0 then orL cs else c
set_option maxRecDepth 100000 in
theorem or_any (W : World) (B : Nat) (l : List Int) (N : Nat) (hN : l.length = N) (hN2 : N ≤ 100) (hc : ∀ t v, l[t]? = some v → W.cell? ⟨B, t, none⟩ = some (.int .i64 v)) :
    Calls Tryz.prog 37 #[.slice (some ⟨B, 0, none⟩) N N] W fun e w' => e = .returned (.int .i64 (orL l)) ∧ w' = W := by
  have Hc := Lib.hid hc; clear hc
  have HN := Lib.hid hN; clear hN
  go_enter Tryz.func37, Tryz.ntmps37
  go_wp2_with fail
  go_loopg [8] N (fun mm i wr => ∃ (t : Nat) (I : Int), t + mm = N ∧ Hid (I = (t : Int) ∧ orL l = orL (l.drop t)) ∧ i = .int .i64 I ∧ wr = W)
  case atStart => exact ⟨0, 0, by omega, Lib.hid ⟨rfl, rfl⟩, rfl, rfl⟩
  case round =>
    obtain ⟨t, I, ht, HI, rfl, hw⟩ := hrel
    have hI0 : 0 ≤ I := by have := HI.out.1; omega
    by_cases hm : gk = 0
    · have hI1 : ¬ I < (N : Int) := by have := HI.out.1; omega
      have hz : orL l = 0 := by
        rw [HI.out.2, List.drop_eq_nil_of_le (by rw [HN.out]; omega)]; rfl
      have Hz := Lib.hid hz
      clear hm ht hz
      subst hw
      go_wp2_with fail
      go_ret
      exact ⟨by rw [Hz.out]; rfl, rfl⟩
    · have hI1 : I < (N : Int) := by have := HI.out.1; omega
      have htl : t < l.length := by rw [HN.out]; omega
      have hcell := Hc.out t l[t] (List.getElem?_eq_getElem htl)
      have hIt : I.toNat = t := by have := HI.out.1; omega
      have hdr : orL l = if l[t] = 0 then orL (l.drop (t + 1)) else l[t] := by
        rw [HI.out.2, List.drop_eq_getElem_cons htl]; rfl
      generalize l[t] = c at *
      have Hdr := Lib.hid hdr
      have Ht := Lib.hid ht; have Hm := Lib.hid hm
      subst hw
      clear hdr ht hm htl
      by_cases h0 : c = 0
      · subst h0
        have Hd2 := Lib.hid (show orL l = orL (l.drop (t + 1)) from by rw [Hdr.out, if_pos rfl])
        clear Hdr
        go_wp2_with fail
        go_roundg (N - (t + 1))
        case measure => have := Ht.out; have := Hm.out; omega
        case rel => exact ⟨t + 1, I + 1, by have := Ht.out; have := Hm.out; omega, Lib.hid ⟨by have := HI.out.1; omega, Hd2.out⟩, by go_num, rfl⟩
      · have Hd2 := Lib.hid (show orL l = c from by rw [Hdr.out, if_neg h0])
        have hne : (c != 0) = true := by rw [bne_iff_ne]; exact h0
        clear Hdr
        go_wp2_with fail
        go_ret
        exact ⟨by rw [Hd2.out]; rfl, rfl⟩
theorem cmpnank_any (w : World) (a : Int) : Calls Tryz.prog 73 #[.int .i64 a] w fun e w' => e = .returned (.bool false) ∧ w = w' := by
  go_enter Tryz.func73, Tryz.ntmps73
  go_wp2_with fail
  go_ret
  exact ⟨by simp, rfl⟩
theorem cmpk_any (w : World) (a b : Int) : Calls Tryz.prog 38 #[.int .i64 a, .int .i64 b] w fun e w' => e = .returned (.int .i64 (cmp3 a b)) ∧ w = w' := by
  have hc : cmp3 a b = if a < b then -1 else if b < a then 1 else 0 := rfl
  by_cases h1 : a < b
  · rw [if_pos h1] at hc
    rw [hc]
    clear hc
    go_enter Tryz.func38, Tryz.ntmps38
    go_wp2_with fail
    refine (cmpnank_any _ _).mono ?_
    rintro e w' ⟨rfl, rfl⟩
    go_wp2_with fail
    refine (cmpnank_any _ _).mono ?_
    rintro e w' ⟨rfl, rfl⟩
    go_wp2_with fail
    go_ret
    exact ⟨rfl, rfl⟩
  · rw [if_neg h1] at hc
    by_cases h2 : b < a
    · rw [if_pos h2] at hc
      rw [hc]
      clear hc
      go_enter Tryz.func38, Tryz.ntmps38
      go_wp2_with fail
      refine (cmpnank_any _ _).mono ?_
      rintro e w' ⟨rfl, rfl⟩
      go_wp2_with fail
      refine (cmpnank_any _ _).mono ?_
      rintro e w' ⟨rfl, rfl⟩
      go_wp2_with fail
      go_ret
      exact ⟨rfl, rfl⟩
    · rw [if_neg h2] at hc
      rw [hc]
      clear hc
      go_enter Tryz.func38, Tryz.ntmps38
      go_wp2_with fail
      refine (cmpnank_any _ _).mono ?_
      rintro e w' ⟨rfl, rfl⟩
      go_wp2_with fail
      refine (cmpnank_any _ _).mono ?_
      rintro e w' ⟨rfl, rfl⟩
      go_wp2_with fail
      go_ret
      exact ⟨rfl, rfl⟩
end Go.Proofs.YtacafhmagonngaaGreatDoor
