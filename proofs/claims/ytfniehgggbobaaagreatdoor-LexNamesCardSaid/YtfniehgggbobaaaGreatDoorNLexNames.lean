/- The walk of LexNames. -/
import Derived.Test.YtfniehgggbobaaaGreatDoorGL
set_option linter.unusedVariables false
set_option linter.unusedSimpArgs false
namespace Go.Proofs.YtfniehgggbobaaaGreatDoor
open Go.RowKit

theorem dollar_size (s : ByteArray) : ((⟨#[36]⟩ : ByteArray) ++ s).size = s.size + 1 := by
  rw [ByteArray.size_append]; show 1 + s.size = _; omega
theorem dollar_list (s : ByteArray) : ((⟨#[36]⟩ : ByteArray) ++ s).data.toList = 36 :: s.data.toList := by
  rw [ByteArray.data_append, Array.toList_append]; rfl
set_option maxHeartbeats 8000000 in
set_option maxRecDepth 100000 in
theorem lexNames_walk (w : World) (hl : Laid w) (hs : Spc w) (s : ByteArray) :
    Calls Tryz.prog 5 #[.string s] w fun e w' => e = .returned (.bool true) ∧ Below w.heap.size w w' := by
  have Hl := Lib.hid hl; have Hs := Lib.hid hs
  have Hf := Lib.hid (first16_any w hl hs)
  clear hl hs
  by_cases hn : 1000 < s.size
  · have hni : 1000 < (s.size : Int) := by omega
    clear hn
    go_enter Tryz.func5, Tryz.ntmps5
    go_wp2_with fail
    refine Hf.out.mono ?_
    rintro e w1 ⟨rfl, hb1⟩
    have Hb1 := Lib.hid hb1
    clear hb1
    go_wp2_with fail
    go_ret
    exact ⟨rfl, Hb1.out⟩
  · have hni : ¬ 1000 < (s.size : Int) := by omega
    have Hn := Lib.hid hn
    obtain ⟨S, hS⟩ : ∃ S, S = (⟨#[36]⟩ : ByteArray) ++ s := ⟨_, rfl⟩
    have hSs : S.size ≤ 100000 := by rw [hS, dollar_size]; omega
    have hSl : S.data.toList = 36 :: s.data.toList := by rw [hS, dollar_list]
    have N1 : Hid (∀ W : World, Calls Tryz.prog 17 #[.string s] W fun e w' => e = .returned (.bool (nameB s.data.toList)) ∧ Below W.heap.size W w') := Lib.hid fun W => nameL_any W s (by omega)
    have N2 : Hid (∀ W : World, Calls Tryz.prog 18 #[.string s] W fun e w' => e = .returned (.bool (nameB s.data.toList)) ∧ W = w') := Lib.hid fun W => (nameR_any W s (by omega)).mono fun e w' h => ⟨h.1, h.2.symm⟩
    have H1 : Hid (∀ W : World, Laid W → Spc W → Calls Tryz.prog 14 #[.string S] W fun e w' => LexAns W w' (lexL (36 :: s.data.toList)) e) := Lib.hid fun W h1 h2 => by
      have := lex_any W h1 h2 S hSs
      rwa [hSl] at this
    have hcat : ((⟨#[36]⟩ : ByteArray) ++ s) = S := hS.symm
    have hnm : nameB s.data.toList = true → lexL (36 :: s.data.toList) = (some [⟨0, 0, s.data.toList, 0, zeroVal⟩], 0) := fun h => lexL_name h
    have Hnm := Lib.hid hnm
    have hsd : (⟨s.data.toList.toArray⟩ : ByteArray) = s := rfl
    have Hsd := Lib.hid hsd
    clear hn hS hSs hSl hnm hsd
    generalize nameB s.data.toList = b at *
    generalize lexL (36 :: s.data.toList) = r at *
    cases b with
    | false =>
      clear Hnm
      go_enter Tryz.func5, Tryz.ntmps5
      go_wp2_with fail
      refine Hf.out.mono ?_
      rintro e w1 ⟨rfl, hb1⟩
      have Hb1 := Lib.hid hb1
      clear hb1
      go_wp2_with fail
      refine (N1.out _).mono ?_
      rintro e w2 ⟨rfl, hb2⟩
      have Hb2 := Lib.hid (Hb1.out.trans (hb2.mono Hb1.out.size))
      clear hb2
      go_wp2_with fail
      refine (N2.out _).mono ?_
      rintro e w3 ⟨rfl, rfl⟩
      go_wp2_with fail
      refine (H1.out _ (Hl.out.below Hb2.out) (Hs.out.below Hb2.out)).mono ?_
      rintro e w4 ⟨v4, rfl, hb4⟩
      have Hb4 := Lib.hid (Hb2.out.trans (hb4.below.mono Hb2.out.size))
      clear hb4
      generalize lexE r = er at *
      generalize ((r.2 : Nat) : Int) = pr at *
      go_wp2_with fail
      refine (N2.out _).mono ?_
      rintro e w5 ⟨rfl, rfl⟩
      go_wp2_with fail
      go_ret
      exact ⟨rfl, Hb4.out⟩
    | true =>
      have hr := Hnm.out rfl
      subst hr
      go_enter Tryz.func5, Tryz.ntmps5
      go_wp2_with fail
      refine Hf.out.mono ?_
      rintro e w1 ⟨rfl, hb1⟩
      have Hb1 := Lib.hid hb1
      clear hb1
      go_wp2_with fail
      refine (N1.out _).mono ?_
      rintro e w2 ⟨rfl, hb2⟩
      have Hb2 := Lib.hid (Hb1.out.trans (hb2.mono Hb1.out.size))
      clear hb2
      go_wp2_with fail
      refine (N2.out _).mono ?_
      rintro e w3 ⟨rfl, rfl⟩
      go_wp2_with fail
      refine (H1.out _ (Hl.out.below Hb2.out) (Hs.out.below Hb2.out)).mono ?_
      rintro e w4 ⟨v4, rfl, hb4⟩
      have Hb4 := Lib.hid (Hb2.out.trans (hb4.below.mono Hb2.out.size))
      simp only [lexE, lexT, Option.getD_some, reduceCtorEq, if_false]
      simp only [lexT, Option.getD_some] at hb4
      obtain ⟨B, cp, e1, -, r1⟩ := hb4.row.at (i := 0) (t := ⟨0, 0, s.data.toList, 0, zeroVal⟩) rfl
      subst e1
      obtain ⟨c0, c1, c2, c3, c4, c5, c6, c7⟩ := r1
      simp only [Nat.zero_mul, Nat.zero_add, zeroVal, Hsd.out] at c0 c1 c2 c3 c4 c5 c6 c7
      clear hb4
      go_wp2_with fail
      refine (N2.out _).mono ?_
      rintro e w5 ⟨rfl, rfl⟩
      go_wp2_with fail
      go_ret
      exact ⟨rfl, Hb4.out⟩
end Go.Proofs.YtfniehgggbobaaaGreatDoor
