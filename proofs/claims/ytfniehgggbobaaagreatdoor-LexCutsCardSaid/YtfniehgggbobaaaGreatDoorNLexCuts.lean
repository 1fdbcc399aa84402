/- The walk of LexCuts. -/
import Derived.Test.YtfniehgggbobaaaGreatDoorGL
import Derived.Test.YtfniehgggbobaaaGreatDoorGR
set_option linter.unusedVariables false
set_option linter.unusedSimpArgs false
namespace Go.Proofs.YtfniehgggbobaaaGreatDoor
open Go.RowKit

set_option maxHeartbeats 8000000 in
set_option maxRecDepth 100000 in
theorem lexCuts_walk (w : World) (hl : Laid w) (hs : Spc w) (s : ByteArray) :
    Calls Tryz.prog 4 #[.string s] w fun e w' => e = .returned (.bool true) ∧ Below w.heap.size w w' := by
  have Hl := Lib.hid hl; have Hs := Lib.hid hs
  have Hf := Lib.hid (first16_any w hl hs)
  clear hl hs
  by_cases hn : 5000 < s.size
  · have hni : 5000 < (s.size : Int) := by omega
    clear hn
    go_enter Tryz.func4, Tryz.ntmps4
    go_wp2_with fail
    refine Hf.out.mono ?_
    rintro e w1 ⟨rfl, hb1⟩
    have Hb1 := Lib.hid hb1
    clear hb1
    go_wp2_with fail
    go_ret
    exact ⟨rfl, Hb1.out⟩
  · have hni : (s.size : Int) ≤ 5000 := by omega
    have L1 : Hid (∀ W : World, Laid W → Spc W → Calls Tryz.prog 14 #[.string s] W fun e w' => LexAns W w' (lexL s.data.toList) e) := Lib.hid fun W h1 h2 => lex_any W h1 h2 s (by omega)
    have L2 : Hid (∀ W : World, Laid W → Calls Tryz.prog 15 #[.string s] W fun e w' => RefAns W w' (lexL s.data.toList) e) := Lib.hid fun W h1 => lexR_any W h1 s (by omega)
    have hln : ∀ x q, lexL s.data.toList = (some x, q) → x.length ≤ 100000 := fun x q h => by
      have h1 := lexL_length h
      omega
    have Hln := Lib.hid hln
    clear hn hln
    generalize lexL s.data.toList = r at *
    obtain ⟨xo, pa⟩ := r
    cases xo with
    | none =>
      go_enter Tryz.func4, Tryz.ntmps4
      go_wp2_with fail
      refine Hf.out.mono ?_
      rintro e w1 ⟨rfl, hb1⟩
      have Hb1 := Lib.hid hb1
      clear hb1
      go_wp2_with fail
      refine (L1.out _ (Hl.out.below Hb1.out) (Hs.out.below Hb1.out)).mono ?_
      rintro e w2 ⟨v2, rfl, hx⟩
      have Hb2 := Lib.hid (Hb1.out.trans (hx.below.mono Hb1.out.size))
      have Hx := Lib.hid hx
      clear hx
      rw [show lexE (none, pa) = 160 from rfl]
      go_wp2_with fail
      refine (L2.out _ (Hl.out.below Hb2.out)).mono ?_
      rintro e w3 ⟨v3, rfl, hy⟩
      have Hb3 := Lib.hid (Hb2.out.trans (hy.below.mono Hb2.out.size))
      have HS := Lib.hid (same_any w3 v2 v3 [] (Hx.out.later hy.below).row hy.row (Nat.zero_le _))
      rw [show (none : Option (List Tk)).isSome = false from rfl]
      clear hy
      go_wp2_with fail
      refine HS.out.mono ?_
      rintro e w4 ⟨rfl, hb4⟩
      have Hb4 := Lib.hid (Hb3.out.trans (hb4.mono Hb3.out.size))
      clear hb4
      go_wp2_with fail
      go_ret
      exact ⟨rfl, Hb4.out⟩
    | some x =>
      have hxl := Hln.out x pa rfl
      have Hxl := Lib.hid hxl
      clear hxl
      go_enter Tryz.func4, Tryz.ntmps4
      go_wp2_with fail
      refine Hf.out.mono ?_
      rintro e w1 ⟨rfl, hb1⟩
      have Hb1 := Lib.hid hb1
      clear hb1
      go_wp2_with fail
      refine (L1.out _ (Hl.out.below Hb1.out) (Hs.out.below Hb1.out)).mono ?_
      rintro e w2 ⟨v2, rfl, hx⟩
      have Hb2 := Lib.hid (Hb1.out.trans (hx.below.mono Hb1.out.size))
      have Hx := Lib.hid hx
      clear hx
      rw [show lexE (some x, pa) = 0 from rfl]
      go_wp2_with fail
      refine (L2.out _ (Hl.out.below Hb2.out)).mono ?_
      rintro e w3 ⟨v3, rfl, hy⟩
      have Hb3 := Lib.hid (Hb2.out.trans (hy.below.mono Hb2.out.size))
      have HS := Lib.hid (same_any w3 v2 v3 x (Hx.out.later hy.below).row hy.row Hxl.out)
      rw [show (some x : Option (List Tk)).isSome = true from rfl]
      clear hy
      go_wp2_with fail
      refine HS.out.mono ?_
      rintro e w4 ⟨rfl, hb4⟩
      have Hb4 := Lib.hid (Hb3.out.trans (hb4.mono Hb3.out.size))
      clear hb4
      go_wp2_with fail
      go_ret
      exact ⟨rfl, Hb4.out⟩
end Go.Proofs.YtfniehgggbobaaaGreatDoor
