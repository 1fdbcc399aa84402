/- The walk of layer 3's first. -/
import Derived.Test.YtacafhmagonngaaGreatDoorVd1
set_option linter.unusedVariables false
set_option linter.unusedSimpArgs false
namespace Go.Proofs.YtacafhmagonngaaGreatDoor
open Go.RowKit

abbrev fa : Val := ⟨4, 0, ⟨#[]⟩, 0⟩
abbrev fb : Val := ⟨4, 0, ⟨#[]⟩, 9223372036854775808⟩
theorem first_facts : cmpXi (rightOf fa) (rightOf fb) = 0 ∧ cmpXb (rightOf fa) (rightOf fb) = true ∧ ordX (rightOf fa) (rightOf fb) = 1 := by
  refine ⟨?_, ?_, ?_⟩ <;> decide +kernel
theorem first_parse : okV [120, 54, 49, 54, 50] = true ∧ parseVal [120, 54, 49, 54, 50] = ⟨3, 0, ⟨#[97, 98]⟩, 0⟩ := by
  have h : candVal [120, 54, 49, 54, 50] = ⟨3, 0, ⟨#[97, 98]⟩, 0⟩ := by
    rw [candVal_eq, if_neg (by decide), if_neg (by decide), if_pos (by decide)]
    rfl
  have hr : rightOf ⟨3, 0, ⟨#[97, 98]⟩, 0⟩ = ⟨3, 0, ⟨#[97, 98]⟩, 0⟩ := by unfold rightOf; rw [if_pos (by decide +kernel)]
  have hok : okV [120, 54, 49, 54, 50] = true := by
    unfold okV
    rw [h, hr]
    decide +kernel
  exact ⟨hok, by unfold parseVal; rw [if_pos hok, h]⟩
theorem first_mask : maskX (rightOf ⟨3, 0, ⟨#[115, 101, 99, 114, 101, 116]⟩, 0⟩) 3 2 = ⟨3, 0, ⟨#[115, 101]⟩, 0⟩ := by
  have hr : rightOf ⟨3, 0, ⟨#[115, 101, 99, 114, 101, 116]⟩, 0⟩ = ⟨3, 0, ⟨#[115, 101, 99, 114, 101, 116]⟩, 0⟩ := by unfold rightOf; rw [if_pos (by decide +kernel)]
  rw [hr]
  rfl
set_option maxHeartbeats 8000000 in
set_option maxRecDepth 100000 in
theorem firstV_any (w : World) (hl : Laid w) : Calls Tryz.prog 8 #[] w fun e w' => e = .returned (.bool true) ∧ Below w.heap.size w w' := by
  have Hl := Lib.hid hl; clear hl
  obtain ⟨q1, q2, q3⟩ := first_facts
  have Hc : Hid (∀ W : World, Calls Tryz.prog 22 #[fa.v, fb.v] W fun e w' => e = .returned (.tuple #[.int .i64 0, .bool true]) ∧ Below W.heap.size W w') := Lib.hid fun W => by
    have := compareV_any W fa fb
    rwa [q1, q2] at this
  have Ho : Hid (∀ W : World, Calls Tryz.prog 16 #[fa.v, fb.v] W fun e w' => e = .returned (.int .i64 1) ∧ Below W.heap.size W w') := Lib.hid fun W => by
    have := orderV_any W fa fb (by decide) (by decide) (by decide) (by decide)
    rwa [q3] at this
  have Hp : Hid (∀ W : World, Laid W → Calls Tryz.prog 9 #[.string ⟨#[120, 54, 49, 54, 50]⟩] W fun e w' => e = .returned (.tuple #[.agg #[.int .i64 3, .int .i64 0, .string ⟨#[97, 98]⟩, .int .u64 0], .bool true]) ∧ Below W.heap.size W w') := Lib.hid fun W h => by
    have := parseV_any W h ⟨#[120, 54, 49, 54, 50]⟩ (by decide)
    rwa [first_parse.1, first_parse.2] at this
  have Hm : Hid (∀ W : World, Calls Tryz.prog 13 #[.agg #[.int .i64 3, .int .i64 0, .string ⟨#[115, 101, 99, 114, 101, 116]⟩, .int .u64 0], .agg #[.int .i64 3, .int .i64 2]] W fun e w' => e = .returned (.agg #[.int .i64 3, .int .i64 0, .string ⟨#[115, 101]⟩, .int .u64 0]) ∧ Below W.heap.size W w') := Lib.hid fun W => by
    have := mask_any W ⟨3, 0, ⟨#[115, 101, 99, 114, 101, 116]⟩, 0⟩ 3 2
    rwa [first_mask] at this
  have N0 : Hid (∀ W : World, Calls Tryz.prog 23 #[.int .i64 0] W fun e w' => e = .returned (.int .i64 1) ∧ W = w') := Lib.hid fun W => not_any W 0
  have A0 : Hid (∀ W : World, Calls Tryz.prog 24 #[.int .i64 2, .int .i64 0] W fun e w' => e = .returned (.int .i64 0) ∧ W = w') := Lib.hid fun W => and_any W 2 0
  have O0 : Hid (∀ W : World, Calls Tryz.prog 25 #[.int .i64 2, .int .i64 1] W fun e w' => e = .returned (.int .i64 1) ∧ W = w') := Lib.hid fun W => or_any2 W 2 1
  have Hd := Lib.hid (Duo.new w fa fb)
  clear q1 q2 q3
  simp only [Val.v] at Hc Ho
  go_enter Tryz.func8, Tryz.ntmps8
  go_wp2_with fail
  generalize World.alloc (World.alloc w _) _ = W0 at Hd ⊢
  refine (Hc.out W0).mono ?_
  rintro e w1 ⟨rfl, hb⟩
  have D1 := Lib.hid (Hd.out.below hb)
  clear hb
  go_wp2_with fail
  refine (Hp.out w1 (Hl.out.below D1.out.bel)).mono ?_
  rintro e w2 ⟨rfl, hb⟩
  have D2 := Lib.hid (D1.out.below hb)
  have hal := (Below.refl w2.heap.size w2).alloc (Nat.le_refl _) (.cells #[.int .i64 3, .int .i64 0, .string ⟨#[97, 98]⟩, .int .u64 0] 26)
  have D3 := Lib.hid (D2.out.below hal)
  have V3 := Lib.hid (At.new w2 3 0 ⟨#[97, 98]⟩ 0 26)
  clear hb hal
  go_wp2_with fail
  generalize World.alloc w2 _ = W3 at D3 V3 ⊢
  refine (Hm.out W3).mono ?_
  rintro e w4 ⟨rfl, hb⟩
  have D4 := Lib.hid (D3.out.below hb)
  have V4 := Lib.hid (V3.out.below hb V3.out.lt)
  have hal := (Below.refl w4.heap.size w4).alloc (Nat.le_refl _) (.cells #[.int .i64 3, .int .i64 0, .string ⟨#[115, 101]⟩, .int .u64 0] 26)
  have D5 := Lib.hid (D4.out.below hal)
  have V5 := Lib.hid (V4.out.below hal V4.out.lt)
  have M5 := Lib.hid (At.new w4 3 0 ⟨#[115, 101]⟩ 0 26)
  clear hb hal
  go_upto_region 5 with fail
  generalize World.alloc w4 _ = W5 at D5 V5 M5 ⊢
  obtain ⟨a0, a1, a2, a3, -, -⟩ := D5.out.one
  obtain ⟨b0, b1, b2, b3, -, -⟩ := D5.out.two
  go_wp2_with fail
  refine (Ho.out W5).mono ?_
  rintro e w6 ⟨rfl, hb⟩
  have D6 := Lib.hid (D5.out.below hb)
  have V6 := V5.out.below hb V5.out.lt
  have M6 := M5.out.below hb M5.out.lt
  obtain ⟨v0, v1, v2, v3, -, -⟩ := V6
  obtain ⟨m0, m1, m2, m3, -, -⟩ := M6
  clear hb a0 a1 a2 a3 b0 b1 b2 b3
  go_wp2_with fail
  refine (N0.out w6).mono ?_
  rintro e w7 ⟨rfl, rfl⟩
  go_wp2_with fail
  refine (A0.out w6).mono ?_
  rintro e w7 ⟨rfl, rfl⟩
  go_wp2_with fail
  refine (O0.out w6).mono ?_
  rintro e w7 ⟨rfl, rfl⟩
  go_wp2_with fail
  go_ret
  exact ⟨rfl, D6.out.bel⟩
end Go.Proofs.YtacafhmagonngaaGreatDoor
