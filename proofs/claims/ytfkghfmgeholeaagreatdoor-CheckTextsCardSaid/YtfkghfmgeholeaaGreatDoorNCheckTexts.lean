/- The walk of CheckTexts. -/
import Derived.Test.YtfkghfmgeholeaaGreatDoorCf1
import Derived.Test.YtfkghfmgeholeaaGreatDoorCe4
import Derived.Test.YtfkghfmgeholeaaGreatDoorPt0
set_option linter.unusedVariables false
set_option linter.unusedSimpArgs false
namespace Go.Proofs.YtfkghfmgeholeaaGreatDoor
open Go.RowKit

set_option maxHeartbeats 32000000 in
set_option maxRecDepth 100000 in
theorem checkTexts_walk (w : World) (hl : Laid w) (hs : Spc w) (s : ByteArray) (l : List Fd) (a : Option Addr) (n c : Nat) (hf : FSl w a n l) (hnc : n ≤ c) :
    Calls Tryz.prog 4 #[.string s, .slice a n c] w fun e w' => e = .returned (.bool true) ∧ Below w.heap.size w w' := by
  have Hl := Lib.hid hl; have Hs := Lib.hid hs; have Hf := Lib.hid hf; have Hnc := Lib.hid hnc
  have CF : Hid (∀ W, Below w.heap.size w W → Calls Tryz.prog 10 #[] W fun e w' => e = .returned (.bool true) ∧ Below W.heap.size W w') := Lib.hid fun W hb => first18_any W (hl.below hb) (hs.below hb)
  have CP : Hid (∀ W, Below w.heap.size w W → Calls Tryz.prog 15 #[.string s] W fun e w' => ParseAns W w' (parseF s.data.toList) e) := Lib.hid fun W hb => pparse_any W (hl.below hb) (hs.below hb) s
  have CL : Hid (∀ W, Below w.heap.size w W → Calls Tryz.prog 12 #[.slice a n c] W fun e w' => e = .returned (.bool (longF l)) ∧ Below W.heap.size W w') := Lib.hid fun W hb => long18_any W a n c l (hf.later hb)
  have hsz : s.data.toList.length = s.size := (Lib.size_eq s).symm
  obtain ⟨t, p, er, hp, hor⟩ := parseF_err s.data.toList
  rw [hp] at CP
  have Hp := Lib.hid hp; have Hsz := Lib.hid hsz
  have HB0 : Hid (Below w.heap.size w w) := Lib.hid (Below.refl _ _)
  clear hl hs hf hnc hp hsz
  by_cases hn : 1500 < s.size
  · have hni : 1500 < (s.size : Int) := by omega
    clear hn hor
    go_enter Tryz.func4, Tryz.ntmps4
    have hc := Lib.hid (CF.out w HB0.out)
    go_wp2_with fail
    refine hc.out.mono ?_
    clear hc
    rintro e w1 ⟨rfl, hb⟩
    have HB1 := Lib.hid (HB0.out.trans (hb.mono HB0.out.size))
    clear hb
    have hc := Lib.hid (CP.out w1 HB1.out)
    go_wp2_with fail
    refine hc.out.mono ?_
    clear hc
    rintro e w2 ⟨hb, ta, tn, tc, rfl, hk⟩
    have HB2 := Lib.hid (HB1.out.trans (hb.mono HB1.out.size))
    have HK2 := Lib.hid hk
    clear hb hk
    simp only [Tree.val]
    go_upto_region 4 with fail
    generalize hW : World.alloc w2 _ = w3
    have hbn : Below w2.heap.size w2 w3 := by rw [← hW]; exact Below.new _ _
    have hvn : KVar w3 w2.heap.size t ta tn tc := by rw [← hW]; exact KVar.new w2 t ta tn tc _
    have HB3 := Lib.hid (HB2.out.trans (hbn.mono HB2.out.size))
    have HK3 := Lib.hid (HK2.out.later hbn)
    have HV3 := Lib.hid hvn
    clear hW hbn hvn
    go_wp2_with fail
    go_ret
    exact ⟨rfl, HB3.out⟩
  · have hni : ¬ 1500 < (s.size : Int) := by omega
    cases hlg : longF l with
    | true =>
      rw [hlg] at CL
      clear hn hor hlg
      go_enter Tryz.func4, Tryz.ntmps4
      have hc := Lib.hid (CF.out w HB0.out)
      go_wp2_with fail
      refine hc.out.mono ?_
      clear hc
      rintro e w1 ⟨rfl, hb⟩
      have HB1 := Lib.hid (HB0.out.trans (hb.mono HB0.out.size))
      clear hb
      have hc := Lib.hid (CP.out w1 HB1.out)
      go_wp2_with fail
      refine hc.out.mono ?_
      clear hc
      rintro e w2 ⟨hb, ta, tn, tc, rfl, hk⟩
      have HB2 := Lib.hid (HB1.out.trans (hb.mono HB1.out.size))
      have HK2 := Lib.hid hk
      clear hb hk
      simp only [Tree.val]
      go_upto_region 4 with fail
      generalize hW : World.alloc w2 _ = w3
      have hbn : Below w2.heap.size w2 w3 := by rw [← hW]; exact Below.new _ _
      have hvn : KVar w3 w2.heap.size t ta tn tc := by rw [← hW]; exact KVar.new w2 t ta tn tc _
      have HB3 := Lib.hid (HB2.out.trans (hbn.mono HB2.out.size))
      have HK3 := Lib.hid (HK2.out.later hbn)
      have HV3 := Lib.hid hvn
      clear hW hbn hvn
      have hc := Lib.hid (CL.out w3 HB3.out)
      go_wp2_with fail
      refine hc.out.mono ?_
      clear hc
      rintro e w4 ⟨rfl, hb⟩
      have HB4 := Lib.hid (HB3.out.trans (hb.mono HB3.out.size))
      have HV4 := Lib.hid (HV3.out.below hb HV3.out.lt)
      have HK4 := Lib.hid (HK3.out.later hb)
      clear hb
      go_wp2_with fail
      go_ret
      exact ⟨rfl, HB4.out⟩
    | false =>
      have hlf := longF_facts hlg
      have hn30 : n ≤ 100000 := by have := Hf.out.1; omega
      have hnm : ∀ f ∈ l, f.name.length ≤ 100000 := fun f hf => by have := hlf.2 f hf; omega
      rw [hlg] at CL
      rcases hor with rfl | ⟨rfl, -⟩
      · have hpf := parsed_facts Hp.out
        have CC : Hid (∀ W, Below w.heap.size w W → ∀ (S : Nat → Prop) (ta : Option Addr) (tn tc : Nat), KSl W S t.kids ta tn → Calls Tryz.prog 13 #[.agg #[.int .i64 t.k, .int .i64 t.pos, .string ⟨t.col.toArray⟩, .int .i64 t.v.k, .int .i64 t.v.n, .string t.v.s, .int .u64 t.v.f, .int .i64 t.op, .slice ta tn tc], .slice a n c] W fun e w' => e = .returned (.tuple #[.int .i64 (checkF t l).1, .int .i64 (checkF t l).2]) ∧ Below W.heap.size W w') := Lib.hid fun W hb S ta tn tc hk => check_any W t hpf.1 S ta tn tc hk a n c l (Hf.out.later hb) hn30 Hnc.out hnm
        have CR : Hid (∀ W, Below w.heap.size w W → ∀ (S : Nat → Prop) (ta : Option Addr) (tn tc : Nat), KSl W S t.kids ta tn → Calls Tryz.prog 14 #[.agg #[.int .i64 t.k, .int .i64 t.pos, .string ⟨t.col.toArray⟩, .int .i64 t.v.k, .int .i64 t.v.n, .string t.v.s, .int .u64 t.v.f, .int .i64 t.op, .slice ta tn tc], .slice a n c] W fun e w' => e = .returned (.tuple #[.int .i64 (checkF t l).1, .int .i64 (checkF t l).2]) ∧ Below W.heap.size W w') := Lib.hid fun W hb S ta tn tc hk => checkR_any W t hpf.1 hpf.2.1 (by omega) S ta tn tc hk a n c l (Hf.out.later hb) hn30 Hnc.out hnm
        have hrng : 0 ≤ (checkF t l).1 ∧ (checkF t l).1 ≤ (s.size : Int) := by
          obtain ⟨x, hlx, hpx, -⟩ := parseF_some Hp.out
          have hin := (parseL_good (lexL_ok hlx) hpx).1.ins
          rw [Hsz.out] at hin
          unfold checkF
          split
          · cases hft : firstT l t with
            | none => exact ⟨Int.le_refl _, by show (0 : Int) ≤ _; omega⟩
            | some x => have := first_inside l s.size t x hin hft; exact ⟨this.1, by show x.1 ≤ _; omega⟩
          · exact ⟨Int.le_refl _, by show (0 : Int) ≤ _; omega⟩
        obtain ⟨hx0, hx1⟩ := hrng
        generalize (checkF t l).1 = X at CC CR hx0 hx1
        generalize (checkF t l).2 = Y at CC CR
        clear hn hlg hlf hn30 hnm hpf
        go_enter Tryz.func4, Tryz.ntmps4
        have hc := Lib.hid (CF.out w HB0.out)
        go_wp2_with fail
        refine hc.out.mono ?_
        clear hc
        rintro e w1 ⟨rfl, hb⟩
        have HB1 := Lib.hid (HB0.out.trans (hb.mono HB0.out.size))
        clear hb
        have hc := Lib.hid (CP.out w1 HB1.out)
        go_wp2_with fail
        refine hc.out.mono ?_
        clear hc
        rintro e w2 ⟨hb, ta, tn, tc, rfl, hk⟩
        have HB2 := Lib.hid (HB1.out.trans (hb.mono HB1.out.size))
        have HK2 := Lib.hid hk
        clear hb hk
        simp only [Tree.val]
        go_upto_region 4 with fail
        generalize hW : World.alloc w2 _ = w3
        have hbn : Below w2.heap.size w2 w3 := by rw [← hW]; exact Below.new _ _
        have hvn : KVar w3 w2.heap.size t ta tn tc := by rw [← hW]; exact KVar.new w2 t ta tn tc _
        have HB3 := Lib.hid (HB2.out.trans (hbn.mono HB2.out.size))
        have HK3 := Lib.hid (HK2.out.later hbn)
        have HV3 := Lib.hid hvn
        clear hW hbn hvn
        have hc := Lib.hid (CL.out w3 HB3.out)
        go_wp2_with fail
        refine hc.out.mono ?_
        clear hc
        rintro e w4 ⟨rfl, hb⟩
        have HB4 := Lib.hid (HB3.out.trans (hb.mono HB3.out.size))
        have HV4 := Lib.hid (HV3.out.below hb HV3.out.lt)
        have HK4 := Lib.hid (HK3.out.later hb)
        clear hb
        have hc := Lib.hid (CC.out w4 HB4.out _ ta tn tc HK4.out)
        obtain ⟨k0, k1, k2, k3, k4, k5, k6, k7, k8, -, -⟩ := HV4.out
        go_wp2_with fail
        refine hc.out.mono ?_
        clear hc k0 k1 k2 k3 k4 k5 k6 k7 k8
        rintro e w5 ⟨rfl, hb⟩
        have HB5 := Lib.hid (HB4.out.trans (hb.mono HB4.out.size))
        have HV5 := Lib.hid (HV4.out.below hb HV4.out.lt)
        have HK5 := Lib.hid (HK4.out.later hb)
        clear hb
        have hc := Lib.hid (CR.out w5 HB5.out _ ta tn tc HK5.out)
        obtain ⟨k0, k1, k2, k3, k4, k5, k6, k7, k8, -, -⟩ := HV5.out
        go_wp2_with fail
        refine hc.out.mono ?_
        clear hc k0 k1 k2 k3 k4 k5 k6 k7 k8
        rintro e w6 ⟨rfl, hb⟩
        have HB6 := Lib.hid (HB5.out.trans (hb.mono HB5.out.size))
        have HV6 := Lib.hid (HV5.out.below hb HV5.out.lt)
        have HK6 := Lib.hid (HK5.out.later hb)
        clear hb
        go_wp2_with fail
        go_ret
        exact ⟨rfl, HB6.out⟩
      · clear hn hlg hlf hn30 hnm
        go_enter Tryz.func4, Tryz.ntmps4
        have hc := Lib.hid (CF.out w HB0.out)
        go_wp2_with fail
        refine hc.out.mono ?_
        clear hc
        rintro e w1 ⟨rfl, hb⟩
        have HB1 := Lib.hid (HB0.out.trans (hb.mono HB0.out.size))
        clear hb
        have hc := Lib.hid (CP.out w1 HB1.out)
        go_wp2_with fail
        refine hc.out.mono ?_
        clear hc
        rintro e w2 ⟨hb, ta, tn, tc, rfl, hk⟩
        have HB2 := Lib.hid (HB1.out.trans (hb.mono HB1.out.size))
        have HK2 := Lib.hid hk
        clear hb hk
        simp only [Tree.val]
        go_upto_region 4 with fail
        generalize hW : World.alloc w2 _ = w3
        have hbn : Below w2.heap.size w2 w3 := by rw [← hW]; exact Below.new _ _
        have hvn : KVar w3 w2.heap.size t ta tn tc := by rw [← hW]; exact KVar.new w2 t ta tn tc _
        have HB3 := Lib.hid (HB2.out.trans (hbn.mono HB2.out.size))
        have HK3 := Lib.hid (HK2.out.later hbn)
        have HV3 := Lib.hid hvn
        clear hW hbn hvn
        have hc := Lib.hid (CL.out w3 HB3.out)
        go_wp2_with fail
        refine hc.out.mono ?_
        clear hc
        rintro e w4 ⟨rfl, hb⟩
        have HB4 := Lib.hid (HB3.out.trans (hb.mono HB3.out.size))
        have HV4 := Lib.hid (HV3.out.below hb HV3.out.lt)
        have HK4 := Lib.hid (HK3.out.later hb)
        clear hb
        go_wp2_with fail
        go_ret
        exact ⟨rfl, HB4.out⟩
end Go.Proofs.YtfkghfmgeholeaaGreatDoor
