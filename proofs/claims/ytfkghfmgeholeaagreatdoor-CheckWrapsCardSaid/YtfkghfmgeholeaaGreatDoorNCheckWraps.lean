/- The walk of CheckWraps. -/
import Derived.Test.YtfkghfmgeholeaaGreatDoorCf1
import Derived.Test.YtfkghfmgeholeaaGreatDoorRs0
import Derived.Test.YtfkghfmgeholeaaGreatDoorRs1
import Derived.Test.YtfkghfmgeholeaaGreatDoorQd0
import Derived.Test.YtfkghfmgeholeaaGreatDoorPd1
import Derived.Test.YtfkghfmgeholeaaGreatDoorPt0
set_option linter.unusedVariables false
set_option linter.unusedSimpArgs false
namespace Go.Proofs.YtfkghfmgeholeaaGreatDoor
open Go.RowKit

theorem KSl.fresh1 {W : World} (t : Tree) (a : Option Addr) (n c : Nat) (ty : TypeId) (h : KSl W (fun _ => True) t.kids a n) : KSl (W.alloc (.cells (t.cells a n c) ty)) (fun _ => True) [t] (some ⟨W.heap.size, 0, none⟩) 1 := by
  have hb := Below.new W (.cells (t.cells a n c) ty)
  have hv := KVar.new W t a n c ty
  exact .on trivial hv.lt rfl (.cons ⟨hv.c0, hv.c1, hv.c2, hv.c3, hv.c4, hv.c5, hv.c6, hv.c7, hv.c8⟩ (h.later hb) (.nil _ _))
set_option maxHeartbeats 64000000 in
set_option maxRecDepth 100000 in
theorem checkWraps_walk (w : World) (hl : Laid w) (hs : Spc w) (x y : Tree) (hwx : WfT x) (hwy : WfT y) (xa : Option Addr) (xn xc : Nat) (hkx : KSl w (fun _ => True) x.kids xa xn) (ya : Option Addr) (yn yc : Nat) (hky : KSl w (fun _ => True) y.kids ya yn) (l : List Fd) (a : Option Addr) (n c : Nat) (hf : FSl w a n l) (hnc : n ≤ c) :
    Calls Tryz.prog 6 #[x.val xa xn xc, y.val ya yn yc, .slice a n c] w fun e w' => e = .returned (.bool true) ∧ Below w.heap.size w w' := by
  have Hkx := Lib.hid hkx; have Hky := Lib.hid hky; have Hwx := Lib.hid hwx; have Hwy := Lib.hid hwy; have Hf := Lib.hid hf; have Hnc := Lib.hid hnc
  have CF : Hid (∀ W, Below w.heap.size w W → Calls Tryz.prog 10 #[] W fun e w' => e = .returned (.bool true) ∧ Below W.heap.size W w') := Lib.hid fun W hb => first18_any W (hl.below hb) (hs.below hb)
  have CX : Hid (∀ W, Below w.heap.size w W → Calls Tryz.prog 11 #[.agg #[.int .i64 x.k, .int .i64 x.pos, .string ⟨x.col.toArray⟩, .int .i64 x.v.k, .int .i64 x.v.n, .string x.v.s, .int .u64 x.v.f, .int .i64 x.op, .slice xa xn xc], .int .i64 30] W fun e w' => e = .returned (.int .i64 (sizeT x 30 : Int)) ∧ Below W.heap.size W w') := Lib.hid fun W hb => size_any 30 (by decide) x W _ xa xn xc (hkx.later hb)
  have CY : Hid (∀ W, Below w.heap.size w W → Calls Tryz.prog 11 #[.agg #[.int .i64 y.k, .int .i64 y.pos, .string ⟨y.col.toArray⟩, .int .i64 y.v.k, .int .i64 y.v.n, .string y.v.s, .int .u64 y.v.f, .int .i64 y.op, .slice ya yn yc], .int .i64 30] W fun e w' => e = .returned (.int .i64 (sizeT y 30 : Int)) ∧ Below W.heap.size W w') := Lib.hid fun W hb => size_any 30 (by decide) y W _ ya yn yc (hky.later hb)
  have CL : Hid (∀ W, Below w.heap.size w W → Calls Tryz.prog 12 #[.slice a n c] W fun e w' => e = .returned (.bool (longF l)) ∧ Below W.heap.size W w') := Lib.hid fun W hb => long18_any W a n c l (hf.later hb)
  have HBX := Lib.hid (boxes_new w x y xa xn xc ya yn yc 30 30)
  clear hl hs hkx hky hwx hwy hf hnc
  simp only [Tree.val]
  by_cases h1 : 1000 < sizeT x 30
  · have hx : 1000 < (sizeT x 30 : Int) := by omega
    generalize (sizeT x 30 : Int) = ZX at CX hx
    clear h1
    go_enter Tryz.func6, Tryz.ntmps6
    go_upto_region 1 with fail
    generalize hW : World.alloc (World.alloc _ _) _ = w0
    have hF : Boxes w w0 x y xa xn xc ya yn yc := by rw [← hW]; exact HBX.out
    clear hW HBX
    have HV0 := Lib.hid hF.1
    have HU0 := Lib.hid hF.2.1
    have HB0 := Lib.hid hF.2.2
    clear hF
    have hc := Lib.hid (CF.out w0 HB0.out)
    go_wp2_with fail
    refine hc.out.mono ?_
    clear hc
    rintro e w1 ⟨rfl, hb⟩
    have HB1 := Lib.hid (HB0.out.trans (hb.mono HB0.out.size))
    have HV1 := Lib.hid (HV0.out.below hb HV0.out.lt)
    have HU1 := Lib.hid (HU0.out.below hb HU0.out.lt)
    clear hb
    have hc := Lib.hid (CX.out w1 HB1.out)
    obtain ⟨k0, k1, k2, k3, k4, k5, k6, k7, k8, -, -⟩ := HV1.out
    go_wp2_with fail
    refine hc.out.mono ?_
    clear hc k0 k1 k2 k3 k4 k5 k6 k7 k8
    rintro e w2 ⟨rfl, hb⟩
    have HB2 := Lib.hid (HB1.out.trans (hb.mono HB1.out.size))
    have HV2 := Lib.hid (HV1.out.below hb HV1.out.lt)
    have HU2 := Lib.hid (HU1.out.below hb HU1.out.lt)
    clear hb
    go_wp2_with fail
    go_ret
    exact ⟨rfl, HB2.out⟩
  · by_cases h2 : 1000 < sizeT y 30
    · have hx : ¬ 1000 < (sizeT x 30 : Int) := by omega
      have hy : 1000 < (sizeT y 30 : Int) := by omega
      generalize (sizeT x 30 : Int) = ZX at CX hx
      generalize (sizeT y 30 : Int) = ZY at CY hy
      clear h1 h2
      go_enter Tryz.func6, Tryz.ntmps6
      go_upto_region 1 with fail
      generalize hW : World.alloc (World.alloc _ _) _ = w0
      have hF : Boxes w w0 x y xa xn xc ya yn yc := by rw [← hW]; exact HBX.out
      clear hW HBX
      have HV0 := Lib.hid hF.1
      have HU0 := Lib.hid hF.2.1
      have HB0 := Lib.hid hF.2.2
      clear hF
      have hc := Lib.hid (CF.out w0 HB0.out)
      go_wp2_with fail
      refine hc.out.mono ?_
      clear hc
      rintro e w1 ⟨rfl, hb⟩
      have HB1 := Lib.hid (HB0.out.trans (hb.mono HB0.out.size))
      have HV1 := Lib.hid (HV0.out.below hb HV0.out.lt)
      have HU1 := Lib.hid (HU0.out.below hb HU0.out.lt)
      clear hb
      have hc := Lib.hid (CX.out w1 HB1.out)
      obtain ⟨k0, k1, k2, k3, k4, k5, k6, k7, k8, -, -⟩ := HV1.out
      go_wp2_with fail
      refine hc.out.mono ?_
      clear hc k0 k1 k2 k3 k4 k5 k6 k7 k8
      rintro e w2 ⟨rfl, hb⟩
      have HB2 := Lib.hid (HB1.out.trans (hb.mono HB1.out.size))
      have HV2 := Lib.hid (HV1.out.below hb HV1.out.lt)
      have HU2 := Lib.hid (HU1.out.below hb HU1.out.lt)
      clear hb
      have hc := Lib.hid (CY.out w2 HB2.out)
      obtain ⟨k0, k1, k2, k3, k4, k5, k6, k7, k8, -, -⟩ := HU2.out
      go_wp2_with fail
      refine hc.out.mono ?_
      clear hc k0 k1 k2 k3 k4 k5 k6 k7 k8
      rintro e w3 ⟨rfl, hb⟩
      have HB3 := Lib.hid (HB2.out.trans (hb.mono HB2.out.size))
      have HV3 := Lib.hid (HV2.out.below hb HV2.out.lt)
      have HU3 := Lib.hid (HU2.out.below hb HU2.out.lt)
      clear hb
      go_wp2_with fail
      go_ret
      exact ⟨rfl, HB3.out⟩
    · have hx : ¬ 1000 < (sizeT x 30 : Int) := by omega
      have hy : ¬ 1000 < (sizeT y 30 : Int) := by omega
      have fx := size_facts x 30 (by omega)
      have fy := size_facts y 30 (by omega)
      have hnx : x.nodes ≤ 1000 := by omega
      have hny : y.nodes ≤ 1000 := by omega
      cases hlg : longF l with
      | true =>
        rw [hlg] at CL
        generalize (sizeT x 30 : Int) = ZX at CX hx
        generalize (sizeT y 30 : Int) = ZY at CY hy
        clear h1 h2 hlg fx fy hnx hny
        go_enter Tryz.func6, Tryz.ntmps6
        go_upto_region 1 with fail
        generalize hW : World.alloc (World.alloc _ _) _ = w0
        have hF : Boxes w w0 x y xa xn xc ya yn yc := by rw [← hW]; exact HBX.out
        clear hW HBX
        have HV0 := Lib.hid hF.1
        have HU0 := Lib.hid hF.2.1
        have HB0 := Lib.hid hF.2.2
        clear hF
        have hc := Lib.hid (CF.out w0 HB0.out)
        go_wp2_with fail
        refine hc.out.mono ?_
        clear hc
        rintro e w1 ⟨rfl, hb⟩
        have HB1 := Lib.hid (HB0.out.trans (hb.mono HB0.out.size))
        have HV1 := Lib.hid (HV0.out.below hb HV0.out.lt)
        have HU1 := Lib.hid (HU0.out.below hb HU0.out.lt)
        clear hb
        have hc := Lib.hid (CX.out w1 HB1.out)
        obtain ⟨k0, k1, k2, k3, k4, k5, k6, k7, k8, -, -⟩ := HV1.out
        go_wp2_with fail
        refine hc.out.mono ?_
        clear hc k0 k1 k2 k3 k4 k5 k6 k7 k8
        rintro e w2 ⟨rfl, hb⟩
        have HB2 := Lib.hid (HB1.out.trans (hb.mono HB1.out.size))
        have HV2 := Lib.hid (HV1.out.below hb HV1.out.lt)
        have HU2 := Lib.hid (HU1.out.below hb HU1.out.lt)
        clear hb
        have hc := Lib.hid (CY.out w2 HB2.out)
        obtain ⟨k0, k1, k2, k3, k4, k5, k6, k7, k8, -, -⟩ := HU2.out
        go_wp2_with fail
        refine hc.out.mono ?_
        clear hc k0 k1 k2 k3 k4 k5 k6 k7 k8
        rintro e w3 ⟨rfl, hb⟩
        have HB3 := Lib.hid (HB2.out.trans (hb.mono HB2.out.size))
        have HV3 := Lib.hid (HV2.out.below hb HV2.out.lt)
        have HU3 := Lib.hid (HU2.out.below hb HU2.out.lt)
        clear hb
        have hc := Lib.hid (CL.out w3 HB3.out)
        go_wp2_with fail
        refine hc.out.mono ?_
        clear hc
        rintro e w4 ⟨rfl, hb⟩
        have HB4 := Lib.hid (HB3.out.trans (hb.mono HB3.out.size))
        have HV4 := Lib.hid (HV3.out.below hb HV3.out.lt)
        have HU4 := Lib.hid (HU3.out.below hb HU3.out.lt)
        clear hb
        go_wp2_with fail
        go_ret
        exact ⟨rfl, HB4.out⟩
      | false =>
        have hlf := longF_facts hlg
        have hn30 : n ≤ 100000 := by have := Hf.out.1; omega
        have hnm : ∀ f ∈ l, f.name.length ≤ 100000 := fun f hf => by have := hlf.2 f hf; omega
        rw [hlg] at CL
        have CRx : Hid (∀ W, Below w.heap.size w W → Calls Tryz.prog 19 #[.agg #[.int .i64 x.k, .int .i64 x.pos, .string ⟨x.col.toArray⟩, .int .i64 x.v.k, .int .i64 x.v.n, .string x.v.s, .int .u64 x.v.f, .int .i64 x.op, .slice xa xn xc], .int .i64 0] W fun e w' => e = .returned (.bool (rightT 0 x)) ∧ Below W.heap.size W w') := Lib.hid fun W hb => rightRc_any x fx.2.1 Hwx.out W _ xa xn xc (Hkx.out.later hb)
        have CRy : Hid (∀ W, Below w.heap.size w W → Calls Tryz.prog 19 #[.agg #[.int .i64 y.k, .int .i64 y.pos, .string ⟨y.col.toArray⟩, .int .i64 y.v.k, .int .i64 y.v.n, .string y.v.s, .int .u64 y.v.f, .int .i64 y.op, .slice ya yn yc], .int .i64 0] W fun e w' => e = .returned (.bool (rightT 0 y)) ∧ Below W.heap.size W w') := Lib.hid fun W hb => rightRc_any y fy.2.1 Hwy.out W _ ya yn yc (Hky.out.later hb)
        have CDx : Hid (∀ W, Below w.heap.size w W → Calls Tryz.prog 20 #[.agg #[.int .i64 x.k, .int .i64 x.pos, .string ⟨x.col.toArray⟩, .int .i64 x.v.k, .int .i64 x.v.n, .string x.v.s, .int .u64 x.v.f, .int .i64 x.op, .slice xa xn xc]] W fun e w' => e = .returned (.int .i64 (x.depth : Int)) ∧ Below W.heap.size W w') := Lib.hid fun W hb => depthR_any 1000000 (Nat.le_refl _) x (by omega) W _ xa xn xc (Hkx.out.later hb)
        have CDy : Hid (∀ W, Below w.heap.size w W → Calls Tryz.prog 20 #[.agg #[.int .i64 y.k, .int .i64 y.pos, .string ⟨y.col.toArray⟩, .int .i64 y.v.k, .int .i64 y.v.n, .string y.v.s, .int .u64 y.v.f, .int .i64 y.op, .slice ya yn yc]] W fun e w' => e = .returned (.int .i64 (y.depth : Int)) ∧ Below W.heap.size W w') := Lib.hid fun W hb => depthR_any 1000000 (Nat.le_refl _) y (by omega) W _ ya yn yc (Hky.out.later hb)
        generalize (sizeT x 30 : Int) = ZX at CX hx
        generalize (sizeT y 30 : Int) = ZY at CY hy
        cases hrx : rightT 0 x with
        | false =>
          rw [hrx] at CRx
          clear h1 h2 hlg fx fy hnx hny hlf hn30 hnm
          clear hrx
          go_enter Tryz.func6, Tryz.ntmps6
          go_upto_region 1 with fail
          generalize hW : World.alloc (World.alloc _ _) _ = w0
          have hF : Boxes w w0 x y xa xn xc ya yn yc := by rw [← hW]; exact HBX.out
          clear hW HBX
          have HV0 := Lib.hid hF.1
          have HU0 := Lib.hid hF.2.1
          have HB0 := Lib.hid hF.2.2
          clear hF
          have hc := Lib.hid (CF.out w0 HB0.out)
          go_wp2_with fail
          refine hc.out.mono ?_
          clear hc
          rintro e w1 ⟨rfl, hb⟩
          have HB1 := Lib.hid (HB0.out.trans (hb.mono HB0.out.size))
          have HV1 := Lib.hid (HV0.out.below hb HV0.out.lt)
          have HU1 := Lib.hid (HU0.out.below hb HU0.out.lt)
          clear hb
          have hc := Lib.hid (CX.out w1 HB1.out)
          obtain ⟨k0, k1, k2, k3, k4, k5, k6, k7, k8, -, -⟩ := HV1.out
          go_wp2_with fail
          refine hc.out.mono ?_
          clear hc k0 k1 k2 k3 k4 k5 k6 k7 k8
          rintro e w2 ⟨rfl, hb⟩
          have HB2 := Lib.hid (HB1.out.trans (hb.mono HB1.out.size))
          have HV2 := Lib.hid (HV1.out.below hb HV1.out.lt)
          have HU2 := Lib.hid (HU1.out.below hb HU1.out.lt)
          clear hb
          have hc := Lib.hid (CY.out w2 HB2.out)
          obtain ⟨k0, k1, k2, k3, k4, k5, k6, k7, k8, -, -⟩ := HU2.out
          go_wp2_with fail
          refine hc.out.mono ?_
          clear hc k0 k1 k2 k3 k4 k5 k6 k7 k8
          rintro e w3 ⟨rfl, hb⟩
          have HB3 := Lib.hid (HB2.out.trans (hb.mono HB2.out.size))
          have HV3 := Lib.hid (HV2.out.below hb HV2.out.lt)
          have HU3 := Lib.hid (HU2.out.below hb HU2.out.lt)
          clear hb
          have hc := Lib.hid (CL.out w3 HB3.out)
          go_wp2_with fail
          refine hc.out.mono ?_
          clear hc
          rintro e w4 ⟨rfl, hb⟩
          have HB4 := Lib.hid (HB3.out.trans (hb.mono HB3.out.size))
          have HV4 := Lib.hid (HV3.out.below hb HV3.out.lt)
          have HU4 := Lib.hid (HU3.out.below hb HU3.out.lt)
          clear hb
          have hc := Lib.hid (CRx.out w4 HB4.out)
          obtain ⟨k0, k1, k2, k3, k4, k5, k6, k7, k8, -, -⟩ := HV4.out
          go_wp2_with fail
          refine hc.out.mono ?_
          clear hc k0 k1 k2 k3 k4 k5 k6 k7 k8
          rintro e w5 ⟨rfl, hb⟩
          have HB5 := Lib.hid (HB4.out.trans (hb.mono HB4.out.size))
          have HV5 := Lib.hid (HV4.out.below hb HV4.out.lt)
          have HU5 := Lib.hid (HU4.out.below hb HU4.out.lt)
          clear hb
          go_wp2_with fail
          go_ret
          exact ⟨rfl, HB5.out⟩
        | true =>
          rw [hrx] at CRx
          cases hry : rightT 0 y with
          | false =>
            rw [hry] at CRy
            clear h1 h2 hlg fx fy hnx hny hlf hn30 hnm
            clear hrx hry
            go_enter Tryz.func6, Tryz.ntmps6
            go_upto_region 1 with fail
            generalize hW : World.alloc (World.alloc _ _) _ = w0
            have hF : Boxes w w0 x y xa xn xc ya yn yc := by rw [← hW]; exact HBX.out
            clear hW HBX
            have HV0 := Lib.hid hF.1
            have HU0 := Lib.hid hF.2.1
            have HB0 := Lib.hid hF.2.2
            clear hF
            have hc := Lib.hid (CF.out w0 HB0.out)
            go_wp2_with fail
            refine hc.out.mono ?_
            clear hc
            rintro e w1 ⟨rfl, hb⟩
            have HB1 := Lib.hid (HB0.out.trans (hb.mono HB0.out.size))
            have HV1 := Lib.hid (HV0.out.below hb HV0.out.lt)
            have HU1 := Lib.hid (HU0.out.below hb HU0.out.lt)
            clear hb
            have hc := Lib.hid (CX.out w1 HB1.out)
            obtain ⟨k0, k1, k2, k3, k4, k5, k6, k7, k8, -, -⟩ := HV1.out
            go_wp2_with fail
            refine hc.out.mono ?_
            clear hc k0 k1 k2 k3 k4 k5 k6 k7 k8
            rintro e w2 ⟨rfl, hb⟩
            have HB2 := Lib.hid (HB1.out.trans (hb.mono HB1.out.size))
            have HV2 := Lib.hid (HV1.out.below hb HV1.out.lt)
            have HU2 := Lib.hid (HU1.out.below hb HU1.out.lt)
            clear hb
            have hc := Lib.hid (CY.out w2 HB2.out)
            obtain ⟨k0, k1, k2, k3, k4, k5, k6, k7, k8, -, -⟩ := HU2.out
            go_wp2_with fail
            refine hc.out.mono ?_
            clear hc k0 k1 k2 k3 k4 k5 k6 k7 k8
            rintro e w3 ⟨rfl, hb⟩
            have HB3 := Lib.hid (HB2.out.trans (hb.mono HB2.out.size))
            have HV3 := Lib.hid (HV2.out.below hb HV2.out.lt)
            have HU3 := Lib.hid (HU2.out.below hb HU2.out.lt)
            clear hb
            have hc := Lib.hid (CL.out w3 HB3.out)
            go_wp2_with fail
            refine hc.out.mono ?_
            clear hc
            rintro e w4 ⟨rfl, hb⟩
            have HB4 := Lib.hid (HB3.out.trans (hb.mono HB3.out.size))
            have HV4 := Lib.hid (HV3.out.below hb HV3.out.lt)
            have HU4 := Lib.hid (HU3.out.below hb HU3.out.lt)
            clear hb
            have hc := Lib.hid (CRx.out w4 HB4.out)
            obtain ⟨k0, k1, k2, k3, k4, k5, k6, k7, k8, -, -⟩ := HV4.out
            go_wp2_with fail
            refine hc.out.mono ?_
            clear hc k0 k1 k2 k3 k4 k5 k6 k7 k8
            rintro e w5 ⟨rfl, hb⟩
            have HB5 := Lib.hid (HB4.out.trans (hb.mono HB4.out.size))
            have HV5 := Lib.hid (HV4.out.below hb HV4.out.lt)
            have HU5 := Lib.hid (HU4.out.below hb HU4.out.lt)
            clear hb
            have hc := Lib.hid (CRy.out w5 HB5.out)
            obtain ⟨k0, k1, k2, k3, k4, k5, k6, k7, k8, -, -⟩ := HU5.out
            go_wp2_with fail
            refine hc.out.mono ?_
            clear hc k0 k1 k2 k3 k4 k5 k6 k7 k8
            rintro e w6 ⟨rfl, hb⟩
            have HB6 := Lib.hid (HB5.out.trans (hb.mono HB5.out.size))
            have HV6 := Lib.hid (HV5.out.below hb HV5.out.lt)
            have HU6 := Lib.hid (HU5.out.below hb HU5.out.lt)
            clear hb
            go_wp2_with fail
            go_ret
            exact ⟨rfl, HB6.out⟩
          | true =>
            rw [hry] at CRy
            by_cases d1 : 30 < x.depth
            · have e1 : 30 < (x.depth : Int) := by omega
              generalize (x.depth : Int) = DX at CDx e1
              clear h1 h2 hlg fx fy hnx hny hlf hn30 hnm
              clear hrx hry d1
              go_enter Tryz.func6, Tryz.ntmps6
              go_upto_region 1 with fail
              generalize hW : World.alloc (World.alloc _ _) _ = w0
              have hF : Boxes w w0 x y xa xn xc ya yn yc := by rw [← hW]; exact HBX.out
              clear hW HBX
              have HV0 := Lib.hid hF.1
              have HU0 := Lib.hid hF.2.1
              have HB0 := Lib.hid hF.2.2
              clear hF
              have hc := Lib.hid (CF.out w0 HB0.out)
              go_wp2_with fail
              refine hc.out.mono ?_
              clear hc
              rintro e w1 ⟨rfl, hb⟩
              have HB1 := Lib.hid (HB0.out.trans (hb.mono HB0.out.size))
              have HV1 := Lib.hid (HV0.out.below hb HV0.out.lt)
              have HU1 := Lib.hid (HU0.out.below hb HU0.out.lt)
              clear hb
              have hc := Lib.hid (CX.out w1 HB1.out)
              obtain ⟨k0, k1, k2, k3, k4, k5, k6, k7, k8, -, -⟩ := HV1.out
              go_wp2_with fail
              refine hc.out.mono ?_
              clear hc k0 k1 k2 k3 k4 k5 k6 k7 k8
              rintro e w2 ⟨rfl, hb⟩
              have HB2 := Lib.hid (HB1.out.trans (hb.mono HB1.out.size))
              have HV2 := Lib.hid (HV1.out.below hb HV1.out.lt)
              have HU2 := Lib.hid (HU1.out.below hb HU1.out.lt)
              clear hb
              have hc := Lib.hid (CY.out w2 HB2.out)
              obtain ⟨k0, k1, k2, k3, k4, k5, k6, k7, k8, -, -⟩ := HU2.out
              go_wp2_with fail
              refine hc.out.mono ?_
              clear hc k0 k1 k2 k3 k4 k5 k6 k7 k8
              rintro e w3 ⟨rfl, hb⟩
              have HB3 := Lib.hid (HB2.out.trans (hb.mono HB2.out.size))
              have HV3 := Lib.hid (HV2.out.below hb HV2.out.lt)
              have HU3 := Lib.hid (HU2.out.below hb HU2.out.lt)
              clear hb
              have hc := Lib.hid (CL.out w3 HB3.out)
              go_wp2_with fail
              refine hc.out.mono ?_
              clear hc
              rintro e w4 ⟨rfl, hb⟩
              have HB4 := Lib.hid (HB3.out.trans (hb.mono HB3.out.size))
              have HV4 := Lib.hid (HV3.out.below hb HV3.out.lt)
              have HU4 := Lib.hid (HU3.out.below hb HU3.out.lt)
              clear hb
              have hc := Lib.hid (CRx.out w4 HB4.out)
              obtain ⟨k0, k1, k2, k3, k4, k5, k6, k7, k8, -, -⟩ := HV4.out
              go_wp2_with fail
              refine hc.out.mono ?_
              clear hc k0 k1 k2 k3 k4 k5 k6 k7 k8
              rintro e w5 ⟨rfl, hb⟩
              have HB5 := Lib.hid (HB4.out.trans (hb.mono HB4.out.size))
              have HV5 := Lib.hid (HV4.out.below hb HV4.out.lt)
              have HU5 := Lib.hid (HU4.out.below hb HU4.out.lt)
              clear hb
              have hc := Lib.hid (CRy.out w5 HB5.out)
              obtain ⟨k0, k1, k2, k3, k4, k5, k6, k7, k8, -, -⟩ := HU5.out
              go_wp2_with fail
              refine hc.out.mono ?_
              clear hc k0 k1 k2 k3 k4 k5 k6 k7 k8
              rintro e w6 ⟨rfl, hb⟩
              have HB6 := Lib.hid (HB5.out.trans (hb.mono HB5.out.size))
              have HV6 := Lib.hid (HV5.out.below hb HV5.out.lt)
              have HU6 := Lib.hid (HU5.out.below hb HU5.out.lt)
              clear hb
              have hc := Lib.hid (CDx.out w6 HB6.out)
              obtain ⟨k0, k1, k2, k3, k4, k5, k6, k7, k8, -, -⟩ := HV6.out
              go_wp2_with fail
              refine hc.out.mono ?_
              clear hc k0 k1 k2 k3 k4 k5 k6 k7 k8
              rintro e w7 ⟨rfl, hb⟩
              have HB7 := Lib.hid (HB6.out.trans (hb.mono HB6.out.size))
              have HV7 := Lib.hid (HV6.out.below hb HV6.out.lt)
              have HU7 := Lib.hid (HU6.out.below hb HU6.out.lt)
              clear hb
              go_wp2_with fail
              go_ret
              exact ⟨rfl, HB7.out⟩
            · by_cases d2 : 30 < y.depth
              · have e1 : ¬ 30 < (x.depth : Int) := by omega
                have e2 : 30 < (y.depth : Int) := by omega
                generalize (x.depth : Int) = DX at CDx e1
                generalize (y.depth : Int) = DY at CDy e2
                clear h1 h2 hlg fx fy hnx hny hlf hn30 hnm
                clear hrx hry d1 d2
                go_enter Tryz.func6, Tryz.ntmps6
                go_upto_region 1 with fail
                generalize hW : World.alloc (World.alloc _ _) _ = w0
                have hF : Boxes w w0 x y xa xn xc ya yn yc := by rw [← hW]; exact HBX.out
                clear hW HBX
                have HV0 := Lib.hid hF.1
                have HU0 := Lib.hid hF.2.1
                have HB0 := Lib.hid hF.2.2
                clear hF
                have hc := Lib.hid (CF.out w0 HB0.out)
                go_wp2_with fail
                refine hc.out.mono ?_
                clear hc
                rintro e w1 ⟨rfl, hb⟩
                have HB1 := Lib.hid (HB0.out.trans (hb.mono HB0.out.size))
                have HV1 := Lib.hid (HV0.out.below hb HV0.out.lt)
                have HU1 := Lib.hid (HU0.out.below hb HU0.out.lt)
                clear hb
                have hc := Lib.hid (CX.out w1 HB1.out)
                obtain ⟨k0, k1, k2, k3, k4, k5, k6, k7, k8, -, -⟩ := HV1.out
                go_wp2_with fail
                refine hc.out.mono ?_
                clear hc k0 k1 k2 k3 k4 k5 k6 k7 k8
                rintro e w2 ⟨rfl, hb⟩
                have HB2 := Lib.hid (HB1.out.trans (hb.mono HB1.out.size))
                have HV2 := Lib.hid (HV1.out.below hb HV1.out.lt)
                have HU2 := Lib.hid (HU1.out.below hb HU1.out.lt)
                clear hb
                have hc := Lib.hid (CY.out w2 HB2.out)
                obtain ⟨k0, k1, k2, k3, k4, k5, k6, k7, k8, -, -⟩ := HU2.out
                go_wp2_with fail
                refine hc.out.mono ?_
                clear hc k0 k1 k2 k3 k4 k5 k6 k7 k8
                rintro e w3 ⟨rfl, hb⟩
                have HB3 := Lib.hid (HB2.out.trans (hb.mono HB2.out.size))
                have HV3 := Lib.hid (HV2.out.below hb HV2.out.lt)
                have HU3 := Lib.hid (HU2.out.below hb HU2.out.lt)
                clear hb
                have hc := Lib.hid (CL.out w3 HB3.out)
                go_wp2_with fail
                refine hc.out.mono ?_
                clear hc
                rintro e w4 ⟨rfl, hb⟩
                have HB4 := Lib.hid (HB3.out.trans (hb.mono HB3.out.size))
                have HV4 := Lib.hid (HV3.out.below hb HV3.out.lt)
                have HU4 := Lib.hid (HU3.out.below hb HU3.out.lt)
                clear hb
                have hc := Lib.hid (CRx.out w4 HB4.out)
                obtain ⟨k0, k1, k2, k3, k4, k5, k6, k7, k8, -, -⟩ := HV4.out
                go_wp2_with fail
                refine hc.out.mono ?_
                clear hc k0 k1 k2 k3 k4 k5 k6 k7 k8
                rintro e w5 ⟨rfl, hb⟩
                have HB5 := Lib.hid (HB4.out.trans (hb.mono HB4.out.size))
                have HV5 := Lib.hid (HV4.out.below hb HV4.out.lt)
                have HU5 := Lib.hid (HU4.out.below hb HU4.out.lt)
                clear hb
                have hc := Lib.hid (CRy.out w5 HB5.out)
                obtain ⟨k0, k1, k2, k3, k4, k5, k6, k7, k8, -, -⟩ := HU5.out
                go_wp2_with fail
                refine hc.out.mono ?_
                clear hc k0 k1 k2 k3 k4 k5 k6 k7 k8
                rintro e w6 ⟨rfl, hb⟩
                have HB6 := Lib.hid (HB5.out.trans (hb.mono HB5.out.size))
                have HV6 := Lib.hid (HV5.out.below hb HV5.out.lt)
                have HU6 := Lib.hid (HU5.out.below hb HU5.out.lt)
                clear hb
                have hc := Lib.hid (CDx.out w6 HB6.out)
                obtain ⟨k0, k1, k2, k3, k4, k5, k6, k7, k8, -, -⟩ := HV6.out
                go_wp2_with fail
                refine hc.out.mono ?_
                clear hc k0 k1 k2 k3 k4 k5 k6 k7 k8
                rintro e w7 ⟨rfl, hb⟩
                have HB7 := Lib.hid (HB6.out.trans (hb.mono HB6.out.size))
                have HV7 := Lib.hid (HV6.out.below hb HV6.out.lt)
                have HU7 := Lib.hid (HU6.out.below hb HU6.out.lt)
                clear hb
                have hc := Lib.hid (CDy.out w7 HB7.out)
                obtain ⟨k0, k1, k2, k3, k4, k5, k6, k7, k8, -, -⟩ := HU7.out
                go_wp2_with fail
                refine hc.out.mono ?_
                clear hc k0 k1 k2 k3 k4 k5 k6 k7 k8
                rintro e w8 ⟨rfl, hb⟩
                have HB8 := Lib.hid (HB7.out.trans (hb.mono HB7.out.size))
                have HV8 := Lib.hid (HV7.out.below hb HV7.out.lt)
                have HU8 := Lib.hid (HU7.out.below hb HU7.out.lt)
                clear hb
                go_wp2_with fail
                go_ret
                exact ⟨rfl, HB8.out⟩
              · have e1 : ¬ 30 < (x.depth : Int) := by omega
                have e2 : ¬ 30 < (y.depth : Int) := by omega
                have hwr := check_wraps (l := l) hrx hry (by omega) (by omega)
                have C1 : Hid (∀ W, Below w.heap.size w W → Calls Tryz.prog 13 #[.agg #[.int .i64 x.k, .int .i64 x.pos, .string ⟨x.col.toArray⟩, .int .i64 x.v.k, .int .i64 x.v.n, .string x.v.s, .int .u64 x.v.f, .int .i64 x.op, .slice xa xn xc], .slice a n c] W fun e w' => e = .returned (.tuple #[.int .i64 (checkF x l).1, .int .i64 (checkF x l).2]) ∧ Below W.heap.size W w') := Lib.hid fun W hb => check_any W x fx.2.1 _ xa xn xc (Hkx.out.later hb) a n c l (Hf.out.later hb) hn30 Hnc.out hnm
                have C2 : Hid (∀ W, Below w.heap.size w W → Calls Tryz.prog 13 #[.agg #[.int .i64 y.k, .int .i64 y.pos, .string ⟨y.col.toArray⟩, .int .i64 y.v.k, .int .i64 y.v.n, .string y.v.s, .int .u64 y.v.f, .int .i64 y.op, .slice ya yn yc], .slice a n c] W fun e w' => e = .returned (.tuple #[.int .i64 (checkF y l).1, .int .i64 (checkF y l).2]) ∧ Below W.heap.size W w') := Lib.hid fun W hb => check_any W y fy.2.1 _ ya yn yc (Hky.out.later hb) a n c l (Hf.out.later hb) hn30 Hnc.out hnm
                have C4 : Hid (∀ W B, Below w.heap.size w W → KSl W (fun _ => True) [x] (some ⟨B, 0, none⟩) 1 → Calls Tryz.prog 13 #[.agg #[.int .i64 4, .int .i64 0, .string ⟨#[]⟩, .int .i64 0, .int .i64 0, .string ⟨#[]⟩, .int .u64 0, .int .i64 0, .slice (some ⟨B, 0, none⟩) 1 1], .slice a n c] W fun e w' => e = .returned (.tuple #[.int .i64 (checkF (.mk 4 0 [] 0 zeroVal [x]) l).1, .int .i64 (checkF (.mk 4 0 [] 0 zeroVal [x]) l).2]) ∧ Below W.heap.size W w') := Lib.hid fun W B hb hk => check_any W (.mk 4 0 [] 0 zeroVal [x]) (by rw [Tree.sized]; simp only [Tree.sizeds]; simp [fx.2.1, fy.2.1]) _ _ 1 1 hk a n c l (Hf.out.later hb) hn30 Hnc.out hnm
                have C5 : Hid (∀ W B, Below w.heap.size w W → KSl W (fun _ => True) [x, y] (some ⟨B, 0, none⟩) 2 → Calls Tryz.prog 13 #[.agg #[.int .i64 5, .int .i64 0, .string ⟨#[]⟩, .int .i64 0, .int .i64 0, .string ⟨#[]⟩, .int .u64 0, .int .i64 0, .slice (some ⟨B, 0, none⟩) 2 2], .slice a n c] W fun e w' => e = .returned (.tuple #[.int .i64 (checkF (.mk 5 0 [] 0 zeroVal [x, y]) l).1, .int .i64 (checkF (.mk 5 0 [] 0 zeroVal [x, y]) l).2]) ∧ Below W.heap.size W w') := Lib.hid fun W B hb hk => check_any W (.mk 5 0 [] 0 zeroVal [x, y]) (by rw [Tree.sized]; simp only [Tree.sizeds]; simp [fx.2.1, fy.2.1]) _ _ 2 2 hk a n c l (Hf.out.later hb) hn30 Hnc.out hnm
                have C6 : Hid (∀ W B, Below w.heap.size w W → KSl W (fun _ => True) [x, y] (some ⟨B, 0, none⟩) 2 → Calls Tryz.prog 13 #[.agg #[.int .i64 6, .int .i64 0, .string ⟨#[]⟩, .int .i64 0, .int .i64 0, .string ⟨#[]⟩, .int .u64 0, .int .i64 0, .slice (some ⟨B, 0, none⟩) 2 2], .slice a n c] W fun e w' => e = .returned (.tuple #[.int .i64 (checkF (.mk 6 0 [] 0 zeroVal [x, y]) l).1, .int .i64 (checkF (.mk 6 0 [] 0 zeroVal [x, y]) l).2]) ∧ Below W.heap.size W w') := Lib.hid fun W B hb hk => check_any W (.mk 6 0 [] 0 zeroVal [x, y]) (by rw [Tree.sized]; simp only [Tree.sizeds]; simp [fx.2.1, fy.2.1]) _ _ 2 2 hk a n c l (Hf.out.later hb) hn30 Hnc.out hnm
                rw [hwr.1] at C4
                rw [hwr.2.1] at C5
                rw [hwr.2.2] at C6
                generalize (checkF (.mk 4 0 [] 0 zeroVal [x]) l).1 = P4 at C4
                generalize (checkF (.mk 5 0 [] 0 zeroVal [x, y]) l).1 = P5 at C5
                generalize (checkF (.mk 6 0 [] 0 zeroVal [x, y]) l).1 = P6 at C6
                generalize (checkF x l).1 = P1 at C1
                generalize (checkF y l).1 = P2 at C2
                generalize (checkF x l).2 = E1 at C1 C4 C5 C6
                generalize (checkF y l).2 = E2 at C2 C5 C6
                generalize (x.depth : Int) = DX at CDx e1
                generalize (y.depth : Int) = DY at CDy e2
                clear h1 h2 hlg fx fy hnx hny hlf hn30 hnm
                clear hrx hry d1 d2 hwr
                by_cases hE : E1 = 0
                · subst hE
                  simp only [if_true] at C5 C6
                  go_enter Tryz.func6, Tryz.ntmps6
                  go_upto_region 1 with fail
                  generalize hW : World.alloc (World.alloc _ _) _ = w0
                  have hF : Boxes w w0 x y xa xn xc ya yn yc := by rw [← hW]; exact HBX.out
                  clear hW HBX
                  have HV0 := Lib.hid hF.1
                  have HU0 := Lib.hid hF.2.1
                  have HB0 := Lib.hid hF.2.2
                  clear hF
                  have hc := Lib.hid (CF.out w0 HB0.out)
                  go_wp2_with fail
                  refine hc.out.mono ?_
                  clear hc
                  rintro e w1 ⟨rfl, hb⟩
                  have HB1 := Lib.hid (HB0.out.trans (hb.mono HB0.out.size))
                  have HV1 := Lib.hid (HV0.out.below hb HV0.out.lt)
                  have HU1 := Lib.hid (HU0.out.below hb HU0.out.lt)
                  clear hb
                  have hc := Lib.hid (CX.out w1 HB1.out)
                  obtain ⟨k0, k1, k2, k3, k4, k5, k6, k7, k8, -, -⟩ := HV1.out
                  go_wp2_with fail
                  refine hc.out.mono ?_
                  clear hc k0 k1 k2 k3 k4 k5 k6 k7 k8
                  rintro e w2 ⟨rfl, hb⟩
                  have HB2 := Lib.hid (HB1.out.trans (hb.mono HB1.out.size))
                  have HV2 := Lib.hid (HV1.out.below hb HV1.out.lt)
                  have HU2 := Lib.hid (HU1.out.below hb HU1.out.lt)
                  clear hb
                  have hc := Lib.hid (CY.out w2 HB2.out)
                  obtain ⟨k0, k1, k2, k3, k4, k5, k6, k7, k8, -, -⟩ := HU2.out
                  go_wp2_with fail
                  refine hc.out.mono ?_
                  clear hc k0 k1 k2 k3 k4 k5 k6 k7 k8
                  rintro e w3 ⟨rfl, hb⟩
                  have HB3 := Lib.hid (HB2.out.trans (hb.mono HB2.out.size))
                  have HV3 := Lib.hid (HV2.out.below hb HV2.out.lt)
                  have HU3 := Lib.hid (HU2.out.below hb HU2.out.lt)
                  clear hb
                  have hc := Lib.hid (CL.out w3 HB3.out)
                  go_wp2_with fail
                  refine hc.out.mono ?_
                  clear hc
                  rintro e w4 ⟨rfl, hb⟩
                  have HB4 := Lib.hid (HB3.out.trans (hb.mono HB3.out.size))
                  have HV4 := Lib.hid (HV3.out.below hb HV3.out.lt)
                  have HU4 := Lib.hid (HU3.out.below hb HU3.out.lt)
                  clear hb
                  have hc := Lib.hid (CRx.out w4 HB4.out)
                  obtain ⟨k0, k1, k2, k3, k4, k5, k6, k7, k8, -, -⟩ := HV4.out
                  go_wp2_with fail
                  refine hc.out.mono ?_
                  clear hc k0 k1 k2 k3 k4 k5 k6 k7 k8
                  rintro e w5 ⟨rfl, hb⟩
                  have HB5 := Lib.hid (HB4.out.trans (hb.mono HB4.out.size))
                  have HV5 := Lib.hid (HV4.out.below hb HV4.out.lt)
                  have HU5 := Lib.hid (HU4.out.below hb HU4.out.lt)
                  clear hb
                  have hc := Lib.hid (CRy.out w5 HB5.out)
                  obtain ⟨k0, k1, k2, k3, k4, k5, k6, k7, k8, -, -⟩ := HU5.out
                  go_wp2_with fail
                  refine hc.out.mono ?_
                  clear hc k0 k1 k2 k3 k4 k5 k6 k7 k8
                  rintro e w6 ⟨rfl, hb⟩
                  have HB6 := Lib.hid (HB5.out.trans (hb.mono HB5.out.size))
                  have HV6 := Lib.hid (HV5.out.below hb HV5.out.lt)
                  have HU6 := Lib.hid (HU5.out.below hb HU5.out.lt)
                  clear hb
                  have hc := Lib.hid (CDx.out w6 HB6.out)
                  obtain ⟨k0, k1, k2, k3, k4, k5, k6, k7, k8, -, -⟩ := HV6.out
                  go_wp2_with fail
                  refine hc.out.mono ?_
                  clear hc k0 k1 k2 k3 k4 k5 k6 k7 k8
                  rintro e w7 ⟨rfl, hb⟩
                  have HB7 := Lib.hid (HB6.out.trans (hb.mono HB6.out.size))
                  have HV7 := Lib.hid (HV6.out.below hb HV6.out.lt)
                  have HU7 := Lib.hid (HU6.out.below hb HU6.out.lt)
                  clear hb
                  have hc := Lib.hid (CDy.out w7 HB7.out)
                  obtain ⟨k0, k1, k2, k3, k4, k5, k6, k7, k8, -, -⟩ := HU7.out
                  go_wp2_with fail
                  refine hc.out.mono ?_
                  clear hc k0 k1 k2 k3 k4 k5 k6 k7 k8
                  rintro e w8 ⟨rfl, hb⟩
                  have HB8 := Lib.hid (HB7.out.trans (hb.mono HB7.out.size))
                  have HV8 := Lib.hid (HV7.out.below hb HV7.out.lt)
                  have HU8 := Lib.hid (HU7.out.below hb HU7.out.lt)
                  clear hb
                  have hc := Lib.hid (C1.out w8 HB8.out)
                  obtain ⟨k0, k1, k2, k3, k4, k5, k6, k7, k8, -, -⟩ := HV8.out
                  go_wp2_with fail
                  refine hc.out.mono ?_
                  clear hc k0 k1 k2 k3 k4 k5 k6 k7 k8
                  rintro e w9 ⟨rfl, hb⟩
                  have HB9 := Lib.hid (HB8.out.trans (hb.mono HB8.out.size))
                  have HV9 := Lib.hid (HV8.out.below hb HV8.out.lt)
                  have HU9 := Lib.hid (HU8.out.below hb HU8.out.lt)
                  clear hb
                  have hc := Lib.hid (C2.out w9 HB9.out)
                  obtain ⟨k0, k1, k2, k3, k4, k5, k6, k7, k8, -, -⟩ := HU9.out
                  go_wp2_with fail
                  refine hc.out.mono ?_
                  clear hc k0 k1 k2 k3 k4 k5 k6 k7 k8
                  rintro e w10 ⟨rfl, hb⟩
                  have HB10 := Lib.hid (HB9.out.trans (hb.mono HB9.out.size))
                  have HV10 := Lib.hid (HV9.out.below hb HV9.out.lt)
                  have HU10 := Lib.hid (HU9.out.below hb HU9.out.lt)
                  clear hb
                  have hbn := Below.new w10 (.cells (x.cells xa xn xc) 30)
                  have hkn := KSl.fresh1 x xa xn xc 30 (Hkx.out.later HB10.out)
                  have hc := Lib.hid (C4.out _ _ (HB10.out.trans (hbn.mono HB10.out.size)) hkn)
                  have Hbn := Lib.hid hbn
                  clear hbn hkn
                  obtain ⟨k0, k1, k2, k3, k4, k5, k6, k7, k8, -, -⟩ := HV10.out
                  go_wp2_with fail
                  refine hc.out.mono ?_
                  clear hc k0 k1 k2 k3 k4 k5 k6 k7 k8
                  rintro e w11 ⟨rfl, hb0⟩
                  have hb := Hbn.out.trans (hb0.mono Hbn.out.size)
                  have HB11 := Lib.hid (HB10.out.trans (hb.mono HB10.out.size))
                  have HV11 := Lib.hid (HV10.out.below hb HV10.out.lt)
                  have HU11 := Lib.hid (HU10.out.below hb HU10.out.lt)
                  clear hb hb0 Hbn
                  have hbn := Below.new w11 (.cells (x.cells2 xa xn xc y ya yn yc) 30)
                  have hkn := row2 w11 x xa xn xc y ya yn yc 30 (S := fun _ => True) (Hkx.out.later HB11.out) (Hky.out.later HB11.out) trivial
                  have hc := Lib.hid (C5.out _ _ (HB11.out.trans (hbn.mono HB11.out.size)) hkn)
                  have Hbn := Lib.hid hbn
                  clear hbn hkn
                  obtain ⟨k0, k1, k2, k3, k4, k5, k6, k7, k8, -, -⟩ := HV11.out
                  obtain ⟨q0, q1, q2, q3, q4, q5, q6, q7, q8, -, -⟩ := HU11.out
                  go_wp2_with fail
                  refine hc.out.mono ?_
                  clear hc k0 k1 k2 k3 k4 k5 k6 k7 k8 q0 q1 q2 q3 q4 q5 q6 q7 q8
                  rintro e w12 ⟨rfl, hb0⟩
                  have hb := Hbn.out.trans (hb0.mono Hbn.out.size)
                  have HB12 := Lib.hid (HB11.out.trans (hb.mono HB11.out.size))
                  have HV12 := Lib.hid (HV11.out.below hb HV11.out.lt)
                  have HU12 := Lib.hid (HU11.out.below hb HU11.out.lt)
                  clear hb hb0 Hbn
                  have hbn := Below.new w12 (.cells (x.cells2 xa xn xc y ya yn yc) 30)
                  have hkn := row2 w12 x xa xn xc y ya yn yc 30 (S := fun _ => True) (Hkx.out.later HB12.out) (Hky.out.later HB12.out) trivial
                  have hc := Lib.hid (C6.out _ _ (HB12.out.trans (hbn.mono HB12.out.size)) hkn)
                  have Hbn := Lib.hid hbn
                  clear hbn hkn
                  obtain ⟨k0, k1, k2, k3, k4, k5, k6, k7, k8, -, -⟩ := HV12.out
                  obtain ⟨q0, q1, q2, q3, q4, q5, q6, q7, q8, -, -⟩ := HU12.out
                  go_wp2_with fail
                  refine hc.out.mono ?_
                  clear hc k0 k1 k2 k3 k4 k5 k6 k7 k8 q0 q1 q2 q3 q4 q5 q6 q7 q8
                  rintro e w13 ⟨rfl, hb0⟩
                  have hb := Hbn.out.trans (hb0.mono Hbn.out.size)
                  have HB13 := Lib.hid (HB12.out.trans (hb.mono HB12.out.size))
                  have HV13 := Lib.hid (HV12.out.below hb HV12.out.lt)
                  have HU13 := Lib.hid (HU12.out.below hb HU12.out.lt)
                  clear hb hb0 Hbn
                  go_wp2_with fail
                  go_ret
                  exact ⟨rfl, HB13.out⟩
                · rw [if_neg hE] at C5 C6
                  have dE : (E1 == 0) = false := beq_eq_false_iff_ne.2 hE
                  clear hE
                  go_enter Tryz.func6, Tryz.ntmps6
                  go_upto_region 1 with fail
                  generalize hW : World.alloc (World.alloc _ _) _ = w0
                  have hF : Boxes w w0 x y xa xn xc ya yn yc := by rw [← hW]; exact HBX.out
                  clear hW HBX
                  have HV0 := Lib.hid hF.1
                  have HU0 := Lib.hid hF.2.1
                  have HB0 := Lib.hid hF.2.2
                  clear hF
                  have hc := Lib.hid (CF.out w0 HB0.out)
                  go_wp2_with fail
                  refine hc.out.mono ?_
                  clear hc
                  rintro e w1 ⟨rfl, hb⟩
                  have HB1 := Lib.hid (HB0.out.trans (hb.mono HB0.out.size))
                  have HV1 := Lib.hid (HV0.out.below hb HV0.out.lt)
                  have HU1 := Lib.hid (HU0.out.below hb HU0.out.lt)
                  clear hb
                  have hc := Lib.hid (CX.out w1 HB1.out)
                  obtain ⟨k0, k1, k2, k3, k4, k5, k6, k7, k8, -, -⟩ := HV1.out
                  go_wp2_with fail
                  refine hc.out.mono ?_
                  clear hc k0 k1 k2 k3 k4 k5 k6 k7 k8
                  rintro e w2 ⟨rfl, hb⟩
                  have HB2 := Lib.hid (HB1.out.trans (hb.mono HB1.out.size))
                  have HV2 := Lib.hid (HV1.out.below hb HV1.out.lt)
                  have HU2 := Lib.hid (HU1.out.below hb HU1.out.lt)
                  clear hb
                  have hc := Lib.hid (CY.out w2 HB2.out)
                  obtain ⟨k0, k1, k2, k3, k4, k5, k6, k7, k8, -, -⟩ := HU2.out
                  go_wp2_with fail
                  refine hc.out.mono ?_
                  clear hc k0 k1 k2 k3 k4 k5 k6 k7 k8
                  rintro e w3 ⟨rfl, hb⟩
                  have HB3 := Lib.hid (HB2.out.trans (hb.mono HB2.out.size))
                  have HV3 := Lib.hid (HV2.out.below hb HV2.out.lt)
                  have HU3 := Lib.hid (HU2.out.below hb HU2.out.lt)
                  clear hb
                  have hc := Lib.hid (CL.out w3 HB3.out)
                  go_wp2_with fail
                  refine hc.out.mono ?_
                  clear hc
                  rintro e w4 ⟨rfl, hb⟩
                  have HB4 := Lib.hid (HB3.out.trans (hb.mono HB3.out.size))
                  have HV4 := Lib.hid (HV3.out.below hb HV3.out.lt)
                  have HU4 := Lib.hid (HU3.out.below hb HU3.out.lt)
                  clear hb
                  have hc := Lib.hid (CRx.out w4 HB4.out)
                  obtain ⟨k0, k1, k2, k3, k4, k5, k6, k7, k8, -, -⟩ := HV4.out
                  go_wp2_with fail
                  refine hc.out.mono ?_
                  clear hc k0 k1 k2 k3 k4 k5 k6 k7 k8
                  rintro e w5 ⟨rfl, hb⟩
                  have HB5 := Lib.hid (HB4.out.trans (hb.mono HB4.out.size))
                  have HV5 := Lib.hid (HV4.out.below hb HV4.out.lt)
                  have HU5 := Lib.hid (HU4.out.below hb HU4.out.lt)
                  clear hb
                  have hc := Lib.hid (CRy.out w5 HB5.out)
                  obtain ⟨k0, k1, k2, k3, k4, k5, k6, k7, k8, -, -⟩ := HU5.out
                  go_wp2_with fail
                  refine hc.out.mono ?_
                  clear hc k0 k1 k2 k3 k4 k5 k6 k7 k8
                  rintro e w6 ⟨rfl, hb⟩
                  have HB6 := Lib.hid (HB5.out.trans (hb.mono HB5.out.size))
                  have HV6 := Lib.hid (HV5.out.below hb HV5.out.lt)
                  have HU6 := Lib.hid (HU5.out.below hb HU5.out.lt)
                  clear hb
                  have hc := Lib.hid (CDx.out w6 HB6.out)
                  obtain ⟨k0, k1, k2, k3, k4, k5, k6, k7, k8, -, -⟩ := HV6.out
                  go_wp2_with fail
                  refine hc.out.mono ?_
                  clear hc k0 k1 k2 k3 k4 k5 k6 k7 k8
                  rintro e w7 ⟨rfl, hb⟩
                  have HB7 := Lib.hid (HB6.out.trans (hb.mono HB6.out.size))
                  have HV7 := Lib.hid (HV6.out.below hb HV6.out.lt)
                  have HU7 := Lib.hid (HU6.out.below hb HU6.out.lt)
                  clear hb
                  have hc := Lib.hid (CDy.out w7 HB7.out)
                  obtain ⟨k0, k1, k2, k3, k4, k5, k6, k7, k8, -, -⟩ := HU7.out
                  go_wp2_with fail
                  refine hc.out.mono ?_
                  clear hc k0 k1 k2 k3 k4 k5 k6 k7 k8
                  rintro e w8 ⟨rfl, hb⟩
                  have HB8 := Lib.hid (HB7.out.trans (hb.mono HB7.out.size))
                  have HV8 := Lib.hid (HV7.out.below hb HV7.out.lt)
                  have HU8 := Lib.hid (HU7.out.below hb HU7.out.lt)
                  clear hb
                  have hc := Lib.hid (C1.out w8 HB8.out)
                  obtain ⟨k0, k1, k2, k3, k4, k5, k6, k7, k8, -, -⟩ := HV8.out
                  go_wp2_with fail
                  refine hc.out.mono ?_
                  clear hc k0 k1 k2 k3 k4 k5 k6 k7 k8
                  rintro e w9 ⟨rfl, hb⟩
                  have HB9 := Lib.hid (HB8.out.trans (hb.mono HB8.out.size))
                  have HV9 := Lib.hid (HV8.out.below hb HV8.out.lt)
                  have HU9 := Lib.hid (HU8.out.below hb HU8.out.lt)
                  clear hb
                  have hc := Lib.hid (C2.out w9 HB9.out)
                  obtain ⟨k0, k1, k2, k3, k4, k5, k6, k7, k8, -, -⟩ := HU9.out
                  go_wp2_with fail
                  refine hc.out.mono ?_
                  clear hc k0 k1 k2 k3 k4 k5 k6 k7 k8
                  rintro e w10 ⟨rfl, hb⟩
                  have HB10 := Lib.hid (HB9.out.trans (hb.mono HB9.out.size))
                  have HV10 := Lib.hid (HV9.out.below hb HV9.out.lt)
                  have HU10 := Lib.hid (HU9.out.below hb HU9.out.lt)
                  clear hb
                  have hbn := Below.new w10 (.cells (x.cells xa xn xc) 30)
                  have hkn := KSl.fresh1 x xa xn xc 30 (Hkx.out.later HB10.out)
                  have hc := Lib.hid (C4.out _ _ (HB10.out.trans (hbn.mono HB10.out.size)) hkn)
                  have Hbn := Lib.hid hbn
                  clear hbn hkn
                  obtain ⟨k0, k1, k2, k3, k4, k5, k6, k7, k8, -, -⟩ := HV10.out
                  go_wp2_with fail
                  refine hc.out.mono ?_
                  clear hc k0 k1 k2 k3 k4 k5 k6 k7 k8
                  rintro e w11 ⟨rfl, hb0⟩
                  have hb := Hbn.out.trans (hb0.mono Hbn.out.size)
                  have HB11 := Lib.hid (HB10.out.trans (hb.mono HB10.out.size))
                  have HV11 := Lib.hid (HV10.out.below hb HV10.out.lt)
                  have HU11 := Lib.hid (HU10.out.below hb HU10.out.lt)
                  clear hb hb0 Hbn
                  have hbn := Below.new w11 (.cells (x.cells2 xa xn xc y ya yn yc) 30)
                  have hkn := row2 w11 x xa xn xc y ya yn yc 30 (S := fun _ => True) (Hkx.out.later HB11.out) (Hky.out.later HB11.out) trivial
                  have hc := Lib.hid (C5.out _ _ (HB11.out.trans (hbn.mono HB11.out.size)) hkn)
                  have Hbn := Lib.hid hbn
                  clear hbn hkn
                  obtain ⟨k0, k1, k2, k3, k4, k5, k6, k7, k8, -, -⟩ := HV11.out
                  obtain ⟨q0, q1, q2, q3, q4, q5, q6, q7, q8, -, -⟩ := HU11.out
                  go_wp2_with fail
                  refine hc.out.mono ?_
                  clear hc k0 k1 k2 k3 k4 k5 k6 k7 k8 q0 q1 q2 q3 q4 q5 q6 q7 q8
                  rintro e w12 ⟨rfl, hb0⟩
                  have hb := Hbn.out.trans (hb0.mono Hbn.out.size)
                  have HB12 := Lib.hid (HB11.out.trans (hb.mono HB11.out.size))
                  have HV12 := Lib.hid (HV11.out.below hb HV11.out.lt)
                  have HU12 := Lib.hid (HU11.out.below hb HU11.out.lt)
                  clear hb hb0 Hbn
                  have hbn := Below.new w12 (.cells (x.cells2 xa xn xc y ya yn yc) 30)
                  have hkn := row2 w12 x xa xn xc y ya yn yc 30 (S := fun _ => True) (Hkx.out.later HB12.out) (Hky.out.later HB12.out) trivial
                  have hc := Lib.hid (C6.out _ _ (HB12.out.trans (hbn.mono HB12.out.size)) hkn)
                  have Hbn := Lib.hid hbn
                  clear hbn hkn
                  obtain ⟨k0, k1, k2, k3, k4, k5, k6, k7, k8, -, -⟩ := HV12.out
                  obtain ⟨q0, q1, q2, q3, q4, q5, q6, q7, q8, -, -⟩ := HU12.out
                  go_wp2_with fail
                  refine hc.out.mono ?_
                  clear hc k0 k1 k2 k3 k4 k5 k6 k7 k8 q0 q1 q2 q3 q4 q5 q6 q7 q8
                  rintro e w13 ⟨rfl, hb0⟩
                  have hb := Hbn.out.trans (hb0.mono Hbn.out.size)
                  have HB13 := Lib.hid (HB12.out.trans (hb.mono HB12.out.size))
                  have HV13 := Lib.hid (HV12.out.below hb HV12.out.lt)
                  have HU13 := Lib.hid (HU12.out.below hb HU12.out.lt)
                  clear hb hb0 Hbn
                  go_wp2_with fail
                  go_ret
                  exact ⟨rfl, HB13.out⟩
end Go.Proofs.YtfkghfmgeholeaaGreatDoor
