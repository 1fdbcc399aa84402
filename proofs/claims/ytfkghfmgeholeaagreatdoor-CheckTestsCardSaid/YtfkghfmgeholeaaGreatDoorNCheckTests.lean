/- The walk of CheckTests. -/
import Derived.Test.YtfkghfmgeholeaaGreatDoorCf1
import Derived.Test.YtfkghfmgeholeaaGreatDoorCe4
import Derived.Test.YtfkghfmgeholeaaGreatDoorRs0
import Derived.Test.YtfkghfmgeholeaaGreatDoorPt0
set_option linter.unusedVariables false
set_option linter.unusedSimpArgs false
namespace Go.Proofs.YtfkghfmgeholeaaGreatDoor
open Go.RowKit

set_option maxHeartbeats 32000000 in
set_option maxRecDepth 100000 in
theorem checkTests_walk (w : World) (hl : Laid w) (hs : Spc w) (t : Tree) (hw : WfT t) (ta : Option Addr) (tn tc : Nat) (hk : KSl w (fun _ => True) t.kids ta tn) (l : List Fd) (a : Option Addr) (n c : Nat) (hf : FSl w a n l) (hnc : n ≤ c) :
    Calls Tryz.prog 3 #[t.val ta tn tc, .slice a n c] w fun e w' => e = .returned (.bool true) ∧ Below w.heap.size w w' := by
  have Hl := Lib.hid hl; have Hs := Lib.hid hs; have Hk := Lib.hid hk; have Hw := Lib.hid hw; have Hf := Lib.hid hf; have Hnc := Lib.hid hnc
  have CF : Hid (∀ W, Below w.heap.size w W → Calls Tryz.prog 10 #[] W fun e w' => e = .returned (.bool true) ∧ Below W.heap.size W w') := Lib.hid fun W hb => first18_any W (hl.below hb) (hs.below hb)
  have CZ : Hid (∀ W, Below w.heap.size w W → Calls Tryz.prog 11 #[.agg #[.int .i64 t.k, .int .i64 t.pos, .string ⟨t.col.toArray⟩, .int .i64 t.v.k, .int .i64 t.v.n, .string t.v.s, .int .u64 t.v.f, .int .i64 t.op, .slice ta tn tc], .int .i64 60] W fun e w' => e = .returned (.int .i64 (sizeT t 60 : Int)) ∧ Below W.heap.size W w') := Lib.hid fun W hb => size_any 60 (Nat.le_refl _) t W _ ta tn tc (hk.later hb)
  have CL : Hid (∀ W, Below w.heap.size w W → Calls Tryz.prog 12 #[.slice a n c] W fun e w' => e = .returned (.bool (longF l)) ∧ Below W.heap.size W w') := Lib.hid fun W hb => long18_any W a n c l (hf.later hb)
  have HB0 : Hid (Below w.heap.size w (w.alloc (.cells (t.cells ta tn tc) 30))) := Lib.hid (Below.new w _)
  have HV0 := Lib.hid (KVar.new w t ta tn tc 30)
  clear hl hs hk hw hf hnc
  simp only [Tree.val]
  by_cases hbig : 3000 < sizeT t 60
  · have hbi : 3000 < (sizeT t 60 : Int) := by omega
    generalize (sizeT t 60 : Int) = Z at CZ hbi
    clear hbig
    go_enter Tryz.func3, Tryz.ntmps3
    go_upto_region 1 with fail
    generalize hW : World.alloc w _ = w0
    replace HB0 : Hid (Below w.heap.size w w0) := Lib.hid (by rw [← hW]; exact HB0.out)
    replace HV0 : Hid (KVar w0 w.heap.size t ta tn tc) := Lib.hid (by rw [← hW]; exact HV0.out)
    clear hW
    have hc := Lib.hid (CF.out w0 HB0.out)
    go_wp2_with fail
    refine hc.out.mono ?_
    clear hc
    rintro e w1 ⟨rfl, hb⟩
    have HB1 := Lib.hid (HB0.out.trans (hb.mono HB0.out.size))
    have HV1 := Lib.hid (HV0.out.below hb HV0.out.lt)
    clear hb
    have hc := Lib.hid (CZ.out w1 HB1.out)
    obtain ⟨k0, k1, k2, k3, k4, k5, k6, k7, k8, -, -⟩ := HV1.out
    go_wp2_with fail
    refine hc.out.mono ?_
    clear hc k0 k1 k2 k3 k4 k5 k6 k7 k8
    rintro e w2 ⟨rfl, hb⟩
    have HB2 := Lib.hid (HB1.out.trans (hb.mono HB1.out.size))
    have HV2 := Lib.hid (HV1.out.below hb HV1.out.lt)
    clear hb
    go_wp2_with fail
    go_ret
    exact ⟨rfl, HB2.out⟩
  · have hsz := size_facts t 60 (by omega)
    have hnod : t.nodes ≤ 3000 := by have := hsz.1; omega
    have Csized := hsz.2.1
    have hbi : ¬ 3000 < (sizeT t 60 : Int) := by omega
    cases hlg : longF l with
    | true =>
      rw [hlg] at CL
      generalize (sizeT t 60 : Int) = Z at CZ hbi
      clear hbig hsz hnod Csized hlg
      go_enter Tryz.func3, Tryz.ntmps3
      go_upto_region 1 with fail
      generalize hW : World.alloc w _ = w0
      replace HB0 : Hid (Below w.heap.size w w0) := Lib.hid (by rw [← hW]; exact HB0.out)
      replace HV0 : Hid (KVar w0 w.heap.size t ta tn tc) := Lib.hid (by rw [← hW]; exact HV0.out)
      clear hW
      have hc := Lib.hid (CF.out w0 HB0.out)
      go_wp2_with fail
      refine hc.out.mono ?_
      clear hc
      rintro e w1 ⟨rfl, hb⟩
      have HB1 := Lib.hid (HB0.out.trans (hb.mono HB0.out.size))
      have HV1 := Lib.hid (HV0.out.below hb HV0.out.lt)
      clear hb
      have hc := Lib.hid (CZ.out w1 HB1.out)
      obtain ⟨k0, k1, k2, k3, k4, k5, k6, k7, k8, -, -⟩ := HV1.out
      go_wp2_with fail
      refine hc.out.mono ?_
      clear hc k0 k1 k2 k3 k4 k5 k6 k7 k8
      rintro e w2 ⟨rfl, hb⟩
      have HB2 := Lib.hid (HB1.out.trans (hb.mono HB1.out.size))
      have HV2 := Lib.hid (HV1.out.below hb HV1.out.lt)
      clear hb
      have hc := Lib.hid (CL.out w2 HB2.out)
      go_wp2_with fail
      refine hc.out.mono ?_
      clear hc
      rintro e w3 ⟨rfl, hb⟩
      have HB3 := Lib.hid (HB2.out.trans (hb.mono HB2.out.size))
      have HV3 := Lib.hid (HV2.out.below hb HV2.out.lt)
      clear hb
      go_wp2_with fail
      go_ret
      exact ⟨rfl, HB3.out⟩
    | false =>
      have hlf := longF_facts hlg
      have hn30 : n ≤ 100000 := by have := Hf.out.1; omega
      have hnm : ∀ f ∈ l, f.name.length ≤ 100000 := fun f hf => by have := hlf.2 f hf; omega
      rw [hlg] at CL
      have CC : Hid (∀ W, Below w.heap.size w W → Calls Tryz.prog 13 #[.agg #[.int .i64 t.k, .int .i64 t.pos, .string ⟨t.col.toArray⟩, .int .i64 t.v.k, .int .i64 t.v.n, .string t.v.s, .int .u64 t.v.f, .int .i64 t.op, .slice ta tn tc], .slice a n c] W fun e w' => e = .returned (.tuple #[.int .i64 (checkF t l).1, .int .i64 (checkF t l).2]) ∧ Below W.heap.size W w') := Lib.hid fun W hb => check_any W t Csized _ ta tn tc (Hk.out.later hb) a n c l (Hf.out.later hb) hn30 Hnc.out hnm
      have CR : Hid (∀ W, Below w.heap.size w W → Calls Tryz.prog 14 #[.agg #[.int .i64 t.k, .int .i64 t.pos, .string ⟨t.col.toArray⟩, .int .i64 t.v.k, .int .i64 t.v.n, .string t.v.s, .int .u64 t.v.f, .int .i64 t.op, .slice ta tn tc], .slice a n c] W fun e w' => e = .returned (.tuple #[.int .i64 (checkF t l).1, .int .i64 (checkF t l).2]) ∧ Below W.heap.size W w') := Lib.hid fun W hb => checkR_any W t Csized Hw.out (by omega) _ ta tn tc (Hk.out.later hb) a n c l (Hf.out.later hb) hn30 Hnc.out hnm
      generalize (checkF t l).1 = X at CC CR
      generalize (checkF t l).2 = Y at CC CR
      generalize (sizeT t 60 : Int) = Z at CZ hbi
      clear hbig hsz hnod Csized hlg hlf hn30 hnm
      go_enter Tryz.func3, Tryz.ntmps3
      go_upto_region 1 with fail
      generalize hW : World.alloc w _ = w0
      replace HB0 : Hid (Below w.heap.size w w0) := Lib.hid (by rw [← hW]; exact HB0.out)
      replace HV0 : Hid (KVar w0 w.heap.size t ta tn tc) := Lib.hid (by rw [← hW]; exact HV0.out)
      clear hW
      have hc := Lib.hid (CF.out w0 HB0.out)
      go_wp2_with fail
      refine hc.out.mono ?_
      clear hc
      rintro e w1 ⟨rfl, hb⟩
      have HB1 := Lib.hid (HB0.out.trans (hb.mono HB0.out.size))
      have HV1 := Lib.hid (HV0.out.below hb HV0.out.lt)
      clear hb
      have hc := Lib.hid (CZ.out w1 HB1.out)
      obtain ⟨k0, k1, k2, k3, k4, k5, k6, k7, k8, -, -⟩ := HV1.out
      go_wp2_with fail
      refine hc.out.mono ?_
      clear hc k0 k1 k2 k3 k4 k5 k6 k7 k8
      rintro e w2 ⟨rfl, hb⟩
      have HB2 := Lib.hid (HB1.out.trans (hb.mono HB1.out.size))
      have HV2 := Lib.hid (HV1.out.below hb HV1.out.lt)
      clear hb
      have hc := Lib.hid (CL.out w2 HB2.out)
      go_wp2_with fail
      refine hc.out.mono ?_
      clear hc
      rintro e w3 ⟨rfl, hb⟩
      have HB3 := Lib.hid (HB2.out.trans (hb.mono HB2.out.size))
      have HV3 := Lib.hid (HV2.out.below hb HV2.out.lt)
      clear hb
      have hc := Lib.hid (CC.out w3 HB3.out)
      obtain ⟨k0, k1, k2, k3, k4, k5, k6, k7, k8, -, -⟩ := HV3.out
      go_wp2_with fail
      refine hc.out.mono ?_
      clear hc k0 k1 k2 k3 k4 k5 k6 k7 k8
      rintro e w4 ⟨rfl, hb⟩
      have HB4 := Lib.hid (HB3.out.trans (hb.mono HB3.out.size))
      have HV4 := Lib.hid (HV3.out.below hb HV3.out.lt)
      clear hb
      have hc := Lib.hid (CR.out w4 HB4.out)
      obtain ⟨k0, k1, k2, k3, k4, k5, k6, k7, k8, -, -⟩ := HV4.out
      go_wp2_with fail
      refine hc.out.mono ?_
      clear hc k0 k1 k2 k3 k4 k5 k6 k7 k8
      rintro e w5 ⟨rfl, hb⟩
      have HB5 := Lib.hid (HB4.out.trans (hb.mono HB4.out.size))
      have HV5 := Lib.hid (HV4.out.below hb HV4.out.lt)
      clear hb
      go_wp2_with fail
      go_ret
      exact ⟨rfl, HB5.out⟩
end Go.Proofs.YtfkghfmgeholeaaGreatDoor
