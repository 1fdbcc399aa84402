/- The walk of ParsePrints. -/
import Derived.Test.YthhghlnbpigcjaaGreatDoorYJ8
import Derived.Test.YthhghlnbpigcjaaGreatDoorYJ6
import Derived.Test.YthhghlnbpigcjaaGreatDoorYPk0
import Derived.Test.YthhghlnbpigcjaaGreatDoorYRs0
import Derived.Test.YthhghlnbpigcjaaGreatDoorYRs1
import Derived.Test.YthhghlnbpigcjaaGreatDoorYRs2
import Derived.Test.YthhghlnbpigcjaaGreatDoorYJ7
import Derived.Test.YthhghlnbpigcjaaGreatDoorYJ4
set_option linter.unusedVariables false
set_option linter.unusedSimpArgs false
namespace Go.Proofs.YthhghlnbpigcjaaGreatDoor
open Go.RowKit

set_option maxHeartbeats 32000000 in
set_option maxRecDepth 100000 in
theorem parsePrints_walk (w : World) (hl : Laid w) (hs : Spc w) (t : Tree) (hw : WfT t) (a : Option Addr) (n c : Nat) (hk : KSl w (fun _ => True) t.kids a n) :
    Calls Tryz.prog 5 #[t.val a n c] w fun e w' => e = .returned (.bool true) ∧ Below w.heap.size w w' := by
  have Hl := Lib.hid hl; have Hs := Lib.hid hs; have Hk := Lib.hid hk; have Hw := Lib.hid hw
  have Hf : Hid (∀ W, Below w.heap.size w W → Calls Tryz.prog 9 #[] W fun e w' => e = .returned (.bool true) ∧ Below W.heap.size W w') := Lib.hid fun W hb => first17_any W (hl.below hb) (hs.below hb)
  have Csz : Hid (∀ W, Below w.heap.size w W → Calls Tryz.prog 15 #[.agg #[.int .i64 t.k, .int .i64 t.pos, .string ⟨t.col.toArray⟩, .int .i64 t.v.k, .int .i64 t.v.n, .string t.v.s, .int .u64 t.v.f, .int .i64 t.op, .slice a n c], .int .i64 60] W fun e w' => e = .returned (.int .i64 (sizeT t 60 : Int)) ∧ Below W.heap.size W w') := Lib.hid fun W hb => size_any 60 (Nat.le_refl _) t W _ a n c (hk.later hb)
  have HB0 : Hid (Below w.heap.size w (w.alloc (.cells (t.cells a n c) 31))) := Lib.hid (Below.new w _)
  have HV0 := Lib.hid (KVar.new w t a n c 31)
  clear hl hs hk hw
  simp only [Tree.val]
  by_cases hbig : 3000 < sizeT t 60
  · have hbi : 3000 < (sizeT t 60 : Int) := by omega
    generalize (sizeT t 60 : Int) = Z at Csz hbi
    clear hbig
    go_enter Tryz.func5, Tryz.ntmps5
    go_upto_region 1 with fail
    generalize (w.alloc _) = w0 at HB0 HV0 ⊢
    have hc := Lib.hid (Hf.out w0 HB0.out)
    obtain ⟨k0, k1, k2, k3, k4, k5, k6, k7, k8, -, -⟩ := HV0.out
    go_wp2_with fail
    refine hc.out.mono ?_
    clear hc k0 k1 k2 k3 k4 k5 k6 k7 k8
    rintro e w1 ⟨rfl, hb⟩
    have HB1 := Lib.hid (HB0.out.trans (hb.mono HB0.out.size))
    have HV1 := Lib.hid (HV0.out.below hb HV0.out.lt)
    clear hb
    have hc := Lib.hid (Csz.out w1 HB1.out)
    obtain ⟨k0, k1, k2, k3, k4, k5, k6, k7, k8, -, -⟩ := HV1.out
    go_wp2_with fail
    refine hc.out.mono ?_
    clear hc k0 k1 k2 k3 k4 k5 k6 k7 k8
    rintro e w2 ⟨rfl, hb⟩
    have HB2 := Lib.hid (HB1.out.trans (hb.mono HB1.out.size))
    have HV2 := Lib.hid (HV1.out.below hb HV1.out.lt)
    clear hb
    go_wp2_with fail
    go_ret
    exact ⟨rfl, HB2.out⟩
  · have hsz := size_facts t 60 (by omega)
    have hnod : t.nodes ≤ 3000 := by have := hsz.1; omega
    have Csized := hsz.2.1
    have hbi : ¬ 3000 < (sizeT t 60 : Int) := by omega
    have hpl : rightT 0 t = true → (printT t).length ≤ 1000000 := fun h => by have := (print_facts t.depth t 0 (Nat.le_refl _) h Hw.out).1; omega
    have Cp : Hid (∀ W, Below w.heap.size w W → Calls Tryz.prog 16 #[.agg #[.int .i64 t.k, .int .i64 t.pos, .string ⟨t.col.toArray⟩, .int .i64 t.v.k, .int .i64 t.v.n, .string t.v.s, .int .u64 t.v.f, .int .i64 t.op, .slice a n c]] W fun e w' => e = .returned (.string ⟨(printF t).toArray⟩) ∧ Below W.heap.size W w') := Lib.hid fun W hb => parsePrint_any W (Hl.out.below hb) t Csized Hw.out _ a n c (Hk.out.later hb) hpl
    have Crr : Hid (∀ W, Below w.heap.size w W → Calls Tryz.prog 17 #[.agg #[.int .i64 t.k, .int .i64 t.pos, .string ⟨t.col.toArray⟩, .int .i64 t.v.k, .int .i64 t.v.n, .string t.v.s, .int .u64 t.v.f, .int .i64 t.op, .slice a n c], .int .i64 0] W fun e w' => e = .returned (.bool (rightT 0 t)) ∧ Below W.heap.size W w') := Lib.hid fun W hb => rightRc_any t Csized Hw.out W _ a n c (Hk.out.later hb)
    have Cr : Hid (∀ W, Below w.heap.size w W → Calls Tryz.prog 18 #[.agg #[.int .i64 t.k, .int .i64 t.pos, .string ⟨t.col.toArray⟩, .int .i64 t.v.k, .int .i64 t.v.n, .string t.v.s, .int .u64 t.v.f, .int .i64 t.op, .slice a n c]] W fun e w' => e = .returned (.bool (rightT 0 t)) ∧ Below W.heap.size W w') := Lib.hid fun W hb => parseRight_any W t Csized _ a n c (Hk.out.later hb)
    cases hr : rightT 0 t with
    | false =>
      have hpf : printF t = [] := by unfold printF; rw [hr]; rfl
      rw [hr] at Crr Cr
      rw [hpf] at Cp
      generalize (sizeT t 60 : Int) = Z at Csz hbi
      clear hbig hsz hnod Csized hpl hr hpf
      go_enter Tryz.func5, Tryz.ntmps5
      go_upto_region 1 with fail
      generalize (w.alloc _) = w0 at HB0 HV0 ⊢
      have hc := Lib.hid (Hf.out w0 HB0.out)
      obtain ⟨k0, k1, k2, k3, k4, k5, k6, k7, k8, -, -⟩ := HV0.out
      go_wp2_with fail
      refine hc.out.mono ?_
      clear hc k0 k1 k2 k3 k4 k5 k6 k7 k8
      rintro e w1 ⟨rfl, hb⟩
      have HB1 := Lib.hid (HB0.out.trans (hb.mono HB0.out.size))
      have HV1 := Lib.hid (HV0.out.below hb HV0.out.lt)
      clear hb
      have hc := Lib.hid (Csz.out w1 HB1.out)
      obtain ⟨k0, k1, k2, k3, k4, k5, k6, k7, k8, -, -⟩ := HV1.out
      go_wp2_with fail
      refine hc.out.mono ?_
      clear hc k0 k1 k2 k3 k4 k5 k6 k7 k8
      rintro e w2 ⟨rfl, hb⟩
      have HB2 := Lib.hid (HB1.out.trans (hb.mono HB1.out.size))
      have HV2 := Lib.hid (HV1.out.below hb HV1.out.lt)
      clear hb
      have hc := Lib.hid (Cp.out w2 HB2.out)
      obtain ⟨k0, k1, k2, k3, k4, k5, k6, k7, k8, -, -⟩ := HV2.out
      go_wp2_with fail
      refine hc.out.mono ?_
      clear hc k0 k1 k2 k3 k4 k5 k6 k7 k8
      rintro e w3 ⟨rfl, hb⟩
      have HB3 := Lib.hid (HB2.out.trans (hb.mono HB2.out.size))
      have HV3 := Lib.hid (HV2.out.below hb HV2.out.lt)
      clear hb
      have hc := Lib.hid (Crr.out w3 HB3.out)
      obtain ⟨k0, k1, k2, k3, k4, k5, k6, k7, k8, -, -⟩ := HV3.out
      go_wp2_with fail
      refine hc.out.mono ?_
      clear hc k0 k1 k2 k3 k4 k5 k6 k7 k8
      rintro e w4 ⟨rfl, hb⟩
      have HB4 := Lib.hid (HB3.out.trans (hb.mono HB3.out.size))
      have HV4 := Lib.hid (HV3.out.below hb HV3.out.lt)
      clear hb
      have hc := Lib.hid (Cr.out w4 HB4.out)
      obtain ⟨k0, k1, k2, k3, k4, k5, k6, k7, k8, -, -⟩ := HV4.out
      go_wp2_with fail
      refine hc.out.mono ?_
      clear hc k0 k1 k2 k3 k4 k5 k6 k7 k8
      rintro e w5 ⟨rfl, hb⟩
      have HB5 := Lib.hid (HB4.out.trans (hb.mono HB4.out.size))
      have HV5 := Lib.hid (HV4.out.below hb HV4.out.lt)
      clear hb
      go_wp2_with fail
      go_ret
      exact ⟨rfl, HB5.out⟩
    | true =>
      have hpf : printF t = printT t := by unfold printF; rw [hr, if_pos rfl]
      have Hr := Lib.hid hr
      have Hpl := Lib.hid (hpl hr)
      rw [hr] at Crr Cr
      rw [hpf] at Cp
      have Cpr : Hid (∀ W, Below w.heap.size w W → Calls Tryz.prog 19 #[.agg #[.int .i64 t.k, .int .i64 t.pos, .string ⟨t.col.toArray⟩, .int .i64 t.v.k, .int .i64 t.v.n, .string t.v.s, .int .u64 t.v.f, .int .i64 t.op, .slice a n c]] W fun e w' => e = .returned (.string ⟨(printT t).toArray⟩) ∧ Below W.heap.size W w') := Lib.hid fun W hb => printRc_any t.depth t 0 (Nat.le_refl _) hr Hw.out (hpl hr) W _ a n c (Hk.out.later hb)
      obtain ⟨x, p, er, hp, hor⟩ := parseF_err (printT t)
      have hxn : x.nodes ≤ 1000000 := by
        rcases hor with rfl | ⟨-, rfl⟩
        · have := parseF_good hp; omega
        · decide
      have Hsx : Hid (er = 0 → sameT false x t = true) := Lib.hid fun h => by subst h; exact (parse_again hr Hw.out hp).1
      have L1 : Hid (∀ W, Below w.heap.size w W → Calls Tryz.prog 10 #[.string ⟨(printT t).toArray⟩] W fun e w' => ParseAns W w' (x, p, er) e) := Lib.hid fun W hb => by
        have := pparse_any W (Hl.out.below hb) (Hs.out.below hb) ⟨(printT t).toArray⟩
        rw [show (⟨(printT t).toArray⟩ : ByteArray).data.toList = printT t from rfl, hp] at this
        exact this
      have L2 : Hid (∀ W, Below w.heap.size w W → Calls Tryz.prog 11 #[.string ⟨(printT t).toArray⟩] W fun e w' => ParseRAns W w' (x, p, er) e) := Lib.hid fun W hb => by
        have := refParse_all W (Hl.out.below hb) ⟨(printT t).toArray⟩
        rw [show (⟨(printT t).toArray⟩ : ByteArray).data.toList = printT t from rfl, hp] at this
        exact this
      have hne : printT t ≠ [] := (print_facts t.depth t 0 (Nat.le_refl _) hr Hw.out).2.2
      generalize (sizeT t 60 : Int) = Z at Csz hbi
      generalize printT t = P at Cp Cpr L1 L2 hne
      have Hxn := Lib.hid hxn
      clear hbig hsz hnod Csized hpl hr hpf hp hxn hne
      rcases hor with rfl | ⟨rfl, -⟩
      · have Hsx1 := Lib.hid (Hsx.out rfl)
        go_enter Tryz.func5, Tryz.ntmps5
        go_upto_region 1 with fail
        generalize (w.alloc _) = w0 at HB0 HV0 ⊢
        have hc := Lib.hid (Hf.out w0 HB0.out)
        obtain ⟨k0, k1, k2, k3, k4, k5, k6, k7, k8, -, -⟩ := HV0.out
        go_wp2_with fail
        refine hc.out.mono ?_
        clear hc k0 k1 k2 k3 k4 k5 k6 k7 k8
        rintro e w1 ⟨rfl, hb⟩
        have HB1 := Lib.hid (HB0.out.trans (hb.mono HB0.out.size))
        have HV1 := Lib.hid (HV0.out.below hb HV0.out.lt)
        clear hb
        have hc := Lib.hid (Csz.out w1 HB1.out)
        obtain ⟨k0, k1, k2, k3, k4, k5, k6, k7, k8, -, -⟩ := HV1.out
        go_wp2_with fail
        refine hc.out.mono ?_
        clear hc k0 k1 k2 k3 k4 k5 k6 k7 k8
        rintro e w2 ⟨rfl, hb⟩
        have HB2 := Lib.hid (HB1.out.trans (hb.mono HB1.out.size))
        have HV2 := Lib.hid (HV1.out.below hb HV1.out.lt)
        clear hb
        have hc := Lib.hid (Cp.out w2 HB2.out)
        obtain ⟨k0, k1, k2, k3, k4, k5, k6, k7, k8, -, -⟩ := HV2.out
        go_wp2_with fail
        refine hc.out.mono ?_
        clear hc k0 k1 k2 k3 k4 k5 k6 k7 k8
        rintro e w3 ⟨rfl, hb⟩
        have HB3 := Lib.hid (HB2.out.trans (hb.mono HB2.out.size))
        have HV3 := Lib.hid (HV2.out.below hb HV2.out.lt)
        clear hb
        have hc := Lib.hid (Crr.out w3 HB3.out)
        obtain ⟨k0, k1, k2, k3, k4, k5, k6, k7, k8, -, -⟩ := HV3.out
        go_wp2_with fail
        refine hc.out.mono ?_
        clear hc k0 k1 k2 k3 k4 k5 k6 k7 k8
        rintro e w4 ⟨rfl, hb⟩
        have HB4 := Lib.hid (HB3.out.trans (hb.mono HB3.out.size))
        have HV4 := Lib.hid (HV3.out.below hb HV3.out.lt)
        clear hb
        have hc := Lib.hid (L1.out w4 HB4.out)
        go_wp2_with fail
        refine hc.out.mono ?_
        clear hc
        rintro e w5 ⟨hb, xa, xn, xc, rfl, hxk⟩
        have HB5 := Lib.hid (HB4.out.trans (hb.mono HB4.out.size))
        have HV5 := Lib.hid (HV4.out.below hb HV4.out.lt)
        have HX5 := Lib.hid (hxk.mono HB4.out.size)
        clear hb hxk
        simp only [Tree.val]
        go_upto_region 9 with fail
        generalize hW : World.alloc w5 _ = w6
        have hbn : Below w5.heap.size w5 w6 := by rw [← hW]; exact Below.new _ _
        have HU6 : Hid (KVar w6 w5.heap.size x xa xn xc) := Lib.hid (by rw [← hW]; exact KVar.new w5 x xa xn xc _)
        have HB6 := Lib.hid (HB5.out.trans (hbn.mono HB5.out.size))
        have HV6 := Lib.hid (HV5.out.below hbn HV5.out.lt)
        have HX6 := Lib.hid (HX5.out.later hbn)
        clear hW hbn
        have hc := Lib.hid (L2.out w6 HB6.out)
        go_wp2_with fail
        refine hc.out.mono ?_
        clear hc
        rintro e w7 ⟨hb, ya, yn, yc, rfl, hyk⟩
        have HB7 := Lib.hid (HB6.out.trans (hb.mono HB6.out.size))
        have HV7 := Lib.hid (HV6.out.below hb HV6.out.lt)
        have HU7 := Lib.hid (HU6.out.below hb HU6.out.lt)
        have HX7 := Lib.hid (HX6.out.later hb)
        have HY7 := Lib.hid (hyk.mono HB6.out.size)
        clear hb hyk
        simp only [Tree.val]
        go_upto_region 10 with fail
        generalize hW : World.alloc w7 _ = w8
        have hbn : Below w7.heap.size w7 w8 := by rw [← hW]; exact Below.new _ _
        have HT8 : Hid (KVar w8 w7.heap.size x ya yn yc) := Lib.hid (by rw [← hW]; exact KVar.new w7 x ya yn yc _)
        have HB8 := Lib.hid (HB7.out.trans (hbn.mono HB7.out.size))
        have HV8 := Lib.hid (HV7.out.below hbn HV7.out.lt)
        have HU8 := Lib.hid (HU7.out.below hbn HU7.out.lt)
        have HX8 := Lib.hid (HX7.out.later hbn)
        have HY8 := Lib.hid (HY7.out.later hbn)
        clear hW hbn
        generalize w5.heap.size = A5 at HU8 ⊢
        generalize w7.heap.size = A7 at HT8 ⊢
        have S1 : Hid (∀ W, Below w8.heap.size w8 W → Calls Tryz.prog 12 #[.agg #[.int .i64 x.k, .int .i64 x.pos, .string ⟨x.col.toArray⟩, .int .i64 x.v.k, .int .i64 x.v.n, .string x.v.s, .int .u64 x.v.f, .int .i64 x.op, .slice xa xn xc], .agg #[.int .i64 t.k, .int .i64 t.pos, .string ⟨t.col.toArray⟩, .int .i64 t.v.k, .int .i64 t.v.n, .string t.v.s, .int .u64 t.v.f, .int .i64 t.op, .slice a n c], .bool false] W fun e w' => e = .returned (.bool true) ∧ Below W.heap.size W w') := Lib.hid fun W hb => by
          have := sameR_any false 1000000 (Nat.le_refl _) x t Hxn.out W _ _ xa xn xc a n c (HX8.out.later hb) (Hk.out.later (HB8.out.trans (hb.mono HB8.out.size)))
          rw [Hsx1.out] at this
          exact this
        have S2 : Hid (∀ W, Below w8.heap.size w8 W → Calls Tryz.prog 12 #[.agg #[.int .i64 x.k, .int .i64 x.pos, .string ⟨x.col.toArray⟩, .int .i64 x.v.k, .int .i64 x.v.n, .string x.v.s, .int .u64 x.v.f, .int .i64 x.op, .slice xa xn xc], .agg #[.int .i64 x.k, .int .i64 x.pos, .string ⟨x.col.toArray⟩, .int .i64 x.v.k, .int .i64 x.v.n, .string x.v.s, .int .u64 x.v.f, .int .i64 x.op, .slice ya yn yc], .bool true] W fun e w' => e = .returned (.bool true) ∧ Below W.heap.size W w') := Lib.hid fun W hb => by
          have := sameR_any true 1000000 (Nat.le_refl _) x x Hxn.out W _ _ xa xn xc ya yn yc (HX8.out.later hb) (HY8.out.later hb)
          rw [same_self] at this
          exact this
        have HR8 : Hid (Below w8.heap.size w8 w8) := Lib.hid (Below.refl _ _)
        have hc := Lib.hid (Cr.out w8 HB8.out)
        obtain ⟨k0, k1, k2, k3, k4, k5, k6, k7, k8, -, -⟩ := HV8.out
        obtain ⟨x0, x1, x2, x3, x4, x5, x6, x7, x8, -, -⟩ := HU8.out
        obtain ⟨y0, y1, y2, y3, y4, y5, y6, y7, y8, -, -⟩ := HT8.out
        go_wp2_with fail
        refine hc.out.mono ?_
        clear hc k0 k1 k2 k3 k4 k5 k6 k7 k8 x0 x1 x2 x3 x4 x5 x6 x7 x8 y0 y1 y2 y3 y4 y5 y6 y7 y8
        rintro e w9 ⟨rfl, hb⟩
        have HB9 := Lib.hid (HB8.out.trans (hb.mono HB8.out.size))
        have HV9 := Lib.hid (HV8.out.below hb HV8.out.lt)
        have HU9 := Lib.hid (HU8.out.below hb HU8.out.lt)
        have HT9 := Lib.hid (HT8.out.below hb HT8.out.lt)
        have HR9 := Lib.hid (HR8.out.trans (hb.mono HR8.out.size))
        clear hb
        have hc := Lib.hid (Cpr.out w9 HB9.out)
        obtain ⟨k0, k1, k2, k3, k4, k5, k6, k7, k8, -, -⟩ := HV9.out
        obtain ⟨x0, x1, x2, x3, x4, x5, x6, x7, x8, -, -⟩ := HU9.out
        obtain ⟨y0, y1, y2, y3, y4, y5, y6, y7, y8, -, -⟩ := HT9.out
        go_wp2_with fail
        refine hc.out.mono ?_
        clear hc k0 k1 k2 k3 k4 k5 k6 k7 k8 x0 x1 x2 x3 x4 x5 x6 x7 x8 y0 y1 y2 y3 y4 y5 y6 y7 y8
        rintro e w10 ⟨rfl, hb⟩
        have HB10 := Lib.hid (HB9.out.trans (hb.mono HB9.out.size))
        have HV10 := Lib.hid (HV9.out.below hb HV9.out.lt)
        have HU10 := Lib.hid (HU9.out.below hb HU9.out.lt)
        have HT10 := Lib.hid (HT9.out.below hb HT9.out.lt)
        have HR10 := Lib.hid (HR9.out.trans (hb.mono HR9.out.size))
        clear hb
        have hc := Lib.hid (S1.out w10 HR10.out)
        obtain ⟨k0, k1, k2, k3, k4, k5, k6, k7, k8, -, -⟩ := HV10.out
        obtain ⟨x0, x1, x2, x3, x4, x5, x6, x7, x8, -, -⟩ := HU10.out
        obtain ⟨y0, y1, y2, y3, y4, y5, y6, y7, y8, -, -⟩ := HT10.out
        go_wp2_with fail
        refine hc.out.mono ?_
        clear hc k0 k1 k2 k3 k4 k5 k6 k7 k8 x0 x1 x2 x3 x4 x5 x6 x7 x8 y0 y1 y2 y3 y4 y5 y6 y7 y8
        rintro e w11 ⟨rfl, hb⟩
        have HB11 := Lib.hid (HB10.out.trans (hb.mono HB10.out.size))
        have HV11 := Lib.hid (HV10.out.below hb HV10.out.lt)
        have HU11 := Lib.hid (HU10.out.below hb HU10.out.lt)
        have HT11 := Lib.hid (HT10.out.below hb HT10.out.lt)
        have HR11 := Lib.hid (HR10.out.trans (hb.mono HR10.out.size))
        clear hb
        have hc := Lib.hid (S2.out w11 HR11.out)
        obtain ⟨k0, k1, k2, k3, k4, k5, k6, k7, k8, -, -⟩ := HV11.out
        obtain ⟨x0, x1, x2, x3, x4, x5, x6, x7, x8, -, -⟩ := HU11.out
        obtain ⟨y0, y1, y2, y3, y4, y5, y6, y7, y8, -, -⟩ := HT11.out
        go_wp2_with fail
        refine hc.out.mono ?_
        clear hc k0 k1 k2 k3 k4 k5 k6 k7 k8 x0 x1 x2 x3 x4 x5 x6 x7 x8 y0 y1 y2 y3 y4 y5 y6 y7 y8
        rintro e w12 ⟨rfl, hb⟩
        have HB12 := Lib.hid (HB11.out.trans (hb.mono HB11.out.size))
        have HV12 := Lib.hid (HV11.out.below hb HV11.out.lt)
        have HU12 := Lib.hid (HU11.out.below hb HU11.out.lt)
        have HT12 := Lib.hid (HT11.out.below hb HT11.out.lt)
        have HR12 := Lib.hid (HR11.out.trans (hb.mono HR11.out.size))
        clear hb
        go_wp2_with fail
        go_ret
        exact ⟨rfl, HB12.out⟩
      · go_enter Tryz.func5, Tryz.ntmps5
        go_upto_region 1 with fail
        generalize (w.alloc _) = w0 at HB0 HV0 ⊢
        have hc := Lib.hid (Hf.out w0 HB0.out)
        obtain ⟨k0, k1, k2, k3, k4, k5, k6, k7, k8, -, -⟩ := HV0.out
        go_wp2_with fail
        refine hc.out.mono ?_
        clear hc k0 k1 k2 k3 k4 k5 k6 k7 k8
        rintro e w1 ⟨rfl, hb⟩
        have HB1 := Lib.hid (HB0.out.trans (hb.mono HB0.out.size))
        have HV1 := Lib.hid (HV0.out.below hb HV0.out.lt)
        clear hb
        have hc := Lib.hid (Csz.out w1 HB1.out)
        obtain ⟨k0, k1, k2, k3, k4, k5, k6, k7, k8, -, -⟩ := HV1.out
        go_wp2_with fail
        refine hc.out.mono ?_
        clear hc k0 k1 k2 k3 k4 k5 k6 k7 k8
        rintro e w2 ⟨rfl, hb⟩
        have HB2 := Lib.hid (HB1.out.trans (hb.mono HB1.out.size))
        have HV2 := Lib.hid (HV1.out.below hb HV1.out.lt)
        clear hb
        have hc := Lib.hid (Cp.out w2 HB2.out)
        obtain ⟨k0, k1, k2, k3, k4, k5, k6, k7, k8, -, -⟩ := HV2.out
        go_wp2_with fail
        refine hc.out.mono ?_
        clear hc k0 k1 k2 k3 k4 k5 k6 k7 k8
        rintro e w3 ⟨rfl, hb⟩
        have HB3 := Lib.hid (HB2.out.trans (hb.mono HB2.out.size))
        have HV3 := Lib.hid (HV2.out.below hb HV2.out.lt)
        clear hb
        have hc := Lib.hid (Crr.out w3 HB3.out)
        obtain ⟨k0, k1, k2, k3, k4, k5, k6, k7, k8, -, -⟩ := HV3.out
        go_wp2_with fail
        refine hc.out.mono ?_
        clear hc k0 k1 k2 k3 k4 k5 k6 k7 k8
        rintro e w4 ⟨rfl, hb⟩
        have HB4 := Lib.hid (HB3.out.trans (hb.mono HB3.out.size))
        have HV4 := Lib.hid (HV3.out.below hb HV3.out.lt)
        clear hb
        have hc := Lib.hid (L1.out w4 HB4.out)
        go_wp2_with fail
        refine hc.out.mono ?_
        clear hc
        rintro e w5 ⟨hb, xa, xn, xc, rfl, hxk⟩
        have HB5 := Lib.hid (HB4.out.trans (hb.mono HB4.out.size))
        have HV5 := Lib.hid (HV4.out.below hb HV4.out.lt)
        have HX5 := Lib.hid (hxk.mono HB4.out.size)
        clear hb hxk
        simp only [Tree.val]
        go_upto_region 9 with fail
        generalize hW : World.alloc w5 _ = w6
        have hbn : Below w5.heap.size w5 w6 := by rw [← hW]; exact Below.new _ _
        have HU6 : Hid (KVar w6 w5.heap.size x xa xn xc) := Lib.hid (by rw [← hW]; exact KVar.new w5 x xa xn xc _)
        have HB6 := Lib.hid (HB5.out.trans (hbn.mono HB5.out.size))
        have HV6 := Lib.hid (HV5.out.below hbn HV5.out.lt)
        have HX6 := Lib.hid (HX5.out.later hbn)
        clear hW hbn
        have hc := Lib.hid (L2.out w6 HB6.out)
        go_wp2_with fail
        refine hc.out.mono ?_
        clear hc
        rintro e w7 ⟨hb, ya, yn, yc, rfl, hyk⟩
        have HB7 := Lib.hid (HB6.out.trans (hb.mono HB6.out.size))
        have HV7 := Lib.hid (HV6.out.below hb HV6.out.lt)
        have HU7 := Lib.hid (HU6.out.below hb HU6.out.lt)
        have HX7 := Lib.hid (HX6.out.later hb)
        have HY7 := Lib.hid (hyk.mono HB6.out.size)
        clear hb hyk
        simp only [Tree.val]
        go_upto_region 10 with fail
        generalize hW : World.alloc w7 _ = w8
        have hbn : Below w7.heap.size w7 w8 := by rw [← hW]; exact Below.new _ _
        have HT8 : Hid (KVar w8 w7.heap.size x ya yn yc) := Lib.hid (by rw [← hW]; exact KVar.new w7 x ya yn yc _)
        have HB8 := Lib.hid (HB7.out.trans (hbn.mono HB7.out.size))
        have HV8 := Lib.hid (HV7.out.below hbn HV7.out.lt)
        have HU8 := Lib.hid (HU7.out.below hbn HU7.out.lt)
        have HX8 := Lib.hid (HX7.out.later hbn)
        have HY8 := Lib.hid (HY7.out.later hbn)
        clear hW hbn
        generalize w5.heap.size = A5 at HU8 ⊢
        generalize w7.heap.size = A7 at HT8 ⊢
        have hc := Lib.hid (Cr.out w8 HB8.out)
        obtain ⟨k0, k1, k2, k3, k4, k5, k6, k7, k8, -, -⟩ := HV8.out
        go_wp2_with fail
        refine hc.out.mono ?_
        clear hc k0 k1 k2 k3 k4 k5 k6 k7 k8
        rintro e w9 ⟨rfl, hb⟩
        have HB9 := Lib.hid (HB8.out.trans (hb.mono HB8.out.size))
        have HV9 := Lib.hid (HV8.out.below hb HV8.out.lt)
        clear hb
        have hc := Lib.hid (Cpr.out w9 HB9.out)
        obtain ⟨k0, k1, k2, k3, k4, k5, k6, k7, k8, -, -⟩ := HV9.out
        go_wp2_with fail
        refine hc.out.mono ?_
        clear hc k0 k1 k2 k3 k4 k5 k6 k7 k8
        rintro e w10 ⟨rfl, hb⟩
        have HB10 := Lib.hid (HB9.out.trans (hb.mono HB9.out.size))
        have HV10 := Lib.hid (HV9.out.below hb HV9.out.lt)
        clear hb
        go_wp2_with fail
        go_ret
        exact ⟨rfl, HB10.out⟩
end Go.Proofs.YthhghlnbpigcjaaGreatDoor
