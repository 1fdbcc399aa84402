/- The walk of ref18.Check. -/
import Derived.Test.YtfkghfmgeholeaaGreatDoorCe3
import Derived.Test.YtfkghfmgeholeaaGreatDoorCd1
import Derived.Test.YtfkghfmgeholeaaGreatDoorRs1
set_option linter.unusedVariables false
set_option linter.unusedSimpArgs false
namespace Go.Proofs.YtfkghfmgeholeaaGreatDoor
open Go.RowKit

theorem checkF_head {t : Tree} {l : List Fd} (h : rightT 0 t = true) (h2 : fieldsB l = true) : checkF t l = ((faultsL l t).head?).getD (0, 0) := by
  rw [check_good h h2, faults_first h2 t.depth t 0 (Nat.le_refl _) h]
/-- the list of faults as it lies -/
theorem flt_form {w w' : World} {v : Value} {L : List (Int × Int)} (h : RBuf EF w w' v L) : ∃ (a : Option Addr) (m c : Nat), v = .slice a m c ∧ ((m = 0 ∧ L.head? = none) ∨ (0 < m ∧ ∃ (g : Nat) (x y : Int), a = some ⟨g, 0, none⟩ ∧ L.head? = some (x, y) ∧ w'.cell? ⟨g, 0, none⟩ = some (.int .i64 x) ∧ w'.cell? ⟨g, 1, none⟩ = some (.int .i64 y))) := by
  rcases h.form with ⟨rfl, rfl⟩ | ⟨g, c, rfl, hc, h1, h2, h3, h4⟩
  · exact ⟨_, _, _, rfl, .inl ⟨rfl, rfl⟩⟩
  · cases L with
    | nil => exact ⟨_, _, _, rfl, .inl ⟨rfl, rfl⟩⟩
    | cons p L =>
      refine ⟨_, _, _, rfl, .inr ⟨by simp, g, p.1, p.2, rfl, rfl, h4 0 _ rfl, h4 1 _ rfl⟩⟩
set_option maxHeartbeats 16000000 in
set_option maxRecDepth 100000 in
theorem checkR_any (w : World) (t : Tree) (hz : t.sized) (hw : WfT t) (hnod : t.nodes ≤ 100000) (S : Nat → Prop) (ta : Option Addr) (tn tc : Nat) (hk : KSl w S t.kids ta tn) (a : Option Addr) (n c : Nat) (l : List Fd) (hl : FSl w a n l) (hn : n ≤ 100000) (hnc : n ≤ c) (hnm : ∀ f ∈ l, f.name.length ≤ 100000) :
    Calls Tryz.prog 14 #[t.val ta tn tc, .slice a n c] w fun e w' => e = .returned (.tuple #[.int .i64 (checkF t l).1, .int .i64 (checkF t l).2]) ∧ Below w.heap.size w w' := by
  have hb0 := Below.new w (.cells (t.cells ta tn tc) 30)
  have HB0 : Hid (Below w.heap.size w _) := Lib.hid hb0
  have HV0 := Lib.hid (KVar.new w t ta tn tc 30)
  have HR : Hid (∀ W, Below w.heap.size w W → Calls Tryz.prog 19 #[.agg #[.int .i64 t.k, .int .i64 t.pos, .string ⟨t.col.toArray⟩, .int .i64 t.v.k, .int .i64 t.v.n, .string t.v.s, .int .u64 t.v.f, .int .i64 t.op, .slice ta tn tc], .int .i64 0] W fun e w' => e = .returned (.bool (rightT 0 t)) ∧ Below W.heap.size W w') := Lib.hid fun W hb => rightRc_any t hz hw W S ta tn tc (hk.later hb)
  have HF : Hid (∀ W, Below w.heap.size w W → Calls Tryz.prog 17 #[.slice a n c] W fun e w' => e = .returned (.bool (fieldsB l)) ∧ Below W.heap.size W w') := Lib.hid fun W hb => ckFieldsR_any W a n c l (hl.later hb) hn hnc hnm
  have HT : Hid (rightT 0 t = true → ∀ W, Below w.heap.size w W → Calls Tryz.prog 35 #[.agg #[.int .i64 t.k, .int .i64 t.pos, .string ⟨t.col.toArray⟩, .int .i64 t.v.k, .int .i64 t.v.n, .string t.v.s, .int .u64 t.v.f, .int .i64 t.op, .slice ta tn tc], .slice a n c] W fun e w' => FltAns W w' (faultsL l t) e) := Lib.hid fun hr W hb => faults_any l t.nodes hnod t 0 (Nat.le_refl _) hr W S ta tn tc a n c (hk.later hb) (hl.later hb) hn
  have Hbad : Hid (rightT 0 t = false ∨ fieldsB l = false → checkF t l = (0, 2)) := Lib.hid checkF_bad
  have Hok : Hid (rightT 0 t = true → fieldsB l = true → checkF t l = ((faultsL l t).head?).getD (0, 0)) := Lib.hid checkF_head
  clear hz hk hl hn hnc hnm hb0 hw hnod
  generalize checkF t l = Z at Hbad Hok ⊢
  generalize faultsL l t = Y at HT Hok
  generalize rightT 0 t = B at HR HT Hbad Hok
  generalize fieldsB l = F at HF Hbad Hok
  obtain ⟨z1, z2⟩ := Z
  simp only [Tree.val]
  go_enter Tryz.func14, Tryz.ntmps14
  go_upto_region 1 with fail
  generalize hW : World.alloc w _ = W
  replace HB0 : Hid (Below w.heap.size w W) := Lib.hid (by rw [← hW]; exact HB0.out)
  replace HV0 : Hid (KVar W w.heap.size t ta tn tc) := Lib.hid (by rw [← hW]; exact HV0.out)
  clear hW
  obtain ⟨k0, k1, k2, k3, k4, k5, k6, k7, k8, -, -⟩ := HV0.out
  have hc := Lib.hid (HR.out W HB0.out)
  cases B with
  | false =>
    have hz := Hbad.out (.inl rfl)
    injection hz with hz1 hz2
    subst hz1 hz2
    go_wp2_with fail
    refine hc.out.mono ?_
    clear hc
    rintro e w2 ⟨rfl, hb2⟩
    have Hb2 := Lib.hid (HB0.out.trans (hb2.mono HB0.out.size))
    clear hb2
    go_wp2_with fail
    go_ret2
    exact ⟨rfl, Hb2.out⟩
  | true =>
    go_wp2_with fail
    refine hc.out.mono ?_
    clear hc
    rintro e w2 ⟨rfl, hb2⟩
    have Hb2 := Lib.hid (HB0.out.trans (hb2.mono HB0.out.size))
    have HV2 := Lib.hid (HV0.out.below hb2 HV0.out.lt)
    clear hb2 k0 k1 k2 k3 k4 k5 k6 k7 k8
    have hc := Lib.hid (HF.out w2 Hb2.out)
    cases F with
    | false =>
      have hz := Hbad.out (.inr rfl)
      injection hz with hz1 hz2
      subst hz1 hz2
      go_wp2_with fail
      refine hc.out.mono ?_
      clear hc
      rintro e w3 ⟨rfl, hb3⟩
      have Hb3 := Lib.hid (Hb2.out.trans (hb3.mono Hb2.out.size))
      clear hb3
      go_wp2_with fail
      go_ret2
      exact ⟨rfl, Hb3.out⟩
    | true =>
      have HZ := Lib.hid (Hok.out trivial rfl)
      go_wp2_with fail
      refine hc.out.mono ?_
      clear hc
      rintro e w3 ⟨rfl, hb3⟩
      have Hb3 := Lib.hid (Hb2.out.trans (hb3.mono Hb2.out.size))
      have HV3 := Lib.hid (HV2.out.below hb3 HV2.out.lt)
      clear hb3
      obtain ⟨k0, k1, k2, k3, k4, k5, k6, k7, k8, -, -⟩ := HV3.out
      have hc := Lib.hid (HT.out trivial w3 Hb3.out)
      go_wp2_with fail
      refine hc.out.mono ?_
      clear hc
      rintro e w4 ⟨v, rfl, hr4⟩
      have Hb4 := Lib.hid (Hb3.out.trans (hr4.below.mono Hb3.out.size))
      obtain ⟨fa, m, cp, rfl, hf⟩ := flt_form hr4
      clear hr4 k0 k1 k2 k3 k4 k5 k6 k7 k8
      rcases hf with ⟨rfl, hh⟩ | ⟨hm, g, x, y, rfl, hh, c0, c1⟩
      · have hz := HZ.out
        rw [hh] at hz
        injection hz with hz1 hz2
        subst hz1 hz2
        clear hh HZ
        go_wp2_with fail
        go_ret2
        exact ⟨rfl, Hb4.out⟩
      · have hz := HZ.out
        rw [hh] at hz
        injection hz with hz1 hz2
        subst hz1 hz2
        clear hh HZ
        have hm0 : ((m : Int) == 0) = false := beq_eq_false_iff_ne.2 (by omega)
        have hm1 : (0 : Int) < (m : Int) := by omega
        go_upto_region 6 with fail
        go_quiet (fail)
        have Hb6 := Lib.hid (below_drewN Hb4.out nq)
        clear c0 c1
        go_wp2_with fail
        go_ret2
        exact ⟨rfl, Hb6.out⟩
end Go.Proofs.YtfkghfmgeholeaaGreatDoor
