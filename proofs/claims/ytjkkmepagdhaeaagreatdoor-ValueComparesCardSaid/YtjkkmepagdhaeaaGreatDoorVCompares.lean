/- The walk of ValueCompares. -/
import Derived.Test.YtjkkmepagdhaeaaGreatDoorVr2
set_option linter.unusedVariables false
set_option linter.unusedSimpArgs false
namespace Go.Proofs.YtjkkmepagdhaeaaGreatDoor
open Go.RowKit

set_option maxHeartbeats 8000000 in
set_option maxRecDepth 100000 in
theorem comparesV_walk (w : World) (hl : Laid w) (a b : Val) (ha : a.Wf) (hb : b.Wf) :
    Calls Tryz.prog 3 #[a.v, b.v] w fun e w' => e = .returned (.bool true) ∧ Below w.heap.size w w' := by
  have Hl := Lib.hid hl; clear hl
  have Hd := Lib.hid (Duo.new w a b)
  have Hc : Hid (∀ W : World, Calls Tryz.prog 14 #[a.v, b.v] W fun e w' => e = .returned (.tuple #[.int .i64 (cmpRi (rightOf a) (rightOf b)), .bool (cmpXb (rightOf a) (rightOf b))]) ∧ Below W.heap.size W w') := Lib.hid fun W => by
    have := compareV_any W a b
    rwa [cmpX_eq (rightC a) (rightC b)] at this
  have Hr : Hid (∀ W : World, Calls Tryz.prog 15 #[a.v, b.v] W fun e w' => e = .returned (.tuple #[.int .i64 (cmpRi (rightOf a) (rightOf b)), .bool (cmpXb (rightOf a) (rightOf b))]) ∧ Below W.heap.size W w') := Lib.hid fun W => compareVR_any W a b ha hb
  have Ho : Hid (∀ W : World, Calls Tryz.prog 16 #[a.v, b.v] W fun e w' => e = .returned (.int .i64 (ordRi (rightOf a) (rightOf b))) ∧ Below W.heap.size W w') := Lib.hid fun W => by
    have := orderV_any W a b ha.f0 ha.f1 hb.f0 hb.f1
    rwa [ordX_eq (rightC a) (rightC b)] at this
  have Hq : Hid (∀ W : World, Calls Tryz.prog 17 #[a.v, b.v] W fun e w' => e = .returned (.int .i64 (ordRi (rightOf a) (rightOf b))) ∧ Below W.heap.size W w') := Lib.hid fun W => orderVR_any W a b ha hb
  have Hs : Hid (∀ W : World, Calls Tryz.prog 18 #[a.v] W fun e w' => e = .returned (.bool (rightB a)) ∧ Below W.heap.size W w') := Lib.hid fun W => right_any W a
  have Ht : Hid (∀ W : World, Calls Tryz.prog 19 #[a.v] W fun e w' => e = .returned (.bool (rightB a)) ∧ Below W.heap.size W w') := Lib.hid fun W => rightR_any W a ha.f0 ha.f1
  generalize cmpRi (rightOf a) (rightOf b) = c at *
  generalize cmpXb (rightOf a) (rightOf b) = ok at *
  generalize ordRi (rightOf a) (rightOf b) = o at *
  generalize rightB a = r at *
  obtain ⟨ak, an, sa, af⟩ := a
  obtain ⟨bk, bn, sb, bf⟩ := b
  clear ha hb
  simp only [Val.v] at Hc Hr Ho Hq Hs Ht
  go_enter Tryz.func3, Tryz.ntmps3
  go_wp2_with fail
  generalize World.alloc (World.alloc w _) _ = W0 at Hd ⊢
  generalize hA : w.heap.size = A at *
  refine (firstV_any W0 (Hl.out.below (by rw [hA]; exact Hd.out.bel))).mono ?_
  rintro e w1 ⟨rfl, hb⟩
  have D1 := Lib.hid (Hd.out.below hb)
  clear hb Hl Hd
  obtain ⟨a0, a1, a2, a3, -, -⟩ := D1.out.one
  obtain ⟨b0, b1, b2, b3, -, -⟩ := D1.out.two
  simp only at a0 a1 a2 a3 b0 b1 b2 b3
  by_cases hs : 1000 < max (sa.size : Int) (sb.size : Int)
  · go_wp2_with fail
    go_ret
    exact ⟨rfl, by rw [hA]; exact D1.out.bel⟩
  · go_wp2_with fail
    refine (Hc.out w1).mono ?_
    rintro e w2 ⟨rfl, hb⟩
    have D2 := Lib.hid (D1.out.below hb)
    clear hb D1 a0 a1 a2 a3 b0 b1 b2 b3
    obtain ⟨a0, a1, a2, a3, -, -⟩ := D2.out.one
    obtain ⟨b0, b1, b2, b3, -, -⟩ := D2.out.two
    simp only at a0 a1 a2 a3 b0 b1 b2 b3
    go_wp2_with fail
    refine (Hr.out w2).mono ?_
    rintro e w3 ⟨rfl, hb⟩
    have D3 := Lib.hid (D2.out.below hb)
    clear hb D2 a0 a1 a2 a3 b0 b1 b2 b3 Hc Hr
    have d3 := D3.out
    obtain ⟨a0, a1, a2, a3, -, -⟩ := D3.out.one
    obtain ⟨b0, b1, b2, b3, -, -⟩ := D3.out.two
    simp only at a0 a1 a2 a3 b0 b1 b2 b3
    have Ho2 : Hid (∀ W, Duo w W A ⟨ak, an, sa, af⟩ ⟨bk, bn, sb, bf⟩ → Calls Tryz.prog 16 #[.agg #[.int .i64 ak, .int .i64 an, .string sa, .int .u64 af], .agg #[.int .i64 bk, .int .i64 bn, .string sb, .int .u64 bf]] W fun e w' => e = .returned (.int .i64 o) ∧ Duo w w' A ⟨ak, an, sa, af⟩ ⟨bk, bn, sb, bf⟩) := Lib.hid fun W h => (Ho.out W).mono fun e w' q => ⟨q.1, h.below q.2⟩
    have Hq2 : Hid (∀ W, Duo w W A ⟨ak, an, sa, af⟩ ⟨bk, bn, sb, bf⟩ → Calls Tryz.prog 17 #[.agg #[.int .i64 ak, .int .i64 an, .string sa, .int .u64 af], .agg #[.int .i64 bk, .int .i64 bn, .string sb, .int .u64 bf]] W fun e w' => e = .returned (.int .i64 o) ∧ Duo w w' A ⟨ak, an, sa, af⟩ ⟨bk, bn, sb, bf⟩) := Lib.hid fun W h => (Hq.out W).mono fun e w' q => ⟨q.1, h.below q.2⟩
    have Hs2 : Hid (∀ W, Duo w W A ⟨ak, an, sa, af⟩ ⟨bk, bn, sb, bf⟩ → Calls Tryz.prog 18 #[.agg #[.int .i64 ak, .int .i64 an, .string sa, .int .u64 af]] W fun e w' => e = .returned (.bool r) ∧ Duo w w' A ⟨ak, an, sa, af⟩ ⟨bk, bn, sb, bf⟩) := Lib.hid fun W h => (Hs.out W).mono fun e w' q => ⟨q.1, h.below q.2⟩
    have Ht2 : Hid (∀ W, Duo w W A ⟨ak, an, sa, af⟩ ⟨bk, bn, sb, bf⟩ → Calls Tryz.prog 19 #[.agg #[.int .i64 ak, .int .i64 an, .string sa, .int .u64 af]] W fun e w' => e = .returned (.bool r) ∧ Duo w w' A ⟨ak, an, sa, af⟩ ⟨bk, bn, sb, bf⟩) := Lib.hid fun W h => (Ht.out W).mono fun e w' q => ⟨q.1, h.below q.2⟩
    have KS : Hid (∀ W, Duo w W A ⟨ak, an, sa, af⟩ ⟨bk, bn, sb, bf⟩ → Duo w W A ⟨ak, an, sa, af⟩ ⟨bk, bn, sb, bf⟩ ∧ W.cell? ⟨A, 0, none⟩ = some (.int .i64 ak) ∧ W.cell? ⟨A, 1, none⟩ = some (.int .i64 an) ∧ W.cell? ⟨A, 2, none⟩ = some (.string sa) ∧ W.cell? ⟨A, 3, none⟩ = some (.int .u64 af) ∧ W.cell? ⟨A + 1, 0, none⟩ = some (.int .i64 bk) ∧ W.cell? ⟨A + 1, 1, none⟩ = some (.int .i64 bn) ∧ W.cell? ⟨A + 1, 2, none⟩ = some (.string sb) ∧ W.cell? ⟨A + 1, 3, none⟩ = some (.int .u64 bf)) := Lib.hid fun W h => ⟨h, h.one.c0, h.one.c1, h.one.c2, h.one.c3, h.two.c0, h.two.c1, h.two.c2, h.two.c3⟩
    clear Ho Hq Hs Ht
    go_wp2_with fail
    go_region_held3 (fun W => Duo w W A ⟨ak, an, sa, af⟩ ⟨bk, bn, sb, bf⟩ ∧ W.cell? ⟨A, 0, none⟩ = some (.int .i64 ak) ∧ W.cell? ⟨A, 1, none⟩ = some (.int .i64 an) ∧ W.cell? ⟨A, 2, none⟩ = some (.string sa) ∧ W.cell? ⟨A, 3, none⟩ = some (.int .u64 af) ∧ W.cell? ⟨A + 1, 0, none⟩ = some (.int .i64 bk) ∧ W.cell? ⟨A + 1, 1, none⟩ = some (.int .i64 bn) ∧ W.cell? ⟨A + 1, 2, none⟩ = some (.string sb) ∧ W.cell? ⟨A + 1, 3, none⟩ = some (.int .u64 bf))
      (first | exact KS.out _ (by assumption) | exact KS.out _ D3.out.drew)
      (first
        | (go_at_call 16; refine (Ho2.out _ (‹Duo w _ _ _ _ ∧ _›.1)).mono ?_; rintro e w' ⟨rfl, hd⟩)
        | (go_at_call 17; refine (Hq2.out _ (‹Duo w _ _ _ _ ∧ _›.1)).mono ?_; rintro e w' ⟨rfl, hd⟩)
        | (go_at_call 18; refine (Hs2.out _ (‹Duo w _ _ _ _ ∧ _›.1)).mono ?_; rintro e w' ⟨rfl, hd⟩)
        | (go_at_call 19; refine (Ht2.out _ (‹Duo w _ _ _ _ ∧ _›.1)).mono ?_; rintro e w' ⟨rfl, hd⟩))
    all_goals
      go_wp2_with fail
      go_ret
      exact ⟨by simp, by rw [hA]; exact (‹Duo w _ A _ _ ∧ _›.1).bel⟩
end Go.Proofs.YtjkkmepagdhaeaaGreatDoor
