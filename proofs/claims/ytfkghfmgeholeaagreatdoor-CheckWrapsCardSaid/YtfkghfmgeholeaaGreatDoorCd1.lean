/- The walk of check.Check. -/
import Derived.Test.YtfkghfmgeholeaaGreatDoorCc3
import Derived.Test.YtfkghfmgeholeaaGreatDoorCd0
import Derived.Test.YtfkghfmgeholeaaGreatDoorPf2
import Derived.Deep.QuietTactic
import Derived.BigQuiet
set_option linter.unusedVariables false
set_option linter.unusedSimpArgs false
namespace Go.Proofs.YtfkghfmgeholeaaGreatDoor
open Go.RowKit

theorem CkAt.new {w : World} {a : Option Addr} {n c : Nat} {l : List Fd} (hl : FSl w a n l) (hne : l ≠ []) (ty : TypeId) : CkAt (w.alloc (.cells #[.slice a n c, .int .i64 0, .int .i64 0] ty)) w.heap.size a n c l (0, 0) where
  c0 := by simp
  c1 := by simp
  c2 := by simp
  z := fun o => by simp
  lt := by simp
  fs := hl.later (Below.new w _)
  off := fun b o e => by
    cases l with
    | nil => exact absurd rfl hne
    | cons f l =>
      obtain ⟨b', o', e', hf⟩ := hl.2 0 f rfl
      rw [e] at e'
      injection e' with e'
      injection e' with e' _
      subst e'
      exact Nat.ne_of_lt (World.block_lt_of_cell? _ _ hf.c0)
theorem checkF_bad {t : Tree} {l : List Fd} (h : rightT 0 t = false ∨ fieldsB l = false) : checkF t l = (0, 2) := by
  unfold checkF
  rcases h with h | h <;> rw [h] <;> simp
theorem checkF_ok {t : Tree} {l : List Fd} (h : rightT 0 t = true) (h2 : fieldsB l = true) : checkF t l = updF (0, 0) (firstT l t) := by
  rw [check_good h h2]
  unfold updF
  rw [if_pos rfl]
theorem fields_some {l : List Fd} (h : fieldsB l = true) : l ≠ [] := by
  intro e
  subst e
  exact absurd h (by decide)
set_option maxHeartbeats 16000000 in
set_option maxRecDepth 100000 in
theorem check_any (w : World) (t : Tree) (hz : t.sized) (S : Nat → Prop) (ta : Option Addr) (tn tc : Nat) (hk : KSl w S t.kids ta tn) (a : Option Addr) (n c : Nat) (l : List Fd) (hl : FSl w a n l) (hn : n ≤ 100000) (hnc : n ≤ c) (hnm : ∀ f ∈ l, f.name.length ≤ 100000) :
    Calls Tryz.prog 13 #[t.val ta tn tc, .slice a n c] w fun e w' => e = .returned (.tuple #[.int .i64 (checkF t l).1, .int .i64 (checkF t l).2]) ∧ Below w.heap.size w w' := by
  have hb0 := Below.new w (.cells (t.cells ta tn tc) 30)
  have HB0 : Hid (Below w.heap.size w _) := Lib.hid hb0
  have HV0 := Lib.hid (KVar.new w t ta tn tc 30)
  have HR : Hid (∀ W, Below w.heap.size w W → Calls Tryz.prog 33 #[.agg #[.int .i64 t.k, .int .i64 t.pos, .string ⟨t.col.toArray⟩, .int .i64 t.v.k, .int .i64 t.v.n, .string t.v.s, .int .u64 t.v.f, .int .i64 t.op, .slice ta tn tc]] W fun e w' => e = .returned (.bool (rightT 0 t)) ∧ Below W.heap.size W w') := Lib.hid fun W hb => parseRight_any W t hz S ta tn tc (hk.later hb)
  have HF : Hid (∀ W, Below w.heap.size w W → Calls Tryz.prog 16 #[.slice a n c] W fun e w' => e = .returned (.bool (fieldsB l)) ∧ Below W.heap.size W w') := Lib.hid fun W hb => ckFields_any W a n c l (hl.later hb) hn hnc hnm
  have HT : Hid (rightT 0 t = true → ∀ W P, CkAt W P a n c l (0, 0) → Below w.heap.size w W → w.heap.size ≤ P → Calls Tryz.prog 34 #[.pointer (some ⟨P, 0, none⟩), .agg #[.int .i64 t.k, .int .i64 t.pos, .string ⟨t.col.toArray⟩, .int .i64 t.v.k, .int .i64 t.v.n, .string t.v.s, .int .u64 t.v.f, .int .i64 t.op, .slice ta tn tc]] W fun e w' => e = .returned (.tuple #[]) ∧ CkAt w' P a n c l (updF (0, 0) (firstT l t)) ∧ But P W w') := Lib.hid fun hr W P hc hb hP => ckTruth_any t.depth t 0 (Nat.le_refl _) hr W P a n c l (0, 0) hc hn (fun b => S b ∧ b < w.heap.size) (fun h => by have := h.2; omega) ta tn tc (hk.inside.later hb)
  have Hl := Lib.hid hl
  have Hne : Hid (fieldsB l = true → l ≠ []) := Lib.hid fields_some
  have Hbad : Hid (rightT 0 t = false ∨ fieldsB l = false → checkF t l = (0, 2)) := Lib.hid checkF_bad
  have Hok : Hid (rightT 0 t = true → fieldsB l = true → checkF t l = updF (0, 0) (firstT l t)) := Lib.hid checkF_ok
  clear hz hk hl hn hnc hnm hb0
  generalize checkF t l = Z at Hbad Hok ⊢
  generalize updF (0, 0) (firstT l t) = Y at HT Hok
  generalize rightT 0 t = B at HR HT Hbad Hok
  generalize fieldsB l = F at HF Hbad Hok Hne
  obtain ⟨z1, z2⟩ := Z
  simp only [Tree.val]
  go_enter Tryz.func13, Tryz.ntmps13
  go_upto_region 1 with fail
  generalize hW : World.alloc w _ = W
  replace HB0 : Hid (Below w.heap.size w W) := Lib.hid (by rw [← hW]; exact HB0.out)
  replace HV0 : Hid (KVar W w.heap.size t ta tn tc) := Lib.hid (by rw [← hW]; exact HV0.out)
  clear hW
  obtain ⟨k0, k1, k2, k3, k4, k5, k6, k7, k8, -, -⟩ := HV0.out
  have hc := Lib.hid (HR.out W HB0.out)
  cases B with
  | false =>
    have hz := Hbad.out (.inl rfl)
    injection hz with hz1 hz2
    subst hz1 hz2
    go_wp2_with fail
    refine hc.out.mono ?_
    clear hc
    rintro e w2 ⟨rfl, hb2⟩
    have Hb2 := Lib.hid (HB0.out.trans (hb2.mono HB0.out.size))
    clear hb2
    go_wp2_with fail
    go_ret2
    exact ⟨rfl, Hb2.out⟩
  | true =>
    go_wp2_with fail
    refine hc.out.mono ?_
    clear hc
    rintro e w2 ⟨rfl, hb2⟩
    have Hb2 := Lib.hid (HB0.out.trans (hb2.mono HB0.out.size))
    have HV2 := Lib.hid (HV0.out.below hb2 HV0.out.lt)
    clear hb2 k0 k1 k2 k3 k4 k5 k6 k7 k8
    have hc := Lib.hid (HF.out w2 Hb2.out)
    cases F with
    | false =>
      have hz := Hbad.out (.inr rfl)
      injection hz with hz1 hz2
      subst hz1 hz2
      go_wp2_with fail
      refine hc.out.mono ?_
      clear hc
      rintro e w3 ⟨rfl, hb3⟩
      have Hb3 := Lib.hid (Hb2.out.trans (hb3.mono Hb2.out.size))
      clear hb3
      go_wp2_with fail
      go_ret2
      exact ⟨rfl, Hb3.out⟩
    | true =>
      have hz := Hok.out trivial rfl
      subst hz
      go_wp2_with fail
      refine hc.out.mono ?_
      clear hc
      rintro e w3 ⟨rfl, hb3⟩
      have Hb3 := Lib.hid (Hb2.out.trans (hb3.mono Hb2.out.size))
      have HV3 := Lib.hid (HV2.out.below hb3 HV2.out.lt)
      clear hb3
      go_upto_region 4 with fail
      have hbn := Below.new w3 (.cells #[.slice a n c, .int .i64 0, .int .i64 0] 68)
      have Hck := Lib.hid (CkAt.new (w := w3) (c := c) (Hl.out.later Hb3.out) (Hne.out trivial) 68)
      have Hb4 := Lib.hid (Hb3.out.trans (hbn.mono Hb3.out.size))
      have HV4 := Lib.hid (HV3.out.below hbn HV3.out.lt)
      have HP : Hid (w.heap.size ≤ w3.heap.size) := Lib.hid Hb3.out.size
      clear hbn
      generalize (w3.alloc _) = W4 at Hck Hb4 HV4 ⊢
      obtain ⟨k0, k1, k2, k3, k4, k5, k6, k7, k8, -, -⟩ := HV4.out
      have hc := Lib.hid (HT.out trivial W4 w3.heap.size Hck.out Hb4.out HP.out)
      go_wp2_with fail
      refine hc.out.mono ?_
      clear hc
      rintro e w5 ⟨rfl, hck, hbt⟩
      have Hck5 := Lib.hid hck
      have Hb5 : Hid (Below w.heap.size w w5) := Lib.hid (Hb4.out.trans (hbt.below HP.out Hb4.out.size))
      clear hbt hck k0 k1 k2 k3 k4 k5 k6 k7 k8
      have c1 := Hck5.out.c1
      have c2 := Hck5.out.c2
      go_upto_region 5 with fail
      go_quiet (fail)
      have Hb6 := Lib.hid (below_drewN Hb5.out nq)
      clear c1 c2
      go_wp2_with fail
      go_ret2
      exact ⟨rfl, Hb6.out⟩
end Go.Proofs.YtfkghfmgeholeaaGreatDoor
