/- The walk of a checker's truth: columns, literals, null tests. -/
import Derived.Test.YtfkghfmgeholeaaGreatDoorCc1
import Derived.Test.YtfkghfmgeholeaaGreatDoorPd0
set_option linter.unusedVariables false
set_option linter.unusedSimpArgs false
namespace Go.Proofs.YtfkghfmgeholeaaGreatDoor
open Go.RowKit

def TruthA (t : Tree) : Prop := ∀ (w : World) (P : Nat) (a : Option Addr) (n c : Nat) (l : List Fd) (s : Int × Int), CkAt w P a n c l s → n ≤ 100000 → ∀ (S : Nat → Prop), ¬ S P → ∀ (ta : Option Addr) (tn tc : Nat), KSl w S t.kids ta tn → Calls Tryz.prog 34 #[.pointer (some ⟨P, 0, none⟩), t.val ta tn tc] w fun e w' => e = .returned (.tuple #[]) ∧ CkAt w' P a n c l (updF s (firstT l t)) ∧ But P w w'
theorem firstT_leaf (l : List Fd) (t : Tree) (h : t.k = 0 ∨ t.k = 1) : firstT l t = orF (opF l t) (boolF l t) := by
  obtain ⟨k, p, c, o, v, kids⟩ := t
  rw [firstT]
  exact if_pos h
theorem boolF_yes {l : List Fd} {t : Tree} (h : opV l t ≠ 2 ∧ opV l t ≠ 0) : boolF l t = some (t.pos, 181) := by unfold boolF; rw [if_pos h]
theorem boolF_no {l : List Fd} {t : Tree} (h : ¬ (opV l t ≠ 2 ∧ opV l t ≠ 0)) : boolF l t = none := by unfold boolF; rw [if_neg h]
theorem orF_no (a : Option (Int × Int)) : orF a none = a := by cases a <;> rfl
set_option maxHeartbeats 8000000 in
set_option maxRecDepth 100000 in
theorem truth_leaf (t : Tree) (hk : t.k = 0 ∨ t.k = 1) : TruthA t := by
  intro w P a n c l s h hn S hS ta tn tc hkids
  have HPl := Lib.hid h.lt
  have hb0 := Below.new w (.cells (t.cells ta tn tc) 30)
  have H0 := Lib.hid (h.below hb0)
  have HB0 : Hid (Below w.heap.size w _) := Lib.hid hb0
  have HV0 := Lib.hid (KVar.new w t ta tn tc 30)
  rw [firstT_leaf l t hk]
  have HO : Hid (∀ W, CkAt W P a n c l s → Calls Tryz.prog 49 #[.pointer (some ⟨P, 0, none⟩), .agg #[.int .i64 t.k, .int .i64 t.pos, .string ⟨t.col.toArray⟩, .int .i64 t.v.k, .int .i64 t.v.n, .string t.v.s, .int .u64 t.v.f, .int .i64 t.op, .slice ta tn tc]] W fun e w' => e = .returned (.int .i64 (opV l t)) ∧ CkAt w' P a n c l (updF s (opF l t)) ∧ But P W w') := Lib.hid fun W hw => operand_any W P a n c l s hw hn t ta tn tc
  have HF : Hid (∀ W s', CkAt W P a n c l s' → Calls Tryz.prog 50 #[.pointer (some ⟨P, 0, none⟩), .agg #[.int .i64 t.k, .int .i64 t.pos, .string ⟨t.col.toArray⟩, .int .i64 t.v.k, .int .i64 t.v.n, .string t.v.s, .int .u64 t.v.f, .int .i64 t.op, .slice ta tn tc], .int .i64 181] W fun e w' => e = .returned (.tuple #[]) ∧ CkAt w' P a n c l (updF s' (some (t.pos, 181))) ∧ But P W w') := Lib.hid fun W s' hw => fault_any W P a n c l s' hw t ta tn tc 181
  have herr : ∀ x, opF l t = some x → x.2 ≠ 0 := fun x => opF_err
  have Hyes : Hid (opV l t ≠ 2 ∧ opV l t ≠ 0 → updF (updF s (opF l t)) (some (t.pos, 181)) = updF s (orF (opF l t) (boolF l t))) := Lib.hid fun q => by rw [updF_or s _ _ herr, boolF_yes q]
  have Hno : Hid (¬ (opV l t ≠ 2 ∧ opV l t ≠ 0) → updF s (opF l t) = updF s (orF (opF l t) (boolF l t))) := Lib.hid fun q => by rw [boolF_no q, orF_no]
  clear h hb0 hn hkids hS herr
  generalize updF s (orF (opF l t) (boolF l t)) = Z at Hyes Hno ⊢
  generalize updF s (opF l t) = Y at Hyes Hno HO
  generalize opV l t = K at Hyes Hno HO
  obtain ⟨tk, tp, tcol, top, ⟨vk, vn, vs, vf⟩, kids⟩ := t
  simp only [Tree.val, Tree.k, Tree.pos, Tree.col, Tree.op, Tree.v] at hk HO HF Hyes ⊢
  rcases hk with rfl | rfl
  all_goals
    go_enter Tryz.func34, Tryz.ntmps34
    go_upto_region 1 with fail
    generalize hW : World.alloc w _ = W
    replace H0 : Hid (CkAt W P a n c l s) := Lib.hid (by rw [← hW]; exact H0.out)
    replace HB0 : Hid (Below w.heap.size w W) := Lib.hid (by rw [← hW]; exact HB0.out)
    replace HV0 : Hid (KVar W w.heap.size (.mk _ tp tcol top ⟨vk, vn, vs, vf⟩ kids) ta tn tc) := Lib.hid (by rw [← hW]; exact HV0.out)
    clear hW
    obtain ⟨k0, k1, k2, k3, k4, k5, k6, k7, k8, -, -⟩ := HV0.out
    simp only [Tree.k, Tree.pos, Tree.col, Tree.op, Tree.v] at k0 k1 k2 k3 k4 k5 k6 k7 k8
    have hc := Lib.hid (HO.out W H0.out)
    go_wp2_with fail
    refine hc.out.mono ?_
    clear hc k0 k1 k2 k3 k4 k5 k6 k7 k8
    rintro e w2 ⟨rfl, hck, hbt⟩
    have H2 := Lib.hid hck
    have HB2 : Hid (But P w w2) := Lib.hid ((But.of HB0.out).trans hbt)
    have HV2 := Lib.hid (HV0.out.but hbt HPl.out)
    clear hck hbt
    by_cases c2 : K = 2
    · obtain rfl : Y = Z := Hno.out (fun h => h.1 c2)
      subst c2
      clear Hyes Hno
      go_wp2_with fail
      go_end0
      exact ⟨rfl, H2.out, HB2.out⟩
    · by_cases c0 : K = 0
      · obtain rfl : Y = Z := Hno.out (fun h => h.2 c0)
        subst c0
        clear Hyes Hno c2
        go_wp2_with fail
        go_end0
        exact ⟨rfl, H2.out, HB2.out⟩
      · have Hz : Hid (updF Y (some (tp, 181)) = Z) := Lib.hid (Hyes.out ⟨c2, c0⟩)
        have d2 : (K != 2) = true := by rw [bne_iff_ne]; exact c2
        have d0 : (K != 0) = true := by rw [bne_iff_ne]; exact c0
        clear Hyes Hno c2 c0
        obtain ⟨k0, k1, k2, k3, k4, k5, k6, k7, k8, -, -⟩ := HV2.out
        simp only [Tree.k, Tree.pos, Tree.col, Tree.op, Tree.v] at k0 k1 k2 k3 k4 k5 k6 k7 k8
        have hf := Lib.hid (HF.out w2 Y H2.out)
        go_wp2_with fail
        refine hf.out.mono ?_
        rintro e w4 ⟨rfl, hck, hbt⟩
        have H4 : Hid (CkAt w4 P a n c l Z) := Lib.hid (Hz.out ▸ hck)
        have HB4 : Hid (But P w w4) := Lib.hid (HB2.out.trans hbt)
        clear hck hbt hf
        go_wp2_with fail
        go_end0
        exact ⟨rfl, H4.out, HB4.out⟩
end Go.Proofs.YtfkghfmgeholeaaGreatDoor
