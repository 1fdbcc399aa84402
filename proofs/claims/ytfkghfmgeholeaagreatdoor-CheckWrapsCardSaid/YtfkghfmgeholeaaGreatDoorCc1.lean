/- The walk of a checker's operand. -/
import Derived.Test.YtfkghfmgeholeaaGreatDoorCc0
set_option linter.unusedVariables false
set_option linter.unusedSimpArgs false
namespace Go.Proofs.YtfkghfmgeholeaaGreatDoor
open Go.RowKit

theorem CkAt.but {w w' : World} {P : Nat} {a : Option Addr} {n c : Nat} {l : List Fd} {s : Int × Int} (h : CkAt w P a n c l s) (hb : Below w.heap.size w w') : CkAt w' P a n c l s := h.below hb
theorem opV_lit {l : List Fd} {t : Tree} (h : t.k = 1) : opV l t = t.v.k ∧ opF l t = none := by
  unfold opV opF opK
  rw [if_pos h]
  exact ⟨rfl, rfl⟩
theorem opV_none {l : List Fd} {t : Tree} (h : t.k ≠ 1) (hi : idxL l t.col < 0) : opV l t = 0 ∧ opF l t = some (t.pos, 180) := by
  unfold opV opF opK
  rw [if_neg h, (idxL_none l t.col).1 hi]
  exact ⟨rfl, rfl⟩
theorem opV_some {l : List Fd} {t : Tree} (h : t.k ≠ 1) {i : Nat} (hi : idxL l t.col = (i : Int)) : ∃ f, l[i]? = some f ∧ opV l t = f.kind ∧ opF l t = none := by
  obtain ⟨f, h1, h2, h3⟩ := idxL_some l t.col i hi
  refine ⟨f, h1, ?_, ?_⟩
  · unfold opV opK; rw [if_neg h, h3]; rfl
  · unfold opF opK; rw [if_neg h, h3]
set_option maxHeartbeats 8000000 in
set_option maxRecDepth 100000 in
theorem operand_any (w : World) (P : Nat) (a : Option Addr) (n c : Nat) (l : List Fd) (s : Int × Int) (h : CkAt w P a n c l s) (hn : n ≤ 100000) (t : Tree) (ta : Option Addr) (tn tc : Nat) :
    Calls Tryz.prog 49 #[.pointer (some ⟨P, 0, none⟩), t.val ta tn tc] w fun e w' => e = .returned (.int .i64 (opV l t)) ∧ CkAt w' P a n c l (updF s (opF l t)) ∧ But P w w' := by
  have HPl := Lib.hid h.lt
  have hb0 := Below.new w (.cells (t.cells ta tn tc) 30)
  have H0 := Lib.hid (h.below hb0)
  have HB0 : Hid (Below w.heap.size w _) := Lib.hid hb0
  have HV0 := Lib.hid (KVar.new w t ta tn tc 30)
  have Hn := Lib.hid hn
  clear h hb0 hn
  simp only [Tree.val]
  by_cases h1 : t.k = 1
  · obtain ⟨e1, e2⟩ := opV_lit (l := l) h1
    rw [e1, e2, updF_none]
    have z0 : (t.k == 1) = true := by rw [h1]; rfl
    clear h1 e1 e2
    go_enter Tryz.func49, Tryz.ntmps49
    go_upto_region 1 with fail
    generalize (w.alloc _) = W at H0 HB0 HV0 ⊢
    obtain ⟨k0, k1, k2, k3, k4, k5, k6, k7, k8, -, -⟩ := HV0.out
    go_wp2_with fail
    go_ret
    exact ⟨rfl, H0.out, But.of HB0.out⟩
  · have z0 : (t.k == 1) = false := beq_eq_false_iff_ne.2 h1
    have HI : Hid (∀ W, FSl W a n l → Calls Tryz.prog 18 #[.slice a n c, .string ⟨t.col.toArray⟩] W fun e w' => e = .returned (.int .i64 (idxL l t.col)) ∧ Below W.heap.size W w') := Lib.hid fun W h => index_any W a n c l h Hn.out t.col
    by_cases hi : idxL l t.col < 0
    · obtain ⟨e1, e2⟩ := opV_none (l := l) h1 hi
      rw [e1, e2]
      generalize idxL l t.col = I at HI hi
      have HF : Hid (∀ W, CkAt W P a n c l s → Calls Tryz.prog 50 #[.pointer (some ⟨P, 0, none⟩), .agg #[.int .i64 t.k, .int .i64 t.pos, .string ⟨t.col.toArray⟩, .int .i64 t.v.k, .int .i64 t.v.n, .string t.v.s, .int .u64 t.v.f, .int .i64 t.op, .slice ta tn tc], .int .i64 180] W fun e w' => e = .returned (.tuple #[]) ∧ CkAt w' P a n c l (updF s (some (t.pos, 180))) ∧ But P W w') := Lib.hid fun W h => fault_any W P a n c l s h t ta tn tc 180
      clear h1 e1 e2
      go_enter Tryz.func49, Tryz.ntmps49
      go_upto_region 1 with fail
      generalize (w.alloc _) = W at H0 HB0 HV0 ⊢
      obtain ⟨k0, k1, k2, k3, k4, k5, k6, k7, k8, -, -⟩ := HV0.out
      have c0 := H0.out.c0
      go_upto_region 3 with fail
      have Hd := Lib.hid (H0.out.below (Below.refl _ W).drew)
      go_region_with (go_at_call 18; refine (HI.out _ Hd.out.fs).mono ?_; rintro e w3 ⟨rfl, hb3⟩)
      all_goals
        have hb3' : Below W.heap.size W w3 := (Below.refl _ W).drew.trans hb3
        have H3 := Lib.hid (H0.out.below hb3')
        have HB3 : Hid (Below w.heap.size w w3) := Lib.hid (HB0.out.trans (hb3'.mono HB0.out.size))
        have HV3 := Lib.hid (HV0.out.below hb3' HV0.out.lt)
        clear hb3 hb3' k0 k1 k2 k3 k4 k5 k6 k7 k8 c0
        obtain ⟨k0, k1, k2, k3, k4, k5, k6, k7, k8, -, -⟩ := HV3.out
        go_wp2_with fail
        refine (HF.out _ H3.out).mono ?_
        rintro e w4 ⟨rfl, hck, hbt⟩
        have H4 := Lib.hid hck
        have HB4 : Hid (But P w w4) := Lib.hid ((But.of HB3.out).trans hbt)
        clear hck hbt
        go_wp2_with fail
        go_ret
        exact ⟨rfl, H4.out, HB4.out⟩
    · have hlo := idxL_lo l t.col
      obtain ⟨i, hii⟩ : ∃ i : Nat, idxL l t.col = (i : Int) := ⟨(idxL l t.col).toNat, by omega⟩
      obtain ⟨f, hf, e1, e2⟩ := opV_some (l := l) h1 hii
      rw [e1, e2, updF_none]
      have hi0 : ¬ (idxL l t.col < 0) := hi
      have hin : idxL l t.col < (n : Int) := by have := H0.out.fs.1; omega
      have hit : (idxL l t.col).toNat = i := by omega
      have hi00 : 0 ≤ idxL l t.col := by omega
      have Hf := Lib.hid hf
      clear hi hlo hf e1 e2 h1 hii
      generalize idxL l t.col = I at HI hi0 hin hit hi00
      go_enter Tryz.func49, Tryz.ntmps49
      go_upto_region 1 with fail
      generalize (w.alloc _) = W at H0 HB0 HV0 ⊢
      obtain ⟨k0, k1, k2, k3, k4, k5, k6, k7, k8, -, -⟩ := HV0.out
      have c0 := H0.out.c0
      go_upto_region 3 with fail
      have Hd := Lib.hid (H0.out.below (Below.refl _ W).drew)
      go_region_with (go_at_call 18; refine (HI.out _ Hd.out.fs).mono ?_; rintro e w3 ⟨rfl, hb3⟩)
      all_goals
        have hb3' : Below W.heap.size W w3 := (Below.refl _ W).drew.trans hb3
        have H3 := Lib.hid (H0.out.below hb3')
        have HB3 : Hid (Below w.heap.size w w3) := Lib.hid (HB0.out.trans (hb3'.mono HB0.out.size))
        clear hb3 hb3' k0 k1 k2 k3 k4 k5 k6 k7 k8 c0
        have c0 := H3.out.c0
        obtain ⟨b, o, ea, hfa⟩ := H3.out.fs.2 i f Hf.out
        subst ea
        have c1 := hfa.c1
        clear hfa
        go_wp2_with fail
        go_ret
        exact ⟨rfl, H3.out, But.of HB3.out⟩
end Go.Proofs.YtfkghfmgeholeaaGreatDoor
