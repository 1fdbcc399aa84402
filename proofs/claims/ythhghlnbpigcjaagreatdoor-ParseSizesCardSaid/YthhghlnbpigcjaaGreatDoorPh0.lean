/- The walk of law17.parts. -/
import Derived.Test.YthhghlnbpigcjaaGreatDoorPd0
import Derived.Deep.QuietTactic
import Derived.BigQuiet
import Derived.Deep.DeepCutAuto
set_option linter.unusedVariables false
set_option linter.unusedSimpArgs false
namespace Go.Proofs.YthhghlnbpigcjaaGreatDoor
open Go.RowKit

def PartsC (sz : Nat) (t : Tree) : Prop := ∀ (w : World) (S : Nat → Prop) (a : Option Addr) (n c : Nat), KSl w S t.kids a n → Calls Tryz.prog 20 #[t.val a n c, .int .i64 (sz : Int)] w fun e w' => e = .returned (.tuple #[.int .i64 (t.nodes : Int), .bool (insideB sz t)]) ∧ Below w.heap.size w w'
theorem count_take_succ {l : List Tree} {j : Nat} {t : Tree} (h : l[j]? = some t) : Tree.count (l.take (j + 1)) = Tree.count (l.take j) + t.nodes := by
  rw [List.take_add_one, h, count_append]
  show _ + Tree.count [t] = _
  rw [count_cons, show Tree.count [] = 0 from by rw [Tree.count]]; omega
theorem inside_take_succ {sz : Nat} {l : List Tree} {j : Nat} {t : Tree} (h : l[j]? = some t) : insideBs sz (l.take (j + 1)) = (insideBs sz (l.take j) && insideB sz t) := by
  rw [List.take_add_one, h, insideBs_append]
  show (_ && insideBs sz [t]) = _
  rw [insideBs_cons, show insideBs sz [] = true from by rw [insideBs], Bool.and_true]
set_option maxHeartbeats 8000000 in
set_option maxRecDepth 100000 in
theorem parts_step (N sz : Nat) (ih : ∀ t : Tree, t.nodes ≤ N → PartsC sz t) (hN : N ≤ 1000000) (t : Tree) (ht : t.nodes ≤ N + 1) : PartsC sz t := by
  intro w S a n c hk
  have Hk := Lib.hid hk; have IH := Lib.hid ih
  have hn := hk.len
  have Hn := Lib.hid hn
  have hcount : Tree.count t.kids ≤ N := by have := nodes_eq t; omega
  have HCN := Lib.hid hcount
  have HN := Lib.hid hN
  have hni : (n : Int) ≤ 1000000 := by have := len_count t.kids; omega
  have Hnod : Hid (t.nodes = Tree.count t.kids + 1) := Lib.hid (nodes_eq t)
  have Hins : Hid (insideB sz t = (insideK sz t && insideBs sz t.kids)) := Lib.hid (insideB_eq sz t)
  generalize insideB sz t = IB at Hins ⊢
  generalize t.nodes = nn at Hnod ht ⊢
  clear hk ih hn ht hN hcount
  have hb0 := Below.new w (.cells (t.cells a n c) 31)
  have HK := Lib.hid (KVar.new w t a n c 31)
  have Hb0 := Lib.hid hb0
  have Hk0 := Lib.hid (Hk.out.later hb0)
  clear hb0
  simp only [Tree.val]
  have hIK0 : decide ((0 : Int) ≤ t.pos) = false → insideK sz t = false := fun h => by unfold insideK; rw [h]; rfl
  have hIK1 : decide ((0 : Int) ≤ t.pos) = true → insideK sz t = decide (t.pos < (sz : Int)) := fun h => by unfold insideK; rw [h]; rfl
  have HI0 := Lib.hid hIK0; have HI1 := Lib.hid hIK1
  clear hIK0 hIK1
  generalize insideK sz t = IK at Hins HI0 HI1
  go_enter Tryz.func20, Tryz.ntmps20
  go_upto_region 1 with fail
  go_cut [6, 7] (fun p q wx => p = .int .i64 1 ∧ q = .bool IK ∧ Below w.heap.size w wx ∧ KSl wx S t.kids a n ∧ KVar wx w.heap.size t a n c)
  case first =>
    cases h0 : decide ((0 : Int) ≤ t.pos) with
    | false =>
      obtain rfl : IK = false := HI0.out h0
      go_quiet (fail)
      have Hb1 := Lib.hid (below_drewN Hb0.out nq)
      have Hk1 := Lib.hid (Hk0.out.later (below_drewN (Below.refl _ _) nq))
      have HK1 := Lib.hid (HK.out.below (below_drewN (Below.refl _ _) nq) HK.out.lt)
      go_wp2_with fail
      go_meet
      exact ⟨rfl, rfl, Hb1.out, Hk1.out, HK1.out⟩
    | true =>
      obtain rfl : IK = decide (t.pos < (sz : Int)) := HI1.out h0
      go_quiet (fail)
      have Hb1 := Lib.hid (below_drewN Hb0.out nq)
      have Hk1 := Lib.hid (Hk0.out.later (below_drewN (Below.refl _ _) nq))
      have HK1 := Lib.hid (HK.out.below (below_drewN (Below.refl _ _) nq) HK.out.lt)
      go_wp2_with fail
      go_meet
      exact ⟨rfl, rfl, Hb1.out, Hk1.out, HK1.out⟩
  case rest =>
    obtain ⟨rfl, rfl, hb, hk, hv⟩ := hcut
    rename World => W1
    have Hb1 := Lib.hid hb; have Hk1 := Lib.hid hk; have HK1 := Lib.hid hv
    have c8 := hv.c8
    clear hb hk hv HK Hk0 Hb0 HI0 HI1
    go_wp2_with fail
    go_loopg [6, 7, 24] n (fun g s q i wx => ∃ (j : Nat) (I M : Int), s = .int .i64 M ∧ q = .bool (IK && insideBs sz (t.kids.take j)) ∧ i = .int .i64 I ∧ Hid (I = (j : Int) ∧ M = (Tree.count (t.kids.take j) : Int) + 1 ∧ j + g = n) ∧ Below w.heap.size w wx ∧ Below W1.heap.size W1 wx)
    case atStart => exact ⟨0, 0, 1, rfl, by rw [List.take_zero, insideBs, Bool.and_true], rfl, Lib.hid ⟨rfl, by simp [Tree.count], by omega⟩, Hb1.out, Below.refl _ _⟩
    case round =>
      obtain ⟨j, I, M, rfl, rfl, rfl, HI, hbx⟩ := hrel
      have Hb := Lib.hid hbx; clear hbx c8
      have hI0 : 0 ≤ I := by have := HI.out; omega
      have hM0 : 0 ≤ M := by have := HI.out; omega
      have hM1 : M ≤ 1000001 := by have := HI.out; have := count_take (l := t.kids) j; have := HCN.out; have := HN.out; omega
      by_cases hm : gk = 0
      · have hI1 : ¬ I < (n : Int) := by have := HI.out; omega
        have h4 : t.kids.take j = t.kids := List.take_of_length_le (by have := HI.out; have := Hn.out; omega)
        have HR : Hid (M = (nn : Int) ∧ (IK && insideBs sz (t.kids.take j)) = IB) := Lib.hid (by
          have h1 := HI.out; have h2 := Hnod.out
          rw [h4] at h1
          exact ⟨by omega, by rw [h4]; exact Hins.out.symm⟩)
        clear hm h4
        generalize (IK && insideBs sz (t.kids.take j)) = Q at HR ⊢
        go_wp2_with fail
        go_ret2
        exact ⟨by rw [← HR.out.1, ← HR.out.2]; rfl, Hb.out.1⟩
      · have hI1 : I < (n : Int) := by have := HI.out; omega
        have hIj : I.toNat = j := by have := HI.out; omega
        obtain ⟨k, hk⟩ : ∃ k, t.kids[j]? = some k := ⟨t.kids[j]'(by have := HI.out; have := Hn.out; omega), List.getElem?_eq_getElem _⟩
        obtain ⟨b, o, ka, kn, kc, e1, hka, hks⟩ := Hk1.out.get hk
        subst e1
        have hkN : k.nodes ≤ N := Nat.le_trans (mem_nodes (get_mem hk)) HCN.out
        have hkN2 : (k.nodes : Int) ≤ 1000000 := by have := HN.out; omega
        have HM : Hid (M + (k.nodes : Int) = (Tree.count (t.kids.take (j + 1)) : Int) + 1) := Lib.hid (by
          have h1 := HI.out
          rw [count_take_succ hk]
          omega)
        have HQ : Hid ((IK && insideBs sz (t.kids.take (j + 1))) = ((IK && insideBs sz (t.kids.take j)) && insideB sz k)) := Lib.hid (by rw [inside_take_succ hk, Bool.and_assoc])
        have Hka := Lib.hid (hka.map fun i v hc => (Hb.out.2.cell (World.block_lt_of_cell? _ _ hc)).trans hc)
        have hksw : KSl wr S k.kids ka kn := hks.later Hb.out.2
        have Hm := Lib.hid hm
        obtain ⟨c0, c1, c2, c3, c4, c5, c6, c7, c8⟩ := Hka.out
        clear hk hka hks hm
        generalize (IK && insideBs sz (t.kids.take j)) = Q at HQ ⊢
        go_upto_region 5 with fail
        have hbn := Below.new wr (.cells (k.cells ka kn kc) 31)
        have hkv := KVar.new wr k ka kn kc 31
        have Hc := Lib.hid (IH.out k hkN _ S ka kn kc (hksw.later hbn))
        have Hbn := Lib.hid (Hb.out.1.trans (hbn.mono Hb.out.1.size))
        have Hbn2 := Lib.hid (Hb.out.2.trans (hbn.mono Hb.out.2.size))
        clear hksw hbn c0 c1 c2 c3 c4 c5 c6 c7 c8
        generalize (wr.alloc _) = W at hkv Hc Hbn Hbn2 ⊢
        obtain ⟨c0, c1, c2, c3, c4, c5, c6, c7, c8, -, -⟩ := hkv
        generalize insideB sz k = QK at Hc HQ
        go_wp2_with fail
        refine Hc.out.mono ?_
        rintro e w2 ⟨rfl, hb2⟩
        have Hb2 := Lib.hid (Hbn.out.trans (hb2.mono Hbn.out.size))
        have Hb3 := Lib.hid (Hbn2.out.trans (hb2.mono Hbn2.out.size))
        clear hb2
        cases Q with
        | false =>
          go_wp2_with fail
          go_roundg (gk - 1)
          case measure => have := Hm.out; omega
          case rel => exact ⟨j + 1, I + 1, _, rfl, by rw [HQ.out]; rfl, rfl, Lib.hid ⟨by have := HI.out; omega, HM.out, by have := HI.out; have := Hm.out; omega⟩, Hb2.out, Hb3.out⟩
        | true =>
          go_wp2_with fail
          go_roundg (gk - 1)
          case measure => have := Hm.out; omega
          case rel => exact ⟨j + 1, I + 1, _, rfl, by rw [HQ.out]; rfl, rfl, Lib.hid ⟨by have := HI.out; omega, HM.out, by have := HI.out; have := Hm.out; omega⟩, Hb2.out, Hb3.out⟩
theorem partsT_any (N sz : Nat) (hN : N ≤ 1000000) : ∀ t : Tree, t.nodes ≤ N → PartsC sz t := by
  induction N with
  | zero => intro t ht; exact absurd (nodes_pos t) (by omega)
  | succ N ih => exact fun t ht => parts_step N sz (ih (by omega)) (by omega) t ht
end Go.Proofs.YthhghlnbpigcjaaGreatDoor
