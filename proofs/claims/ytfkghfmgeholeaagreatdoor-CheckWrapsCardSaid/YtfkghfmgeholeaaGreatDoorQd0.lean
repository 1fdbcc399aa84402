/- The walk of ref17.Depth. -/
import Derived.Test.YtfkghfmgeholeaaGreatDoorPd0
set_option linter.unusedVariables false
set_option linter.unusedSimpArgs false
namespace Go.Proofs.YtfkghfmgeholeaaGreatDoor
open Go.RowKit

set_option maxHeartbeats 16000000 in
set_option maxRecDepth 100000 in
theorem depthR_step (N : Nat) (ih : ∀ t : Tree, t.nodes ≤ N → ∀ (w : World) (S : Nat → Prop) (a : Option Addr) (n c : Nat), KSl w S t.kids a n → Calls Tryz.prog 20 #[t.val a n c] w fun e w' => e = .returned (.int .i64 (t.depth : Int)) ∧ Below w.heap.size w w')
    (hN : N ≤ 1000000) (t : Tree) (ht : t.nodes ≤ N + 1) (w : World) (S : Nat → Prop) (a : Option Addr) (n c : Nat) (hk : KSl w S t.kids a n) :
    Calls Tryz.prog 20 #[t.val a n c] w fun e w' => e = .returned (.int .i64 (t.depth : Int)) ∧ Below w.heap.size w w' := by
  have Hk := Lib.hid hk; have IH := Lib.hid ih
  have hn := hk.len
  have hdep : t.depth = Tree.deep t.kids + 1 := depth_eq t
  have Hn := Lib.hid hn; have Hdep := Lib.hid hdep
  have hcount : Tree.count t.kids ≤ N := by have := nodes_eq t; omega
  have HCN := Lib.hid hcount
  have HDN : Hid (Tree.deep t.kids ≤ N) := Lib.hid (Nat.le_trans (deep_count _) hcount)
  have HN := Lib.hid hN
  have hni : (n : Int) ≤ 1000000 := by have := len_count t.kids; omega
  clear hk ih hn hdep ht hN hcount
  generalize hdd : t.depth = dd at Hdep ⊢
  clear hdd
  simp only [Tree.val]
  go_enter Tryz.func20, Tryz.ntmps20
  go_wp2_with fail
  have hb0 := Below.new w (.cells (t.cells a n c) 30)
  have Hb0 := Lib.hid hb0
  have Hk0 := Lib.hid (Hk.out.later hb0)
  clear hb0
  go_loopg [3, 9] n (fun g s i wx => ∃ (j : Nat) (I M : Int), s = .int .i64 M ∧ i = .int .i64 I ∧ Hid (I = (j : Int) ∧ M = (Tree.deep (t.kids.take j) : Int) ∧ j + g = n) ∧ Below w.heap.size w wx)
  case atStart => exact ⟨0, 0, 0, rfl, rfl, Lib.hid ⟨rfl, by simp [Tree.deep], by omega⟩, Hb0.out⟩
  case round =>
    obtain ⟨j, I, M, rfl, rfl, HI, hb⟩ := hrel
    have Hb := Lib.hid hb; clear hb
    have hI0 : 0 ≤ I := by have := HI.out; omega
    have hM0 : 0 ≤ M := by have := HI.out; omega
    have hM1 : M ≤ 1000000 := by have := HI.out; have := deep_take_le (l := t.kids) j; have := HDN.out; have := HN.out; omega
    by_cases hm : gk = 0
    · have hI1 : ¬ I < (n : Int) := by have := HI.out; omega
      have HR : Hid (M + 1 = (dd : Int)) := Lib.hid (by
        have h1 := HI.out; have h2 := Hdep.out; have h3 := Hn.out
        have h4 : t.kids.take j = t.kids := List.take_of_length_le (by omega)
        rw [h4] at h1
        omega)
      clear hm
      go_wp2_with fail
      go_ret
      exact ⟨by rw [← HR.out]; rfl, Hb.out⟩
    · have hI1 : I < (n : Int) := by have := HI.out; omega
      have hIj : I.toNat = j := by have := HI.out; omega
      obtain ⟨k, hk⟩ : ∃ k, t.kids[j]? = some k := ⟨t.kids[j]'(by have := HI.out; have := Hn.out; omega), List.getElem?_eq_getElem _⟩
      obtain ⟨b, o, ka, kn, kc, e1, hka, hks⟩ := Hk.out.get hk
      subst e1
      have hkN : k.nodes ≤ N := Nat.le_trans (mem_nodes (get_mem hk)) HCN.out
      have HM : Hid (max M (k.depth : Int) = (Tree.deep (t.kids.take (j + 1)) : Int)) := Lib.hid (by
        have h1 := HI.out
        rw [deep_take_succ hk]
        omega)
      have hkd : (k.depth : Int) ≤ 1000000 := by have := depth_nodes k; have := HN.out; omega
      have Hka := Lib.hid (hka.map fun i v hc => (Hb.out.cell (World.block_lt_of_cell? w _ hc)).trans hc)
      have hksw : KSl wr S k.kids ka kn := hks.later Hb.out
      have Hm := Lib.hid hm
      obtain ⟨c0, c1, c2, c3, c4, c5, c6, c7, c8⟩ := Hka.out
      clear hk hka hks hm
      go_upto_region 5 with fail
      have hbn := Below.new wr (.cells (k.cells ka kn kc) 30)
      have hkv := KVar.new wr k ka kn kc 30
      have Hc := Lib.hid (IH.out k hkN _ S ka kn kc (hksw.later hbn))
      have Hbn := Lib.hid (Hb.out.trans (hbn.mono Hb.out.size))
      clear hksw hbn c0 c1 c2 c3 c4 c5 c6 c7 c8
      generalize (wr.alloc _) = W at hkv Hc Hbn ⊢
      obtain ⟨c0, c1, c2, c3, c4, c5, c6, c7, c8, -, -⟩ := hkv
      go_wp2_with fail
      refine Hc.out.mono ?_
      rintro e w2 ⟨rfl, hb2⟩
      have Hb2 := Lib.hid (Hbn.out.trans (hb2.mono Hbn.out.size))
      clear hb2
      go_wp2_with fail
      go_roundg (gk - 1)
      case measure => have := Hm.out; omega
      case rel => exact ⟨j + 1, I + 1, _, rfl, rfl, Lib.hid ⟨by have := HI.out; omega, HM.out, by have := HI.out; have := Hm.out; omega⟩, Hb2.out⟩
theorem depthR_any (N : Nat) (hN : N ≤ 1000000) : ∀ t : Tree, t.nodes ≤ N → ∀ (w : World) (S : Nat → Prop) (a : Option Addr) (n c : Nat), KSl w S t.kids a n → Calls Tryz.prog 20 #[t.val a n c] w fun e w' => e = .returned (.int .i64 (t.depth : Int)) ∧ Below w.heap.size w w' := by
  induction N with
  | zero => intro t ht; exact absurd (nodes_pos t) (by omega)
  | succ N ih => exact fun t ht w S a n c hk => depthR_step N (ih (by omega)) (by omega) t ht w S a n c hk
end Go.Proofs.YtfkghfmgeholeaaGreatDoor
