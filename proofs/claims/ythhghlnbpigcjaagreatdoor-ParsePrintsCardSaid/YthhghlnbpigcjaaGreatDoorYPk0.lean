/- The walk of ref17.Same. -/
import Derived.Test.YthhghlnbpigcjaaGreatDoorYPd0
import Derived.Deep.RegionHeld3
set_option linter.unusedVariables false
set_option linter.unusedSimpArgs false
namespace Go.Proofs.YthhghlnbpigcjaaGreatDoor
open Go.RowKit

theorem sameTs_nil (pl : Bool) : sameTs pl [] [] = true := by rw [sameTs]; intro a l b m h; cases h
theorem sameTs_cons (pl : Bool) (a b : Tree) (l m : List Tree) : sameTs pl (a :: l) (b :: m) = (sameT pl a b && sameTs pl l m) := by rw [sameTs]
theorem sameTs_next (pl : Bool) : ∀ (l m : List Tree) (j : Nat) (x y : Tree), l[j]? = some x → m[j]? = some y → sameTs pl (l.take (j + 1)) (m.take (j + 1)) = (sameTs pl (l.take j) (m.take j) && sameT pl x y) := by
  intro l
  induction l with
  | nil => intro m j x y hx; simp at hx
  | cons a l ih =>
    intro m j x y hx hy
    cases m with
    | nil => simp at hy
    | cons b m =>
      cases j with
      | zero =>
        simp at hx hy
        subst hx hy
        rw [List.take_succ_cons, List.take_succ_cons, List.take_zero, List.take_zero, sameTs_cons, List.take_zero, List.take_zero, sameTs_nil, Bool.and_true, Bool.true_and]
      | succ j =>
        rw [List.take_succ_cons, List.take_succ_cons, sameTs_cons, ih m j x y (by simpa using hx) (by simpa using hy), List.take_succ_cons, List.take_succ_cons, sameTs_cons, Bool.and_assoc]
theorem sameTs_bad (pl : Bool) : ∀ (l m : List Tree) (j : Nat) (x y : Tree), l[j]? = some x → m[j]? = some y → sameT pl x y = false → sameTs pl l m = false := by
  intro l
  induction l with
  | nil => intro m j x y hx; simp at hx
  | cons a l ih =>
    intro m j x y hx hy hs
    cases m with
    | nil => simp at hy
    | cons b m =>
      rw [sameTs_cons]
      cases j with
      | zero =>
        simp at hx hy
        subst hx hy
        rw [hs]; rfl
      | succ j => rw [ih m j x y (by simpa using hx) (by simpa using hy) hs, Bool.and_false]
def SameC (pl : Bool) (x y : Tree) : Prop := ∀ (w : World) (S S' : Nat → Prop) (a : Option Addr) (n c : Nat) (b : Option Addr) (m k : Nat), KSl w S x.kids a n → KSl w S' y.kids b m → Calls Tryz.prog 12 #[x.val a n c, y.val b m k, .bool pl] w fun e w' => e = .returned (.bool (sameT pl x y)) ∧ Below w.heap.size w w'
/-- the two boxed tests -/
def Boxes (w W : World) (x y : Tree) (a : Option Addr) (n c : Nat) (b : Option Addr) (m k : Nat) : Prop := KVar W w.heap.size x a n c ∧ KVar W (w.heap.size + 1) y b m k ∧ Below w.heap.size w W
theorem boxes_new (w : World) (x y : Tree) (a : Option Addr) (n c : Nat) (b : Option Addr) (m k : Nat) (ty ty2 : TypeId) : Boxes w ((w.alloc (.cells (x.cells a n c) ty)).alloc (.cells (y.cells b m k) ty2)) x y a n c b m k := by
  have h0 := KVar.new w x a n c ty
  have hb0 := Below.new w (.cells (x.cells a n c) ty)
  have hs : (w.alloc (.cells (x.cells a n c) ty)).heap.size = w.heap.size + 1 := by simp
  generalize (w.alloc (.cells (x.cells a n c) ty)) = W0 at h0 hb0 hs ⊢
  have hb1 := Below.new W0 (.cells (y.cells b m k) ty2)
  have hz := KVar.new W0 y b m k ty2
  rw [hs] at hz
  exact ⟨h0.below hb1 h0.lt, hz, hb0.trans (hb1.mono hb0.size)⟩
set_option maxHeartbeats 8000000 in
set_option maxRecDepth 100000 in
theorem same_bad (pl : Bool) (x y : Tree) (hK : sameK pl x y = false) : SameC pl x y := by
  intro w S S' a n c b m k hx hy
  have hRf : sameT pl x y = false := by rw [sameT_eq, hK]; rfl
  rw [hRf]
  have HK := Lib.hid hK
  have Hn := Lib.hid hx.len; have Hm := Lib.hid hy.len
  clear hRf hK hx hy
  obtain ⟨xk, xp, xc, xo, ⟨xvk, xvn, xvs, xvf⟩, xl⟩ := x
  obtain ⟨yk, yp, yc, yo, ⟨yvk, yvn, yvs, yvf⟩, yl⟩ := y
  have HW := Lib.hid (boxes_new w (.mk xk xp xc xo ⟨xvk, xvn, xvs, xvf⟩ xl) (.mk yk yp yc yo ⟨yvk, yvn, yvs, yvf⟩ yl) a n c b m k 31 31)
  simp only [Tree.val, Tree.k, Tree.pos, Tree.col, Tree.op, Tree.v]
  simp only [Tree.kids] at Hn Hm
  go_enter Tryz.func12, Tryz.ntmps12
  go_upto_region 1 with fail
  generalize hW : World.alloc (World.alloc _ _) _ = W
  have hF : Boxes w W (.mk xk xp xc xo ⟨xvk, xvn, xvs, xvf⟩ xl) (.mk yk yp yc yo ⟨yvk, yvn, yvs, yvf⟩ yl) a n c b m k := by rw [← hW]; exact HW.out
  clear hW HW
  obtain ⟨⟨c0, c1, c2, c3, c4, c5, c6, c7, c8, -, -⟩, ⟨d0, d1, d2, d3, d4, d5, d6, d7, d8, -, -⟩, hB⟩ := hF
  have HB := Lib.hid hB
  clear hB
  simp only [Tree.k, Tree.pos, Tree.col, Tree.op, Tree.v] at c0 c1 c2 c3 c4 c5 c6 c7 c8 d0 d1 d2 d3 d4 d5 d6 d7 d8
  cases pl with
  | true =>
    go_wp2_with fail
    all_goals first
      | (go_ret; exact ⟨rfl, HB.out⟩)
      | (refine absurd ?_ (Bool.eq_false_iff.1 HK.out)
         have hn := Hn.out; have hm := Hm.out
         clear c0 c1 c2 c3 c4 c5 c6 c7 c8 d0 d1 d2 d3 d4 d5 d6 d7 d8
         simp_all [sameK, Val.same, Tree.k, Tree.pos, Tree.col, Tree.op, Tree.v, Tree.kids, ByteArray.toList_eq]
         exact ⟨ByteArray.ext (by assumption), decide_eq_true (by omega)⟩)
  | false =>
    go_wp2_with fail
    all_goals first
      | (go_ret; exact ⟨rfl, HB.out⟩)
      | (refine absurd ?_ (Bool.eq_false_iff.1 HK.out)
         have hn := Hn.out; have hm := Hm.out
         clear c0 c1 c2 c3 c4 c5 c6 c7 c8 d0 d1 d2 d3 d4 d5 d6 d7 d8
         simp_all [sameK, Val.same, Tree.k, Tree.pos, Tree.col, Tree.op, Tree.v, Tree.kids, ByteArray.toList_eq]
         exact ⟨ByteArray.ext (by assumption), decide_eq_true (by omega)⟩)
set_option maxHeartbeats 8000000 in
set_option maxRecDepth 100000 in
theorem same_good (pl : Bool) (N : Nat) (hN : N ≤ 1000000) (ih : ∀ x y : Tree, x.nodes ≤ N → SameC pl x y) (x y : Tree) (hnod : x.nodes ≤ N + 1) (hK : sameK pl x y = true) : SameC pl x y := by
  intro w S S' a n c b m k hx hy
  have hRt : sameT pl x y = sameTs pl x.kids y.kids := by rw [sameT_eq, hK, Bool.true_and]
  rw [hRt]
  have hcount : Tree.count x.kids ≤ N := by have := nodes_eq x; omega
  have HCN := Lib.hid hcount
  have hni : (n : Int) ≤ 1000000 := by have := len_count x.kids; have := hx.len; omega
  have IH := Lib.hid ih
  have Hn := Lib.hid hx.len; have Hm := hy.len
  have HX := Lib.hid hx; have HY := Lib.hid hy
  clear hRt hx hy ih hcount hnod hN
  obtain ⟨xk, xp, xc, xo, ⟨xvk, xvn, xvs, xvf⟩, xl⟩ := x
  obtain ⟨yk, yp, yc, yo, ⟨yvk, yvn, yvs, yvf⟩, yl⟩ := y
  simp only [sameK, Val.same, Tree.k, Tree.pos, Tree.col, Tree.op, Tree.v, Tree.kids, Bool.and_eq_true, decide_eq_true_eq] at hK
  obtain ⟨⟨⟨⟨⟨e1, e2⟩, ⟨⟨e3, e4⟩, e5⟩, e6⟩, e7⟩, e8⟩, e9⟩ := hK
  replace e1 := of_decide_eq_true e1; replace e2 := of_decide_eq_true e2; replace e3 := of_decide_eq_true e3; replace e4 := of_decide_eq_true e4; replace e5 := of_decide_eq_true e5; replace e6 := of_decide_eq_true e6; replace e7 := of_decide_eq_true e7; replace e9 := of_decide_eq_true e9
  subst e1 e2 e3 e4 e5 e6 e7
  simp only [Tree.kids] at Hn Hm HX HY HCN
  obtain rfl : m = n := by rw [Hm, Hn.out, e9]
  have He9 := Lib.hid e9
  clear Hm e9
  have HW := Lib.hid (boxes_new w (.mk xk xp xc xo ⟨xvk, xvn, xvs, xvf⟩ xl) (.mk xk yp xc xo ⟨xvk, xvn, xvs, xvf⟩ yl) a m c b m k 31 31)
  simp only [Tree.val, Tree.k, Tree.pos, Tree.col, Tree.op, Tree.v, Tree.kids]
  generalize hRR : sameTs pl xl yl = RR
  have HR := Lib.hid hRR
  clear hRR
  have hpos : pl = true → (xp != yp) = false := fun h => by rw [h] at e8; have : xp = yp := of_decide_eq_true (show decide (xp = yp) = true from e8)
                                                            rw [this]; simp
  clear e8
  go_enter Tryz.func12, Tryz.ntmps12
  go_upto_region 1 with fail
  generalize hW : World.alloc (World.alloc _ _) _ = W
  have hF : Boxes w W (.mk xk xp xc xo ⟨xvk, xvn, xvs, xvf⟩ xl) (.mk xk yp xc xo ⟨xvk, xvn, xvs, xvf⟩ yl) a m c b m k := by rw [← hW]; exact HW.out
  clear hW HW
  obtain ⟨hA, hBv, hB⟩ := hF
  have HA := Lib.hid hA; have HBv := Lib.hid hBv
  obtain ⟨c0, c1, c2, c3, c4, c5, c6, c7, c8, -, -⟩ := hA
  obtain ⟨d0, d1, d2, d3, d4, d5, d6, d7, d8, -, -⟩ := hBv
  have HB := Lib.hid hB
  have HXW := Lib.hid (HX.out.later hB); have HYW := Lib.hid (HY.out.later hB)
  clear hB HX HY
  simp only [Tree.k, Tree.pos, Tree.col, Tree.op, Tree.v] at c0 c1 c2 c3 c4 c5 c6 c7 c8 d0 d1 d2 d3 d4 d5 d6 d7 d8
  cases pl with
  | true =>
    have hp1 := hpos rfl
    clear hpos
    go_wp2_with fail
    go_loopg [56] m (fun g i wx => ∃ (j : Nat) (I : Int), i = .int .i64 I ∧ Hid (I = (j : Int) ∧ j + g = m ∧ sameTs true (xl.take j) (yl.take j) = true) ∧ Below w.heap.size w wx ∧ Below W.heap.size W wx)
    case atStart => exact ⟨0, 0, rfl, Lib.hid ⟨rfl, by omega, by rw [List.take_zero, List.take_zero, sameTs_nil]⟩, HB.out, Below.refl _ _⟩
    case round =>
      obtain ⟨j, I, rfl, HI, hbx⟩ := hrel
      have Hb := Lib.hid hbx; clear hbx
      have hI0 : 0 ≤ I := by have := HI.out; omega
      by_cases hm : gk = 0
      · have hI1 : ¬ I < (m : Int) := by have := HI.out; omega
        obtain rfl : RR = true := by
          have h1 := HI.out.2.2
          rw [List.take_of_length_le (by have := HI.out; have := Hn.out; omega), List.take_of_length_le (by have := HI.out; have := Hn.out; have := He9.out; omega)] at h1
          rw [← HR.out, h1]
        clear hm
        go_wp2_with fail
        go_ret
        exact ⟨rfl, Hb.out.1⟩
      · have hI1 : I < (m : Int) := by have := HI.out; omega
        have hIj : I.toNat = j := by have := HI.out; omega
        obtain ⟨u, hu⟩ : ∃ u, xl[j]? = some u := ⟨xl[j]'(by have := HI.out; have := Hn.out; omega), List.getElem?_eq_getElem _⟩
        obtain ⟨v, hv⟩ : ∃ v, yl[j]? = some v := ⟨yl[j]'(by have := HI.out; have := Hn.out; have := He9.out; omega), List.getElem?_eq_getElem _⟩
        obtain ⟨g1, o1, ua, un, uc, q1, hua, hus⟩ := HXW.out.get hu
        obtain ⟨g2, o2, va, vn, vc, q2, hva, hvs⟩ := HYW.out.get hv
        subst q1 q2
        have hwr := Hb.out.2
        have Hua := Lib.hid (hua.map fun i x hc => (hwr.cell (World.block_lt_of_cell? _ _ hc)).trans hc)
        have Hva := Lib.hid (hva.map fun i x hc => (hwr.cell (World.block_lt_of_cell? _ _ hc)).trans hc)
        have HAr := Lib.hid (HA.out.below hwr HA.out.lt)
        have HBr := Lib.hid (HBv.out.below hwr HBv.out.lt)
        have Hc := Lib.hid (IH.out u v (Nat.le_trans (mem_nodes (get_mem hu)) HCN.out) wr.drew _ _ ua un uc va vn vc ((hus.later hwr).later (Below.refl _ _).drew) ((hvs.later hwr).later (Below.refl _ _).drew))
        have Hc := Lib.hid (Hc.out.mono fun e w' h => (⟨h.1, (Below.refl _ _).drew.trans (show Below wr.heap.size wr.drew w' from h.2)⟩ : e = .returned (.bool (sameT _ u v)) ∧ Below wr.heap.size wr w'))
        have HKS : Hid (∀ X, Below wr.heap.size wr X → (fun X => Below wr.heap.size wr X ∧ X.cell? ⟨w.heap.size, 8, none⟩ = some (.slice (some ⟨g1, o1, none⟩) m c) ∧ X.cell? ⟨w.heap.size + 1, 8, none⟩ = some (.slice (some ⟨g2, o2, none⟩) m k) ∧ X.cell? ⟨g1, o1 + j * 9, none⟩ = some (.int .i64 u.k) ∧ X.cell? ⟨g1, o1 + j * 9 + 1, none⟩ = some (.int .i64 u.pos) ∧ X.cell? ⟨g1, o1 + j * 9 + 2, none⟩ = some (.string ⟨u.col.toArray⟩) ∧ X.cell? ⟨g1, o1 + j * 9 + 3, none⟩ = some (.int .i64 u.v.k) ∧ X.cell? ⟨g1, o1 + j * 9 + 4, none⟩ = some (.int .i64 u.v.n) ∧ X.cell? ⟨g1, o1 + j * 9 + 5, none⟩ = some (.string u.v.s) ∧ X.cell? ⟨g1, o1 + j * 9 + 6, none⟩ = some (.int .u64 u.v.f) ∧ X.cell? ⟨g1, o1 + j * 9 + 7, none⟩ = some (.int .i64 u.op) ∧ X.cell? ⟨g1, o1 + j * 9 + 8, none⟩ = some (.slice ua un uc) ∧ X.cell? ⟨g2, o2 + j * 9, none⟩ = some (.int .i64 v.k) ∧ X.cell? ⟨g2, o2 + j * 9 + 1, none⟩ = some (.int .i64 v.pos) ∧ X.cell? ⟨g2, o2 + j * 9 + 2, none⟩ = some (.string ⟨v.col.toArray⟩) ∧ X.cell? ⟨g2, o2 + j * 9 + 3, none⟩ = some (.int .i64 v.v.k) ∧ X.cell? ⟨g2, o2 + j * 9 + 4, none⟩ = some (.int .i64 v.v.n) ∧ X.cell? ⟨g2, o2 + j * 9 + 5, none⟩ = some (.string v.v.s) ∧ X.cell? ⟨g2, o2 + j * 9 + 6, none⟩ = some (.int .u64 v.v.f) ∧ X.cell? ⟨g2, o2 + j * 9 + 7, none⟩ = some (.int .i64 v.op) ∧ X.cell? ⟨g2, o2 + j * 9 + 8, none⟩ = some (.slice va vn vc)) X) := Lib.hid fun X hb => by
          have h1 := Hua.out.below hb
          have h2 := Hva.out.below hb
          have h3 := HAr.out.below hb HAr.out.lt
          have h4 := HBr.out.below hb HBr.out.lt
          exact ⟨hb, h3.c8, h4.c8, h1.c0, h1.c1, h1.c2, h1.c3, h1.c4, h1.c5, h1.c6, h1.c7, h1.c8, h2.c0, h2.c1, h2.c2, h2.c3, h2.c4, h2.c5, h2.c6, h2.c7, h2.c8⟩
        have Hu := Lib.hid hu; have Hv := Lib.hid hv
        have Hm := Lib.hid hm
        clear hu hv hua hva hus hvs hwr hm
        cases hS : sameT true u v with
        | false =>
          obtain rfl : RR = false := by rw [← HR.out]; exact sameTs_bad _ _ _ _ _ _ Hu.out Hv.out hS
          rw [hS] at Hc
          clear hS
          simp only [Tree.val] at Hc
          go_upto_region 6 with fail
          have hks := HKS.out _ (Below.refl _ _)
          go_region_held3 (fun X => Below wr.heap.size wr X ∧ X.cell? ⟨w.heap.size, 8, none⟩ = some (.slice (some ⟨g1, o1, none⟩) m c) ∧ X.cell? ⟨w.heap.size + 1, 8, none⟩ = some (.slice (some ⟨g2, o2, none⟩) m k) ∧ X.cell? ⟨g1, o1 + j * 9, none⟩ = some (.int .i64 u.k) ∧ X.cell? ⟨g1, o1 + j * 9 + 1, none⟩ = some (.int .i64 u.pos) ∧ X.cell? ⟨g1, o1 + j * 9 + 2, none⟩ = some (.string ⟨u.col.toArray⟩) ∧ X.cell? ⟨g1, o1 + j * 9 + 3, none⟩ = some (.int .i64 u.v.k) ∧ X.cell? ⟨g1, o1 + j * 9 + 4, none⟩ = some (.int .i64 u.v.n) ∧ X.cell? ⟨g1, o1 + j * 9 + 5, none⟩ = some (.string u.v.s) ∧ X.cell? ⟨g1, o1 + j * 9 + 6, none⟩ = some (.int .u64 u.v.f) ∧ X.cell? ⟨g1, o1 + j * 9 + 7, none⟩ = some (.int .i64 u.op) ∧ X.cell? ⟨g1, o1 + j * 9 + 8, none⟩ = some (.slice ua un uc) ∧ X.cell? ⟨g2, o2 + j * 9, none⟩ = some (.int .i64 v.k) ∧ X.cell? ⟨g2, o2 + j * 9 + 1, none⟩ = some (.int .i64 v.pos) ∧ X.cell? ⟨g2, o2 + j * 9 + 2, none⟩ = some (.string ⟨v.col.toArray⟩) ∧ X.cell? ⟨g2, o2 + j * 9 + 3, none⟩ = some (.int .i64 v.v.k) ∧ X.cell? ⟨g2, o2 + j * 9 + 4, none⟩ = some (.int .i64 v.v.n) ∧ X.cell? ⟨g2, o2 + j * 9 + 5, none⟩ = some (.string v.v.s) ∧ X.cell? ⟨g2, o2 + j * 9 + 6, none⟩ = some (.int .u64 v.v.f) ∧ X.cell? ⟨g2, o2 + j * 9 + 7, none⟩ = some (.int .i64 v.op) ∧ X.cell? ⟨g2, o2 + j * 9 + 8, none⟩ = some (.slice va vn vc))
            (first | exact HKS.out _ (by with_reducible assumption) | with_reducible exact HKS.out _ (Below.refl _ _).drew | with_reducible exact HKS.out _ hb3)
            (first
              | (go_at_call 12; refine (Hc.out).mono ?_; rintro e w3 ⟨rfl, hb3⟩))
          all_goals
            have HB3 := Lib.hid (Hb.out.1.trans (hb3.mono Hb.out.1.size))
            clear hks
            go_wp2_with fail
            go_ret
            exact ⟨rfl, HB3.out⟩
        | true =>
          have Hs := Lib.hid hS
          rw [hS] at Hc
          clear hS
          simp only [Tree.val] at Hc
          go_upto_region 6 with fail
          have hks := HKS.out _ (Below.refl _ _)
          go_region_held3 (fun X => Below wr.heap.size wr X ∧ X.cell? ⟨w.heap.size, 8, none⟩ = some (.slice (some ⟨g1, o1, none⟩) m c) ∧ X.cell? ⟨w.heap.size + 1, 8, none⟩ = some (.slice (some ⟨g2, o2, none⟩) m k) ∧ X.cell? ⟨g1, o1 + j * 9, none⟩ = some (.int .i64 u.k) ∧ X.cell? ⟨g1, o1 + j * 9 + 1, none⟩ = some (.int .i64 u.pos) ∧ X.cell? ⟨g1, o1 + j * 9 + 2, none⟩ = some (.string ⟨u.col.toArray⟩) ∧ X.cell? ⟨g1, o1 + j * 9 + 3, none⟩ = some (.int .i64 u.v.k) ∧ X.cell? ⟨g1, o1 + j * 9 + 4, none⟩ = some (.int .i64 u.v.n) ∧ X.cell? ⟨g1, o1 + j * 9 + 5, none⟩ = some (.string u.v.s) ∧ X.cell? ⟨g1, o1 + j * 9 + 6, none⟩ = some (.int .u64 u.v.f) ∧ X.cell? ⟨g1, o1 + j * 9 + 7, none⟩ = some (.int .i64 u.op) ∧ X.cell? ⟨g1, o1 + j * 9 + 8, none⟩ = some (.slice ua un uc) ∧ X.cell? ⟨g2, o2 + j * 9, none⟩ = some (.int .i64 v.k) ∧ X.cell? ⟨g2, o2 + j * 9 + 1, none⟩ = some (.int .i64 v.pos) ∧ X.cell? ⟨g2, o2 + j * 9 + 2, none⟩ = some (.string ⟨v.col.toArray⟩) ∧ X.cell? ⟨g2, o2 + j * 9 + 3, none⟩ = some (.int .i64 v.v.k) ∧ X.cell? ⟨g2, o2 + j * 9 + 4, none⟩ = some (.int .i64 v.v.n) ∧ X.cell? ⟨g2, o2 + j * 9 + 5, none⟩ = some (.string v.v.s) ∧ X.cell? ⟨g2, o2 + j * 9 + 6, none⟩ = some (.int .u64 v.v.f) ∧ X.cell? ⟨g2, o2 + j * 9 + 7, none⟩ = some (.int .i64 v.op) ∧ X.cell? ⟨g2, o2 + j * 9 + 8, none⟩ = some (.slice va vn vc))
            (first | exact HKS.out _ (by with_reducible assumption) | with_reducible exact HKS.out _ (Below.refl _ _).drew | with_reducible exact HKS.out _ hb3)
            (first
              | (go_at_call 12; refine (Hc.out).mono ?_; rintro e w3 ⟨rfl, hb3⟩))
          all_goals
            have HB3 := Lib.hid (Hb.out.1.trans (hb3.mono Hb.out.1.size))
            have HB4 := Lib.hid (Hb.out.2.trans (hb3.mono Hb.out.2.size))
            clear hks
            go_wp2_with fail
            go_roundg (gk - 1)
            case measure => have := Hm.out; omega
            case rel => exact ⟨j + 1, I + 1, rfl, Lib.hid ⟨by have := HI.out; omega, by have := HI.out; have := Hm.out; omega, by rw [sameTs_next _ _ _ _ _ _ Hu.out Hv.out, HI.out.2.2, Hs.out]; rfl⟩, HB3.out, HB4.out⟩
  | false =>
    clear hpos
    go_wp2_with fail
    go_loopg [56] m (fun g i wx => ∃ (j : Nat) (I : Int), i = .int .i64 I ∧ Hid (I = (j : Int) ∧ j + g = m ∧ sameTs false (xl.take j) (yl.take j) = true) ∧ Below w.heap.size w wx ∧ Below W.heap.size W wx)
    case atStart => exact ⟨0, 0, rfl, Lib.hid ⟨rfl, by omega, by rw [List.take_zero, List.take_zero, sameTs_nil]⟩, HB.out, Below.refl _ _⟩
    case round =>
      obtain ⟨j, I, rfl, HI, hbx⟩ := hrel
      have Hb := Lib.hid hbx; clear hbx
      have hI0 : 0 ≤ I := by have := HI.out; omega
      by_cases hm : gk = 0
      · have hI1 : ¬ I < (m : Int) := by have := HI.out; omega
        obtain rfl : RR = true := by
          have h1 := HI.out.2.2
          rw [List.take_of_length_le (by have := HI.out; have := Hn.out; omega), List.take_of_length_le (by have := HI.out; have := Hn.out; have := He9.out; omega)] at h1
          rw [← HR.out, h1]
        clear hm
        go_wp2_with fail
        go_ret
        exact ⟨rfl, Hb.out.1⟩
      · have hI1 : I < (m : Int) := by have := HI.out; omega
        have hIj : I.toNat = j := by have := HI.out; omega
        obtain ⟨u, hu⟩ : ∃ u, xl[j]? = some u := ⟨xl[j]'(by have := HI.out; have := Hn.out; omega), List.getElem?_eq_getElem _⟩
        obtain ⟨v, hv⟩ : ∃ v, yl[j]? = some v := ⟨yl[j]'(by have := HI.out; have := Hn.out; have := He9.out; omega), List.getElem?_eq_getElem _⟩
        obtain ⟨g1, o1, ua, un, uc, q1, hua, hus⟩ := HXW.out.get hu
        obtain ⟨g2, o2, va, vn, vc, q2, hva, hvs⟩ := HYW.out.get hv
        subst q1 q2
        have hwr := Hb.out.2
        have Hua := Lib.hid (hua.map fun i x hc => (hwr.cell (World.block_lt_of_cell? _ _ hc)).trans hc)
        have Hva := Lib.hid (hva.map fun i x hc => (hwr.cell (World.block_lt_of_cell? _ _ hc)).trans hc)
        have HAr := Lib.hid (HA.out.below hwr HA.out.lt)
        have HBr := Lib.hid (HBv.out.below hwr HBv.out.lt)
        have Hc := Lib.hid (IH.out u v (Nat.le_trans (mem_nodes (get_mem hu)) HCN.out) wr.drew _ _ ua un uc va vn vc ((hus.later hwr).later (Below.refl _ _).drew) ((hvs.later hwr).later (Below.refl _ _).drew))
        have Hc := Lib.hid (Hc.out.mono fun e w' h => (⟨h.1, (Below.refl _ _).drew.trans (show Below wr.heap.size wr.drew w' from h.2)⟩ : e = .returned (.bool (sameT _ u v)) ∧ Below wr.heap.size wr w'))
        have HKS : Hid (∀ X, Below wr.heap.size wr X → (fun X => Below wr.heap.size wr X ∧ X.cell? ⟨w.heap.size, 8, none⟩ = some (.slice (some ⟨g1, o1, none⟩) m c) ∧ X.cell? ⟨w.heap.size + 1, 8, none⟩ = some (.slice (some ⟨g2, o2, none⟩) m k) ∧ X.cell? ⟨g1, o1 + j * 9, none⟩ = some (.int .i64 u.k) ∧ X.cell? ⟨g1, o1 + j * 9 + 1, none⟩ = some (.int .i64 u.pos) ∧ X.cell? ⟨g1, o1 + j * 9 + 2, none⟩ = some (.string ⟨u.col.toArray⟩) ∧ X.cell? ⟨g1, o1 + j * 9 + 3, none⟩ = some (.int .i64 u.v.k) ∧ X.cell? ⟨g1, o1 + j * 9 + 4, none⟩ = some (.int .i64 u.v.n) ∧ X.cell? ⟨g1, o1 + j * 9 + 5, none⟩ = some (.string u.v.s) ∧ X.cell? ⟨g1, o1 + j * 9 + 6, none⟩ = some (.int .u64 u.v.f) ∧ X.cell? ⟨g1, o1 + j * 9 + 7, none⟩ = some (.int .i64 u.op) ∧ X.cell? ⟨g1, o1 + j * 9 + 8, none⟩ = some (.slice ua un uc) ∧ X.cell? ⟨g2, o2 + j * 9, none⟩ = some (.int .i64 v.k) ∧ X.cell? ⟨g2, o2 + j * 9 + 1, none⟩ = some (.int .i64 v.pos) ∧ X.cell? ⟨g2, o2 + j * 9 + 2, none⟩ = some (.string ⟨v.col.toArray⟩) ∧ X.cell? ⟨g2, o2 + j * 9 + 3, none⟩ = some (.int .i64 v.v.k) ∧ X.cell? ⟨g2, o2 + j * 9 + 4, none⟩ = some (.int .i64 v.v.n) ∧ X.cell? ⟨g2, o2 + j * 9 + 5, none⟩ = some (.string v.v.s) ∧ X.cell? ⟨g2, o2 + j * 9 + 6, none⟩ = some (.int .u64 v.v.f) ∧ X.cell? ⟨g2, o2 + j * 9 + 7, none⟩ = some (.int .i64 v.op) ∧ X.cell? ⟨g2, o2 + j * 9 + 8, none⟩ = some (.slice va vn vc)) X) := Lib.hid fun X hb => by
          have h1 := Hua.out.below hb
          have h2 := Hva.out.below hb
          have h3 := HAr.out.below hb HAr.out.lt
          have h4 := HBr.out.below hb HBr.out.lt
          exact ⟨hb, h3.c8, h4.c8, h1.c0, h1.c1, h1.c2, h1.c3, h1.c4, h1.c5, h1.c6, h1.c7, h1.c8, h2.c0, h2.c1, h2.c2, h2.c3, h2.c4, h2.c5, h2.c6, h2.c7, h2.c8⟩
        have Hu := Lib.hid hu; have Hv := Lib.hid hv
        have Hm := Lib.hid hm
        clear hu hv hua hva hus hvs hwr hm
        cases hS : sameT false u v with
        | false =>
          obtain rfl : RR = false := by rw [← HR.out]; exact sameTs_bad _ _ _ _ _ _ Hu.out Hv.out hS
          rw [hS] at Hc
          clear hS
          simp only [Tree.val] at Hc
          go_upto_region 6 with fail
          have hks := HKS.out _ (Below.refl _ _)
          go_region_held3 (fun X => Below wr.heap.size wr X ∧ X.cell? ⟨w.heap.size, 8, none⟩ = some (.slice (some ⟨g1, o1, none⟩) m c) ∧ X.cell? ⟨w.heap.size + 1, 8, none⟩ = some (.slice (some ⟨g2, o2, none⟩) m k) ∧ X.cell? ⟨g1, o1 + j * 9, none⟩ = some (.int .i64 u.k) ∧ X.cell? ⟨g1, o1 + j * 9 + 1, none⟩ = some (.int .i64 u.pos) ∧ X.cell? ⟨g1, o1 + j * 9 + 2, none⟩ = some (.string ⟨u.col.toArray⟩) ∧ X.cell? ⟨g1, o1 + j * 9 + 3, none⟩ = some (.int .i64 u.v.k) ∧ X.cell? ⟨g1, o1 + j * 9 + 4, none⟩ = some (.int .i64 u.v.n) ∧ X.cell? ⟨g1, o1 + j * 9 + 5, none⟩ = some (.string u.v.s) ∧ X.cell? ⟨g1, o1 + j * 9 + 6, none⟩ = some (.int .u64 u.v.f) ∧ X.cell? ⟨g1, o1 + j * 9 + 7, none⟩ = some (.int .i64 u.op) ∧ X.cell? ⟨g1, o1 + j * 9 + 8, none⟩ = some (.slice ua un uc) ∧ X.cell? ⟨g2, o2 + j * 9, none⟩ = some (.int .i64 v.k) ∧ X.cell? ⟨g2, o2 + j * 9 + 1, none⟩ = some (.int .i64 v.pos) ∧ X.cell? ⟨g2, o2 + j * 9 + 2, none⟩ = some (.string ⟨v.col.toArray⟩) ∧ X.cell? ⟨g2, o2 + j * 9 + 3, none⟩ = some (.int .i64 v.v.k) ∧ X.cell? ⟨g2, o2 + j * 9 + 4, none⟩ = some (.int .i64 v.v.n) ∧ X.cell? ⟨g2, o2 + j * 9 + 5, none⟩ = some (.string v.v.s) ∧ X.cell? ⟨g2, o2 + j * 9 + 6, none⟩ = some (.int .u64 v.v.f) ∧ X.cell? ⟨g2, o2 + j * 9 + 7, none⟩ = some (.int .i64 v.op) ∧ X.cell? ⟨g2, o2 + j * 9 + 8, none⟩ = some (.slice va vn vc))
            (first | exact HKS.out _ (by with_reducible assumption) | with_reducible exact HKS.out _ (Below.refl _ _).drew | with_reducible exact HKS.out _ hb3)
            (first
              | (go_at_call 12; refine (Hc.out).mono ?_; rintro e w3 ⟨rfl, hb3⟩))
          all_goals
            have HB3 := Lib.hid (Hb.out.1.trans (hb3.mono Hb.out.1.size))
            clear hks
            go_wp2_with fail
            go_ret
            exact ⟨rfl, HB3.out⟩
        | true =>
          have Hs := Lib.hid hS
          rw [hS] at Hc
          clear hS
          simp only [Tree.val] at Hc
          go_upto_region 6 with fail
          have hks := HKS.out _ (Below.refl _ _)
          go_region_held3 (fun X => Below wr.heap.size wr X ∧ X.cell? ⟨w.heap.size, 8, none⟩ = some (.slice (some ⟨g1, o1, none⟩) m c) ∧ X.cell? ⟨w.heap.size + 1, 8, none⟩ = some (.slice (some ⟨g2, o2, none⟩) m k) ∧ X.cell? ⟨g1, o1 + j * 9, none⟩ = some (.int .i64 u.k) ∧ X.cell? ⟨g1, o1 + j * 9 + 1, none⟩ = some (.int .i64 u.pos) ∧ X.cell? ⟨g1, o1 + j * 9 + 2, none⟩ = some (.string ⟨u.col.toArray⟩) ∧ X.cell? ⟨g1, o1 + j * 9 + 3, none⟩ = some (.int .i64 u.v.k) ∧ X.cell? ⟨g1, o1 + j * 9 + 4, none⟩ = some (.int .i64 u.v.n) ∧ X.cell? ⟨g1, o1 + j * 9 + 5, none⟩ = some (.string u.v.s) ∧ X.cell? ⟨g1, o1 + j * 9 + 6, none⟩ = some (.int .u64 u.v.f) ∧ X.cell? ⟨g1, o1 + j * 9 + 7, none⟩ = some (.int .i64 u.op) ∧ X.cell? ⟨g1, o1 + j * 9 + 8, none⟩ = some (.slice ua un uc) ∧ X.cell? ⟨g2, o2 + j * 9, none⟩ = some (.int .i64 v.k) ∧ X.cell? ⟨g2, o2 + j * 9 + 1, none⟩ = some (.int .i64 v.pos) ∧ X.cell? ⟨g2, o2 + j * 9 + 2, none⟩ = some (.string ⟨v.col.toArray⟩) ∧ X.cell? ⟨g2, o2 + j * 9 + 3, none⟩ = some (.int .i64 v.v.k) ∧ X.cell? ⟨g2, o2 + j * 9 + 4, none⟩ = some (.int .i64 v.v.n) ∧ X.cell? ⟨g2, o2 + j * 9 + 5, none⟩ = some (.string v.v.s) ∧ X.cell? ⟨g2, o2 + j * 9 + 6, none⟩ = some (.int .u64 v.v.f) ∧ X.cell? ⟨g2, o2 + j * 9 + 7, none⟩ = some (.int .i64 v.op) ∧ X.cell? ⟨g2, o2 + j * 9 + 8, none⟩ = some (.slice va vn vc))
            (first | exact HKS.out _ (by with_reducible assumption) | with_reducible exact HKS.out _ (Below.refl _ _).drew | with_reducible exact HKS.out _ hb3)
            (first
              | (go_at_call 12; refine (Hc.out).mono ?_; rintro e w3 ⟨rfl, hb3⟩))
          all_goals
            have HB3 := Lib.hid (Hb.out.1.trans (hb3.mono Hb.out.1.size))
            have HB4 := Lib.hid (Hb.out.2.trans (hb3.mono Hb.out.2.size))
            clear hks
            go_wp2_with fail
            go_roundg (gk - 1)
            case measure => have := Hm.out; omega
            case rel => exact ⟨j + 1, I + 1, rfl, Lib.hid ⟨by have := HI.out; omega, by have := HI.out; have := Hm.out; omega, by rw [sameTs_next _ _ _ _ _ _ Hu.out Hv.out, HI.out.2.2, Hs.out]; rfl⟩, HB3.out, HB4.out⟩
theorem sameR_any (pl : Bool) (N : Nat) (hN : N ≤ 1000000) : ∀ x y : Tree, x.nodes ≤ N → SameC pl x y := by
  induction N with
  | zero => intro x y h; exact absurd (nodes_pos x) (by omega)
  | succ N ih =>
    intro x y h
    cases hK : sameK pl x y with
    | true => exact same_good pl N (by omega) (ih (by omega)) x y h hK
    | false => exact same_bad pl x y hK
end Go.Proofs.YthhghlnbpigcjaaGreatDoor
