/- The walk of a checker's truth: null tests, comparisons, tests of tests. -/
import Derived.Test.YtfkghfmgeholeaaGreatDoorCc2
import Derived.Test.YtfkghfmgeholeaaGreatDoorCa1
import Derived.Deep.RegionHeld3
set_option linter.unusedVariables false
set_option linter.unusedSimpArgs false
namespace Go.Proofs.YtfkghfmgeholeaaGreatDoor
open Go.RowKit

theorem KSl.two {w : World} {S : Nat → Prop} {x y : Tree} {a : Option Addr} {n : Nat} (h : KSl w S [x, y] a n) : ∃ b o ka kn kc la ln lc, a = some ⟨b, o, none⟩ ∧ n = 2 ∧ S b ∧ b < w.heap.size ∧ KAt w b o x ka kn kc ∧ KAt w b (o + 9) y la ln lc ∧ KSl w S x.kids ka kn ∧ KSl w S y.kids la ln := by
  cases h with
  | on hS hb hn hr =>
    cases hr with
    | cons h1 k1 r1 =>
      cases r1 with
      | cons h2 k2 r2 => exact ⟨_, _, _, _, _, _, _, _, rfl, hn, hS, hb, h1, h2, k1, k2⟩
theorem KSl.lone {w : World} {S : Nat → Prop} {x : Tree} {a : Option Addr} {n : Nat} (h : KSl w S [x] a n) : ∃ b o ka kn kc, a = some ⟨b, o, none⟩ ∧ n = 1 ∧ S b ∧ b < w.heap.size ∧ KAt w b o x ka kn kc ∧ KSl w S x.kids ka kn := by
  cases h with
  | on hS hb hn hr =>
    cases hr with
    | cons h1 k1 r1 => exact ⟨_, _, _, _, _, rfl, hn, hS, hb, h1, k1⟩
theorem KAt.blk {w w' : World} {b o P : Nat} {t : Tree} {a : Option Addr} {n c : Nat} (h : KAt w b o t a n c) (hb : But P w w') (hP : b ≠ P) : KAt w' b o t a n c := h.map fun i v hc => hb.cell hc hP
theorem firstT_null (l : List Fd) (p : Int) (x : Tree) : firstT l (.mk 3 p [] 0 zeroVal [x]) = opF l x := by
  rw [firstT, if_neg (by decide), if_neg (by decide), if_pos rfl]; rfl
theorem firstT_cmp (l : List Fd) (p o : Int) (x y : Tree) : firstT l (.mk 2 p [] o zeroVal [x, y]) = orF (opF l x) (orF (opF l y) (pairF l p x y)) := by
  rw [firstT, if_neg (by decide), if_pos rfl]; rfl
theorem pairF_yes {l : List Fd} {p : Int} {a b : Tree} (h : opV l a ≠ opV l b ∧ opV l a ≠ 0 ∧ opV l b ≠ 0) : pairF l p a b = some (p, 181) := by unfold pairF; rw [if_pos h]
theorem pairF_no {l : List Fd} {p : Int} {a b : Tree} (h : ¬ (opV l a ≠ opV l b ∧ opV l a ≠ 0 ∧ opV l b ≠ 0)) : pairF l p a b = none := by unfold pairF; rw [if_neg h]
set_option maxHeartbeats 8000000 in
set_option maxRecDepth 100000 in
theorem truth_null (p : Int) (x : Tree) : TruthA (.mk 3 p [] 0 zeroVal [x]) := by
  intro w P a n c l s h hn S hS ta tn tc hkids
  have HPl := Lib.hid h.lt
  have hb0 := Below.new w (.cells (Tree.cells (.mk 3 p [] 0 zeroVal [x]) ta tn tc) 30)
  have H0 := Lib.hid (h.below hb0)
  have HB0 : Hid (Below w.heap.size w _) := Lib.hid hb0
  have HV0 := Lib.hid (KVar.new w (.mk 3 p [] 0 zeroVal [x]) ta tn tc 30)
  rw [firstT_null]
  obtain ⟨b, o, ka, kn, kc, rfl, rfl, hSb, -, hx, -⟩ := hkids.lone
  have hbP : b ≠ P := fun e => hS (e ▸ hSb)
  have Hx := Lib.hid (hx.below hb0)
  have HO : Hid (∀ W, CkAt W P a n c l s → Calls Tryz.prog 49 #[.pointer (some ⟨P, 0, none⟩), .agg #[.int .i64 x.k, .int .i64 x.pos, .string ⟨x.col.toArray⟩, .int .i64 x.v.k, .int .i64 x.v.n, .string x.v.s, .int .u64 x.v.f, .int .i64 x.op, .slice ka kn kc]] W fun e w' => e = .returned (.int .i64 (opV l x)) ∧ CkAt w' P a n c l (updF s (opF l x)) ∧ But P W w') := Lib.hid fun W hw => operand_any W P a n c l s hw hn x ka kn kc
  clear h hb0 hn hkids hS hSb hx
  generalize updF s (opF l x) = Y at HO ⊢
  generalize opV l x = K at HO
  simp only [Tree.val, Tree.k, Tree.pos, Tree.col, Tree.op, Tree.v, zeroVal]
  go_enter Tryz.func34, Tryz.ntmps34
  go_upto_region 1 with fail
  generalize hW : World.alloc w _ = W
  replace H0 : Hid (CkAt W P a n c l s) := Lib.hid (by rw [← hW]; exact H0.out)
  replace HB0 : Hid (Below w.heap.size w W) := Lib.hid (by rw [← hW]; exact HB0.out)
  replace HV0 : Hid (KVar W w.heap.size (.mk 3 p [] 0 zeroVal [x]) (some ⟨b, o, none⟩) 1 tc) := Lib.hid (by rw [← hW]; exact HV0.out)
  have Hx1 : Hid (KAt W b o x ka kn kc) := Lib.hid (by rw [← hW]; exact Hx.out)
  clear hW
  obtain ⟨k0, k1, k2, k3, k4, k5, k6, k7, k8, -, -⟩ := HV0.out
  simp only [Tree.k, Tree.pos, Tree.col, Tree.op, Tree.v] at k0 k1 k2 k3 k4 k5 k6 k7 k8
  obtain ⟨c0, c1, c2, c3, c4, c5, c6, c7, c8⟩ := Hx1.out
  have hc := Lib.hid (HO.out W H0.out)
  go_wp2_with fail
  refine hc.out.mono ?_
  clear hc
  rintro e w2 ⟨rfl, hck, hbt⟩
  have H2 := Lib.hid hck
  have HB2 : Hid (But P w w2) := Lib.hid ((But.of HB0.out).trans hbt)
  clear hck hbt k0 k1 k2 k3 k4 k5 k6 k7 k8 c0 c1 c2 c3 c4 c5 c6 c7 c8
  go_wp2_with fail
  go_end0
  exact ⟨rfl, H2.out, HB2.out⟩
set_option maxHeartbeats 8000000 in
set_option maxRecDepth 100000 in
theorem truth_cmp (p op : Int) (x y : Tree) : TruthA (.mk 2 p [] op zeroVal [x, y]) := by
  intro w P a n c l s h hn S hS ta tn tc hkids
  have HPl := Lib.hid h.lt
  have hb0 := Below.new w (.cells (Tree.cells (.mk 2 p [] op zeroVal [x, y]) ta tn tc) 30)
  have H0 := Lib.hid (h.below hb0)
  have HB0 : Hid (Below w.heap.size w _) := Lib.hid hb0
  have HV0 := Lib.hid (KVar.new w (.mk 2 p [] op zeroVal [x, y]) ta tn tc 30)
  rw [firstT_cmp]
  obtain ⟨b, o, ka, kn, kc, la, ln, lc, rfl, rfl, hSb, -, hx, hy, -, -⟩ := hkids.two
  have hbP : b ≠ P := fun e => hS (e ▸ hSb)
  have HbP := Lib.hid hbP
  have Hx := Lib.hid (hx.below hb0)
  have Hy := Lib.hid (hy.below hb0)
  have HO1 : Hid (∀ W, CkAt W P a n c l s → Calls Tryz.prog 49 #[.pointer (some ⟨P, 0, none⟩), .agg #[.int .i64 x.k, .int .i64 x.pos, .string ⟨x.col.toArray⟩, .int .i64 x.v.k, .int .i64 x.v.n, .string x.v.s, .int .u64 x.v.f, .int .i64 x.op, .slice ka kn kc]] W fun e w' => e = .returned (.int .i64 (opV l x)) ∧ CkAt w' P a n c l (updF s (opF l x)) ∧ But P W w') := Lib.hid fun W hw => operand_any W P a n c l s hw hn x ka kn kc
  have HO2 : Hid (∀ W, CkAt W P a n c l (updF s (opF l x)) → Calls Tryz.prog 49 #[.pointer (some ⟨P, 0, none⟩), .agg #[.int .i64 y.k, .int .i64 y.pos, .string ⟨y.col.toArray⟩, .int .i64 y.v.k, .int .i64 y.v.n, .string y.v.s, .int .u64 y.v.f, .int .i64 y.op, .slice la ln lc]] W fun e w' => e = .returned (.int .i64 (opV l y)) ∧ CkAt w' P a n c l (updF (updF s (opF l x)) (opF l y)) ∧ But P W w') := Lib.hid fun W hw => operand_any W P a n c l _ hw hn y la ln lc
  have HF : Hid (∀ W s', CkAt W P a n c l s' → Calls Tryz.prog 50 #[.pointer (some ⟨P, 0, none⟩), .agg #[.int .i64 2, .int .i64 p, .string ⟨#[]⟩, .int .i64 0, .int .i64 0, .string ⟨#[]⟩, .int .u64 0, .int .i64 op, .slice (some ⟨b, o, none⟩) 2 tc], .int .i64 181] W fun e w' => e = .returned (.tuple #[]) ∧ CkAt w' P a n c l (updF s' (some (p, 181))) ∧ But P W w') := Lib.hid fun W s' hw => fault_any W P a n c l s' hw (.mk 2 p [] op zeroVal [x, y]) (some ⟨b, o, none⟩) 2 tc 181
  have e1 : ∀ q, opF l x = some q → q.2 ≠ 0 := fun q => opF_err
  have e2 : ∀ q, opF l y = some q → q.2 ≠ 0 := fun q => opF_err
  have hall : ∀ z, updF (updF (updF s (opF l x)) (opF l y)) z = updF s (orF (opF l x) (orF (opF l y) z)) := fun z => by rw [updF_or (updF s (opF l x)) _ _ e2, updF_or s _ _ e1]
  have Hyes : Hid (opV l x ≠ opV l y ∧ opV l x ≠ 0 ∧ opV l y ≠ 0 → updF (updF (updF s (opF l x)) (opF l y)) (some (p, 181)) = updF s (orF (opF l x) (orF (opF l y) (pairF l p x y)))) := Lib.hid fun q => by rw [hall, pairF_yes q]
  have Hno : Hid (¬ (opV l x ≠ opV l y ∧ opV l x ≠ 0 ∧ opV l y ≠ 0) → updF (updF s (opF l x)) (opF l y) = updF s (orF (opF l x) (orF (opF l y) (pairF l p x y)))) := Lib.hid fun q => by rw [← hall, pairF_no q, updF_none]
  clear h hb0 hn hkids hS hSb hx hy e1 e2 hall hbP
  generalize updF s (orF (opF l x) (orF (opF l y) (pairF l p x y))) = Z at Hyes Hno ⊢
  generalize updF (updF s (opF l x)) (opF l y) = Y2 at Hyes Hno HO2
  generalize updF s (opF l x) = Y1 at HO1 HO2
  generalize opV l x = K at HO1 Hyes Hno
  generalize opV l y = L at HO2 Hyes Hno
  simp only [Tree.val, Tree.k, Tree.pos, Tree.col, Tree.op, Tree.v, zeroVal]
  go_enter Tryz.func34, Tryz.ntmps34
  go_upto_region 1 with fail
  generalize hW : World.alloc w _ = W
  replace H0 : Hid (CkAt W P a n c l s) := Lib.hid (by rw [← hW]; exact H0.out)
  replace HB0 : Hid (Below w.heap.size w W) := Lib.hid (by rw [← hW]; exact HB0.out)
  replace HV0 : Hid (KVar W w.heap.size (.mk 2 p [] op zeroVal [x, y]) (some ⟨b, o, none⟩) 2 tc) := Lib.hid (by rw [← hW]; exact HV0.out)
  have Hx1 : Hid (KAt W b o x ka kn kc) := Lib.hid (by rw [← hW]; exact Hx.out)
  have Hy1 : Hid (KAt W b (o + 9) y la ln lc) := Lib.hid (by rw [← hW]; exact Hy.out)
  clear hW
  obtain ⟨k0, k1, k2, k3, k4, k5, k6, k7, k8, -, -⟩ := HV0.out
  simp only [Tree.k, Tree.pos, Tree.col, Tree.op, Tree.v] at k0 k1 k2 k3 k4 k5 k6 k7 k8
  go_upto_region 15 with fail
  have HKS : Hid (∀ X, But P W X → But P W X ∧ X.cell? ⟨w.heap.size, 8, none⟩ = some (.slice (some ⟨b, o, none⟩) 2 tc) ∧ X.cell? ⟨b, o, none⟩ = some (.int .i64 x.k) ∧ X.cell? ⟨b, o + 1, none⟩ = some (.int .i64 x.pos) ∧ X.cell? ⟨b, o + 2, none⟩ = some (.string ⟨x.col.toArray⟩) ∧ X.cell? ⟨b, o + 3, none⟩ = some (.int .i64 x.v.k) ∧ X.cell? ⟨b, o + 4, none⟩ = some (.int .i64 x.v.n) ∧ X.cell? ⟨b, o + 5, none⟩ = some (.string x.v.s) ∧ X.cell? ⟨b, o + 6, none⟩ = some (.int .u64 x.v.f) ∧ X.cell? ⟨b, o + 7, none⟩ = some (.int .i64 x.op) ∧ X.cell? ⟨b, o + 8, none⟩ = some (.slice ka kn kc) ∧ X.cell? ⟨b, o + 9, none⟩ = some (.int .i64 y.k) ∧ X.cell? ⟨b, o + 9 + 1, none⟩ = some (.int .i64 y.pos) ∧ X.cell? ⟨b, o + 9 + 2, none⟩ = some (.string ⟨y.col.toArray⟩) ∧ X.cell? ⟨b, o + 9 + 3, none⟩ = some (.int .i64 y.v.k) ∧ X.cell? ⟨b, o + 9 + 4, none⟩ = some (.int .i64 y.v.n) ∧ X.cell? ⟨b, o + 9 + 5, none⟩ = some (.string y.v.s) ∧ X.cell? ⟨b, o + 9 + 6, none⟩ = some (.int .u64 y.v.f) ∧ X.cell? ⟨b, o + 9 + 7, none⟩ = some (.int .i64 y.op) ∧ X.cell? ⟨b, o + 9 + 8, none⟩ = some (.slice la ln lc)) := Lib.hid fun X hb => by
    have kA := HV0.out.but hb HPl.out
    have kB := Hx1.out.blk hb HbP.out
    have kC := Hy1.out.blk hb HbP.out
    exact ⟨hb, kA.c8, kB.c0, kB.c1, kB.c2, kB.c3, kB.c4, kB.c5, kB.c6, kB.c7, kB.c8, kC.c0, kC.c1, kC.c2, kC.c3, kC.c4, kC.c5, kC.c6, kC.c7, kC.c8⟩
  have HckD := Lib.hid (H0.out.below (Below.refl _ W).drew)
  clear k0 k1 k2 k3 k4 k5 k6 k7 k8
  refine wp_region_noPanic ?_
  refine wp_region_held_drew (S := fun X => But P W X ∧ X.cell? ⟨w.heap.size, 8, none⟩ = some (.slice (some ⟨b, o, none⟩) 2 tc) ∧ X.cell? ⟨b, o, none⟩ = some (.int .i64 x.k) ∧ X.cell? ⟨b, o + 1, none⟩ = some (.int .i64 x.pos) ∧ X.cell? ⟨b, o + 2, none⟩ = some (.string ⟨x.col.toArray⟩) ∧ X.cell? ⟨b, o + 3, none⟩ = some (.int .i64 x.v.k) ∧ X.cell? ⟨b, o + 4, none⟩ = some (.int .i64 x.v.n) ∧ X.cell? ⟨b, o + 5, none⟩ = some (.string x.v.s) ∧ X.cell? ⟨b, o + 6, none⟩ = some (.int .u64 x.v.f) ∧ X.cell? ⟨b, o + 7, none⟩ = some (.int .i64 x.op) ∧ X.cell? ⟨b, o + 8, none⟩ = some (.slice ka kn kc) ∧ X.cell? ⟨b, o + 9, none⟩ = some (.int .i64 y.k) ∧ X.cell? ⟨b, o + 9 + 1, none⟩ = some (.int .i64 y.pos) ∧ X.cell? ⟨b, o + 9 + 2, none⟩ = some (.string ⟨y.col.toArray⟩) ∧ X.cell? ⟨b, o + 9 + 3, none⟩ = some (.int .i64 y.v.k) ∧ X.cell? ⟨b, o + 9 + 4, none⟩ = some (.int .i64 y.v.n) ∧ X.cell? ⟨b, o + 9 + 5, none⟩ = some (.string y.v.s) ∧ X.cell? ⟨b, o + 9 + 6, none⟩ = some (.int .u64 y.v.f) ∧ X.cell? ⟨b, o + 9 + 7, none⟩ = some (.int .i64 y.op) ∧ X.cell? ⟨b, o + 9 + 8, none⟩ = some (.slice la ln lc)) (by kernel_rfl) (HKS.out _ (But.of (Below.refl _ _).drew)) (fun hHeld => ?_)
  refine wpAnyH_take (i := 0) (oi := ⟨some 47, _, _, _, _, _⟩) (v := ?_) rfl (by kernel_rfl) (by kernel_rfl) (by kernel_rfl) (fun _ _ _ h => h) (Or.inl ⟨by rfl, ?_⟩) (by assumption) ?_; rotate_left
  · (intro X hSw; (try dsimp only at hSw); go_simp; all_goals with_reducible rfl)
  (try simp only [Act.put, List.setIfInBounds_toArray, List.set_cons_zero, List.set_cons_succ])
  refine wpAnyH_take (i := 1) (oi := ⟨some 48, _, _, _, _, _⟩) (v := ?_) rfl (by kernel_rfl) (by kernel_rfl) (by kernel_rfl) (fun _ _ _ h => h) (Or.inl ⟨by rfl, ?_⟩) (by assumption) ?_; rotate_left
  · (intro X hSw; (try dsimp only at hSw); go_simp; all_goals with_reducible rfl)
  (try simp only [Act.put, List.setIfInBounds_toArray, List.set_cons_zero, List.set_cons_succ])
  refine wpAnyH_take (i := 2) (oi := ⟨some 49, _, _, _, _, _⟩) (v := ?_) rfl (by kernel_rfl) (by kernel_rfl) (by kernel_rfl) (fun _ _ _ h => h) (Or.inl ⟨by rfl, ?_⟩) (by assumption) ?_; rotate_left
  · (intro X hSw; (try dsimp only at hSw); go_simp; all_goals with_reducible rfl)
  (try simp only [Act.put, List.setIfInBounds_toArray, List.set_cons_zero, List.set_cons_succ])
  refine wpAnyH_take (i := 3) (oi := ⟨some 50, _, _, _, _, _⟩) (v := ?_) rfl (by kernel_rfl) (by kernel_rfl) (by kernel_rfl) (fun _ _ _ h => h) (Or.inl ⟨by rfl, ?_⟩) (by assumption) ?_; rotate_left
  · (intro X hSw; (try dsimp only at hSw); go_simp; all_goals with_reducible rfl)
  (try simp only [Act.put, List.setIfInBounds_toArray, List.set_cons_zero, List.set_cons_succ])
  refine wpAnyH_take (i := 4) (oi := ⟨some 51, _, _, _, _, _⟩) (v := ?_) rfl (by kernel_rfl) (by kernel_rfl) (by kernel_rfl) (fun _ _ _ h => h) (Or.inl ⟨by rfl, ?_⟩) (by assumption) ?_; rotate_left
  · (intro X hSw; (try dsimp only at hSw); go_simp; all_goals with_reducible rfl)
  (try simp only [Act.put, List.setIfInBounds_toArray, List.set_cons_zero, List.set_cons_succ])
  refine wpAnyH_take (i := 6) (oi := ⟨some 53, _, _, _, _, _⟩) (v := ?_) rfl (by kernel_rfl) (by kernel_rfl) (by kernel_rfl) (fun _ _ _ h => h) (Or.inl ⟨by rfl, ?_⟩) (by assumption) ?_; rotate_left
  · (intro X hSw; (try dsimp only at hSw); go_simp; all_goals with_reducible rfl)
  (try simp only [Act.put, List.setIfInBounds_toArray, List.set_cons_zero, List.set_cons_succ])
  refine wpAnyH_take (i := 7) (oi := ⟨some 54, _, _, _, _, _⟩) (v := ?_) rfl (by kernel_rfl) (by kernel_rfl) (by kernel_rfl) (fun _ _ _ h => h) (Or.inl ⟨by rfl, ?_⟩) (by assumption) ?_; rotate_left
  · (intro X hSw; (try dsimp only at hSw); go_simp; all_goals with_reducible rfl)
  (try simp only [Act.put, List.setIfInBounds_toArray, List.set_cons_zero, List.set_cons_succ])
  refine wpAnyH_take (i := 8) (oi := ⟨some 55, _, _, _, _, _⟩) (v := ?_) rfl (by kernel_rfl) (by kernel_rfl) (by kernel_rfl) (fun _ _ _ h => h) (Or.inl ⟨by rfl, ?_⟩) (by assumption) ?_; rotate_left
  · (intro X hSw; (try dsimp only at hSw); go_simp; all_goals with_reducible rfl)
  (try simp only [Act.put, List.setIfInBounds_toArray, List.set_cons_zero, List.set_cons_succ])
  refine wpAnyH_take (i := 9) (oi := ⟨some 56, _, _, _, _, _⟩) (v := ?_) rfl (by kernel_rfl) (by kernel_rfl) (by kernel_rfl) (fun _ _ _ h => h) (Or.inl ⟨by rfl, ?_⟩) (by assumption) ?_; rotate_left
  · (intro X hSw; (try dsimp only at hSw); go_simp; all_goals with_reducible rfl)
  (try simp only [Act.put, List.setIfInBounds_toArray, List.set_cons_zero, List.set_cons_succ])
  refine wpAnyH_take (i := 10) (oi := ⟨some 57, _, _, _, _, _⟩) (v := ?_) rfl (by kernel_rfl) (by kernel_rfl) (by kernel_rfl) (fun _ _ _ h => h) (Or.inl ⟨by rfl, ?_⟩) (by assumption) ?_; rotate_left
  · (intro X hSw; (try dsimp only at hSw); go_simp; all_goals with_reducible rfl)
  (try simp only [Act.put, List.setIfInBounds_toArray, List.set_cons_zero, List.set_cons_succ])
  refine wpAnyH_ready (rs := [5]) (by kernel_rfl) (by simp) ?_
  refine AllReadyH.cons (o := _) rfl (fun K1 hK => ?_) AllReadyH.nil
  go_simp
  refine (HO1.out _ HckD.out).mono ?_
  rintro e wx ⟨rfl, hck, hbt⟩
  have hbx := hHeld.1.trans hbt
  have Hck1 := Lib.hid hck
  clear hck hbt
  go_wp2_with fail
  refine hK.out _ _ ?_ (fun hHeld2 => ?_)
  · exact HKS.out _ hbx
  clear hK K1 hHeld
  have hHeld := hHeld2
  clear hHeld2 hbx
  (try simp only [Act.put, List.setIfInBounds_toArray, List.set_cons_zero, List.set_cons_succ])
  refine wpAnyH_ready (rs := [11]) (by kernel_rfl) (by simp) ?_
  refine AllReadyH.cons (o := _) rfl (fun K1 hK => ?_) AllReadyH.nil
  go_simp
  refine (HO2.out _ Hck1.out).mono ?_
  rintro e wx ⟨rfl, hck, hbt⟩
  have hbx := hHeld.1.trans hbt
  have Hck2 := Lib.hid hck
  clear hck hbt
  go_wp2_with fail
  refine hK.out _ _ ?_ (fun hHeld2 => ?_)
  · exact HKS.out _ hbx
  clear hK K1 hHeld
  have hHeld := hHeld2
  clear hHeld2 hbx
  (try simp only [Act.put, List.setIfInBounds_toArray, List.set_cons_zero, List.set_cons_succ])
  refine wpAnyH_take (i := 12) (oi := ⟨some 5, _, _, _, _, _⟩) (v := ?_) rfl (by kernel_rfl) (by kernel_rfl) (by kernel_rfl) (fun _ _ _ h => h) (Or.inl ⟨by rfl, ?_⟩) (by assumption) ?_; rotate_left
  · (intro X hSw; (try dsimp only at hSw); go_simp; all_goals with_reducible rfl)
  (try simp only [Act.put, List.setIfInBounds_toArray, List.set_cons_zero, List.set_cons_succ])
  refine wpAnyH_take (i := 13) (oi := ⟨some 6, _, _, _, _, _⟩) (v := ?_) rfl (by kernel_rfl) (by kernel_rfl) (by kernel_rfl) (fun _ _ _ h => h) (Or.inl ⟨by rfl, ?_⟩) (by assumption) ?_; rotate_left
  · (intro X hSw; (try dsimp only at hSw); go_simp; all_goals with_reducible rfl)
  (try simp only [Act.put, List.setIfInBounds_toArray, List.set_cons_zero, List.set_cons_succ])
  refine wpAnyH_done (by kernel_rfl) ?_ _
  refine NoPanic.normal ?_
  have HB2 : Hid (But P w _) := Lib.hid ((But.of HB0.out).trans hHeld.1)
  have HV2 := Lib.hid (HV0.out.but hHeld.1 HPl.out)
  clear HKS hHeld HckD
  have ret : Y2 = Z → True := fun _ => trivial
  by_cases c0 : K = L
  · obtain rfl : Y2 = Z := Hno.out (fun h => h.1 c0)
    have d0 : (K != L) = false := by rw [c0]; simp
    clear Hyes Hno c0 ret
    go_wp2_with fail
    go_end0
    exact ⟨rfl, Hck2.out, HB2.out⟩
  · have d0 : (K != L) = true := by rw [bne_iff_ne]; exact c0
    by_cases c1 : K = 0
    · obtain rfl : Y2 = Z := Hno.out (fun h => h.2.1 c1)
      have d1 : (K != 0) = false := by rw [c1]; rfl
      clear Hyes Hno c0 c1 ret
      go_wp2_with fail
      go_end0
      exact ⟨rfl, Hck2.out, HB2.out⟩
    · have d1 : (K != 0) = true := by rw [bne_iff_ne]; exact c1
      by_cases c2 : L = 0
      · obtain rfl : Y2 = Z := Hno.out (fun h => h.2.2 c2)
        have d2 : (L != 0) = false := by rw [c2]; rfl
        clear Hyes Hno c0 c1 c2 ret
        go_wp2_with fail
        go_end0
        exact ⟨rfl, Hck2.out, HB2.out⟩
      · have Hz : Hid (updF Y2 (some (p, 181)) = Z) := Lib.hid (Hyes.out ⟨c0, c1, c2⟩)
        have d2 : (L != 0) = true := by rw [bne_iff_ne]; exact c2
        clear Hyes Hno c0 c1 c2 ret
        obtain ⟨k0, k1, k2, k3, k4, k5, k6, k7, k8, -, -⟩ := HV2.out
        simp only [Tree.k, Tree.pos, Tree.col, Tree.op, Tree.v] at k0 k1 k2 k3 k4 k5 k6 k7 k8
        have hf := Lib.hid (HF.out _ Y2 Hck2.out)
        go_wp2_with fail
        refine hf.out.mono ?_
        rintro e w4 ⟨rfl, hck, hbt⟩
        have H4 : Hid (CkAt w4 P a n c l Z) := Lib.hid (Hz.out ▸ hck)
        have HB4 : Hid (But P w w4) := Lib.hid (HB2.out.trans hbt)
        clear hck hbt hf
        go_wp2_with fail
        go_end0
        exact ⟨rfl, H4.out, HB4.out⟩
set_option maxHeartbeats 8000000 in
set_option maxRecDepth 100000 in
theorem truth_node (k p : Int) (hk : k = 4 ∨ k = 5 ∨ k = 6) (kids : List Tree) (hlen : kids.length ≤ 2) (ih : ∀ x ∈ kids, TruthA x) : TruthA (.mk k p [] 0 zeroVal kids) := by
  intro w P a n c l s h hn S hS ta tn tc hkids
  have HPl := Lib.hid h.lt
  have hb0 := Below.new w (.cells (Tree.cells (.mk k p [] 0 zeroVal kids) ta tn tc) 30)
  have H0 := Lib.hid (h.below hb0)
  have HB0 : Hid (Below w.heap.size w _) := Lib.hid hb0
  have HV0 := Lib.hid (KVar.new w (.mk k p [] 0 zeroVal kids) ta tn tc 30)
  rw [firstT_node l k p kids (by omega) (by omega) (by omega) (by omega)]
  have HS := Lib.hid hS
  have Hn := Lib.hid hn
  have IH := Lib.hid ih
  have HK0 := Lib.hid (hkids.later hb0)
  have Hlen := Lib.hid hkids.len
  have hti : (tn : Int) ≤ 2 := by have h1 : tn = kids.length := hkids.len; omega
  clear h hb0 hn hkids hS ih hlen
  generalize hZ : updF s (firstTs l kids) = Z
  have HZ := Lib.hid hZ
  clear hZ
  simp only [Tree.val, Tree.k, Tree.pos, Tree.col, Tree.op, Tree.v, zeroVal]
  rcases hk with rfl | rfl | rfl
  all_goals
    go_enter Tryz.func34, Tryz.ntmps34
    go_upto_region 1 with fail
    generalize hW : World.alloc w _ = W
    replace H0 : Hid (CkAt W P a n c l s) := Lib.hid (by rw [← hW]; exact H0.out)
    replace HB0 : Hid (Below w.heap.size w W) := Lib.hid (by rw [← hW]; exact HB0.out)
    replace HV0 : Hid (KVar W w.heap.size (.mk _ p [] 0 zeroVal kids) ta tn tc) := Lib.hid (by rw [← hW]; exact HV0.out)
    have HK1 : Hid (KSl W S kids ta tn) := Lib.hid (by rw [← hW]; exact HK0.out)
    clear hW
    obtain ⟨k0, k1, k2, k3, k4, k5, k6, k7, k8, -, -⟩ := HV0.out
    simp only [Tree.k, Tree.pos, Tree.col, Tree.op, Tree.v] at k0 k1 k2 k3 k4 k5 k6 k7 k8
    go_wp2_with fail
    go_loopg [8, 14] tn (fun g _ s14 wx => ∃ (j : Nat) (I : Int), s14 = .int .i64 I ∧ Hid (I = (j : Int) ∧ j + g = tn) ∧ Hid (CkAt wx P a n c l (updF s (firstTs l (kids.take j))) ∧ But P W wx))
    case atStart => exact ⟨0, 0, rfl, Lib.hid ⟨rfl, by omega⟩, Lib.hid ⟨by rw [List.take_zero, firstTs, updF_none]; exact H0.out, But.refl _ _⟩⟩
    case round =>
      clear k0 k1 k2 k3 k4 k5 k6 k7 k8
      obtain ⟨j, I, rfl, HI, HC⟩ := hrel
      have hI0 : 0 ≤ I := by have := HI.out; omega
      by_cases hm : gk = 0
      · have hI1 : ¬ I < (tn : Int) := by have := HI.out; omega
        have HR : Hid (CkAt wr P a n c l Z) := Lib.hid (by
          have h1 := HI.out; have h2 := HK1.out.len
          have h3 : kids.take j = kids := List.take_of_length_le (by omega)
          have h4 := HC.out.1
          rw [h3, HZ.out] at h4
          exact h4)
        have HB : Hid (But P w wr) := Lib.hid ((But.of HB0.out).trans HC.out.2)
        clear hm
        go_wp2_with fail
        go_end0
        exact ⟨rfl, HR.out, HB.out⟩
      · have hI1 : I < (tn : Int) := by have := HI.out; omega
        have hIj : I.toNat = j := by have := HI.out; omega
        obtain ⟨x, hx⟩ : ∃ x, kids[j]? = some x := ⟨kids[j]'(by have := HI.out; have := HK1.out.len; omega), List.getElem?_eq_getElem _⟩
        have hkr := HK1.out.blk HC.out.2 HS.out
        obtain ⟨b, o, ka, kn, kc, e1, hka, hks⟩ := hkr.get hx
        subst e1
        have herr := firstTs_err l (kids.take j)
        have Hnx : Hid (updF (updF s (firstTs l (kids.take j))) (firstT l x) = updF s (firstTs l (kids.take (j + 1)))) := Lib.hid (by
          rw [updF_or s _ _ herr, List.take_add_one, hx, firstTs_append]
          show _ = updF s (orF _ (firstTs l [x]))
          rw [firstTs, firstTs, orF_no])
        have hbn := Below.new wr (.cells (x.cells ka kn kc) 30)
        have hHC : CkAt wr P a n c l (updF s (firstTs l (kids.take j))) := HC.out.1
        have HCn := Lib.hid (hHC.below hbn)
        have Hvn := Lib.hid (KVar.new wr x ka kn kc 30)
        have Hbt : Hid (But P W _) := Lib.hid (HC.out.2.trans (But.of hbn))
        have HKn := Lib.hid (hks.later hbn)
        have Hka := Lib.hid hka
        have Hm := Lib.hid hm
        have HX : Hid (∀ X, CkAt X P a n c l (updF s (firstTs l (kids.take j))) → KSl X S x.kids ka kn → Calls Tryz.prog 34 #[.pointer (some ⟨P, 0, none⟩), .agg #[.int .i64 x.k, .int .i64 x.pos, .string ⟨x.col.toArray⟩, .int .i64 x.v.k, .int .i64 x.v.n, .string x.v.s, .int .u64 x.v.f, .int .i64 x.op, .slice ka kn kc]] X fun e w' => e = .returned (.tuple #[]) ∧ CkAt w' P a n c l (updF (updF s (firstTs l (kids.take j))) (firstT l x)) ∧ But P X w') := Lib.hid fun X h1 h2 => IH.out x (List.mem_of_getElem? hx) X P a n c l _ h1 Hn.out S HS.out ka kn kc h2
        rw [Hnx.out] at HX
        clear hm hx hkr hka hks herr Hnx hbn HC hHC
        generalize updF s (firstTs l (kids.take j)) = Y at HCn HX
        obtain ⟨c0, c1, c2, c3, c4, c5, c6, c7, c8⟩ := Hka.out
        go_upto_region 5 with fail
        clear c0 c1 c2 c3 c4 c5 c6 c7 c8
        generalize (wr.alloc _) = W5 at HCn Hvn Hbt HKn ⊢
        obtain ⟨c0, c1, c2, c3, c4, c5, c6, c7, c8, -, -⟩ := Hvn.out
        have hc := Lib.hid (HX.out W5 HCn.out HKn.out)
        go_wp2_with fail
        refine hc.out.mono ?_
        clear hc
        rintro e w6 ⟨rfl, hck, hbt6⟩
        have H6 := Lib.hid hck
        have Hbt6 : Hid (But P W w6) := Lib.hid (Hbt.out.trans hbt6)
        clear hck hbt6 c0 c1 c2 c3 c4 c5 c6 c7 c8
        go_wp2_with fail
        go_roundg (gk - 1)
        case measure => have := Hm.out; omega
        case rel => exact ⟨j + 1, I + 1, rfl, Lib.hid ⟨by have := HI.out; omega, by have := HI.out; have := Hm.out; omega⟩, Lib.hid ⟨H6.out, Hbt6.out⟩⟩
theorem ckTruth_any (N : Nat) : ∀ (t : Tree) (d : Nat), t.depth ≤ N → rightT d t = true → TruthA t := by
  induction N with
  | zero => intro t d hd; have := depth_eq t; omega
  | succ N ih =>
    intro t d hd hr
    have hf := (right_form hr).1
    cases hf with
    | col p c hc => exact truth_leaf _ (.inl rfl)
    | lit p v hv => exact truth_leaf _ (.inr rfl)
    | null p a ha hra => exact truth_null p a
    | cmp p o a b h0 h5 ha hb hra hrb => exact truth_cmp p o a b
    | not p a hra =>
      rw [depth_mk, deep_cons] at hd
      exact truth_node 4 p (.inl rfl) [a] (by simp) fun x hx => by
        rw [List.mem_singleton.1 hx]; exact ih a _ (by omega) hra
    | and p a b hra hrb =>
      rw [depth_mk, deep_cons, deep_cons] at hd
      exact truth_node 5 p (.inr (.inl rfl)) [a, b] (by simp) fun x hx => by
        rcases List.mem_cons.1 hx with rfl | hx
        · exact ih _ _ (by omega) hra
        · rw [List.mem_singleton.1 hx]; exact ih b _ (by omega) hrb
    | or p a b hra hrb =>
      rw [depth_mk, deep_cons, deep_cons] at hd
      exact truth_node 6 p (.inr (.inr rfl)) [a, b] (by simp) fun x hx => by
        rcases List.mem_cons.1 hx with rfl | hx
        · exact ih _ _ (by omega) hra
        · rw [List.mem_singleton.1 hx]; exact ih b _ (by omega) hrb
end Go.Proofs.YtfkghfmgeholeaaGreatDoor
