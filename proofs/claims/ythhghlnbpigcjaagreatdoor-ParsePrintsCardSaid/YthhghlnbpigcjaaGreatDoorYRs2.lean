/- The walk of ref17.Print, of right tests. -/
import Derived.Test.YthhghlnbpigcjaaGreatDoorYPf1
import Derived.Test.YthhghlnbpigcjaaGreatDoorYJ6
import Derived.Test.YthhghlnbpigcjaaGreatDoorYGP
import Derived.Deep.RegionHeld3
import Derived.Deep.RegionWith
set_option linter.unusedVariables false
set_option linter.unusedSimpArgs false
namespace Go.Proofs.YthhghlnbpigcjaaGreatDoor
open Go.RowKit

/-- ref17.Print of a right test that isn't too deep -/
def PrintRC (N : Nat) : Prop := ∀ (t : Tree) (d : Nat), t.depth ≤ N → rightT d t = true → WfT t → (printT t).length ≤ 1000000 → ∀ (w : World) (S : Nat → Prop) (a : Option Addr) (n c : Nat), KSl w S t.kids a n → Calls Tryz.prog 19 #[t.val a n c] w fun e w' => e = .returned (.string ⟨(printT t).toArray⟩) ∧ Below w.heap.size w w'
theorem addLL (W : World) (x y : List UInt8) (h : x.length + y.length ≤ 2000000) : (Op.stringOp .add ⟨x.toArray⟩ ⟨y.toArray⟩).run Tryz.prog W = .ok (.string ⟨(x ++ y).toArray⟩) W := by
  have := run_string_add_sum (P := Tryz.prog) W (⟨x.toArray⟩ : ByteArray) ⟨y.toArray⟩ (by simp [ByteArray.size]; omega)
  rw [this]
  congr 2
theorem wpAnyH_moreS {P : Program} {md : Region.Mode} {ops : Array Oper} {Q : Exit → Act → World → Prop} {S S' : World → Prop} (hs : ∀ w, S' w → S w) : ∀ (fuel : Nat) (listed : Array Bool) (a : Act) (w : World), wpAnyH P md ops Q S' fuel listed a w → wpAnyH P md ops Q S fuel listed a w
  | 0, _, _, _, h => h
  | fuel + 1, _, _, _, h => ⟨h.1, fun i hi => wpOp_mono (fun a' w' h' => ⟨hs _ h'.1, wpAnyH_moreS hs fuel _ a' w' h'.2⟩) (h.2 i hi)⟩
/-- a comparison's word, blanks around -/
def midL (o : Int) : List UInt8 := 32 :: (opTextL o ++ [32])
set_option maxHeartbeats 8000000 in
set_option maxRecDepth 100000 in
theorem printR_col (p : Int) (col : List UInt8) (hl : col.length ≤ 100000) (w : World) (a : Option Addr) (n c : Nat) : Calls Tryz.prog 19 #[(Tree.mk 0 p col 0 zeroVal []).val a n c] w fun e w' => e = .returned (.string ⟨(36 :: col).toArray⟩) ∧ Below w.heap.size w w' := by
  have hc := fun W => addLL W [36] col (by simp; omega)
  simp only [List.cons_append, List.nil_append] at hc
  simp only [Tree.val, Tree.k, Tree.pos, Tree.col, Tree.v, Tree.op, zeroVal]
  have Hb0 := Lib.hid (Below.new w (.cells #[.int .i64 0, .int .i64 p, .string ⟨col.toArray⟩, .int .i64 0, .int .i64 0, .string ⟨#[]⟩, .int .u64 0, .int .i64 0, .slice a n c] 31))
  go_enter Tryz.func19, Tryz.ntmps19
  go_wp2_with fail
  go_ret
  exact ⟨rfl, Hb0.out⟩
set_option maxHeartbeats 8000000 in
set_option maxRecDepth 100000 in
theorem printR_lit (p : Int) (v : Val) (hv : v.Wf) (w : World) (a : Option Addr) (n c : Nat) : Calls Tryz.prog 19 #[(Tree.mk 1 p [] 0 v []).val a n c] w fun e w' => e = .returned (.string ⟨(printVL (rightOf v)).toArray⟩) ∧ Below w.heap.size w w' := by
  have Hc : Hid (∀ W, Calls Tryz.prog 33 #[.agg #[.int .i64 v.k, .int .i64 v.n, .string v.s, .int .u64 v.f]] W fun e w' => e = .returned (.string ⟨(printVL (rightOf v)).toArray⟩) ∧ Below W.heap.size W w') := Lib.hid fun W => printVR_any W v hv
  simp only [Tree.val, Tree.k, Tree.pos, Tree.col, Tree.v, Tree.op]
  have Hb0 := Lib.hid (Below.new w (.cells #[.int .i64 1, .int .i64 p, .string ⟨#[]⟩, .int .i64 v.k, .int .i64 v.n, .string v.s, .int .u64 v.f, .int .i64 0, .slice a n c] 31))
  generalize printVL (rightOf v) = L at Hc ⊢
  go_enter Tryz.func19, Tryz.ntmps19
  go_wp2_with fail
  refine (Hc.out _).mono ?_
  rintro e w2 ⟨rfl, hb2⟩
  have Hb2 := Lib.hid (Hb0.out.trans (hb2.mono Hb0.out.size))
  clear hb2
  go_wp2_with fail
  go_ret
  exact ⟨rfl, Hb2.out⟩
set_option maxHeartbeats 16000000 in
set_option maxRecDepth 100000 in
theorem printR_k2 (p op : Int) (ho0 : 0 ≤ op) (ho5 : op ≤ 5) (u v : Tree) (L M : List UInt8) (hL : L.length + M.length ≤ 1000000)
    (hC : ∀ (w : World) (S : Nat → Prop) (a : Option Addr) (n c : Nat), KSl w S u.kids a n → Calls Tryz.prog 19 #[u.val a n c] w fun e w' => e = .returned (.string ⟨L.toArray⟩) ∧ Below w.heap.size w w')
    (hD : ∀ (w : World) (S : Nat → Prop) (a : Option Addr) (n c : Nat), KSl w S v.kids a n → Calls Tryz.prog 19 #[v.val a n c] w fun e w' => e = .returned (.string ⟨M.toArray⟩) ∧ Below w.heap.size w w')
    (w : World) (S : Nat → Prop) (a : Option Addr) (n c : Nat) (hks : KSl w S [u, v] a n) : Calls Tryz.prog 19 #[(Tree.mk 2 p [] op zeroVal [u, v]).val a n c] w fun e w' => e = .returned (.string ⟨([40] ++ L ++ midL op ++ M ++ [41]).toArray⟩) ∧ Below w.heap.size w w' := by
  have hcase : op = 0 ∨ op = 1 ∨ op = 2 ∨ op = 3 ∨ op = 4 ∨ op = 5 := by omega
  have hm : (midL op).length ≤ 4 := by rcases hcase with rfl | rfl | rfl | rfl | rfl | rfl <;> decide
  have hix : ∀ X : World, (X.alloc (.cells #[.string ⟨#[32, 61, 32]⟩, .string ⟨#[32, 33, 61, 32]⟩, .string ⟨#[32, 60, 32]⟩, .string ⟨#[32, 60, 61, 32]⟩, .string ⟨#[32, 62, 32]⟩, .string ⟨#[32, 62, 61, 32]⟩] 9)).cell? ⟨X.heap.size, op.toNat, none⟩ = some (.string ⟨(midL op).toArray⟩) := fun X => by
    rcases hcase with rfl | rfl | rfl | rfl | rfl | rfl <;> simp [midL, opTextL]
  have hon : op.toNat < 6 := by omega
  have hon2 : op < 6 := by omega
  have hc1 := fun W => addLL W [40] L (by simp; omega)
  have hc2 := fun W => addLL W ([40] ++ L) (midL op) (by simp; omega)
  have hc3 := fun W => addLL W ([40] ++ L ++ midL op) M (by simp; omega)
  have hc4 := fun W => addLL W ([40] ++ L ++ midL op ++ M) [41] (by simp; omega)
  generalize hX : [40] ++ L = X1 at hc1 hc2 hc3 hc4 ⊢
  generalize hX2 : X1 ++ midL op = X2 at hc2 hc3 hc4 ⊢
  generalize hX3 : X2 ++ M = X3 at hc3 hc4 ⊢
  generalize hX4 : X3 ++ [41] = X4 at hc4 ⊢
  obtain ⟨b, o, ka, kn, kc, rfl, hka, hkk⟩ := hks.get (i := 0) (t := u) rfl
  obtain ⟨b', o', la, ln, lc, e1, hla, hll⟩ := hks.get (i := 1) (t := v) rfl
  injection e1 with e1
  injection e1 with e1 e2
  subst e1 e2
  obtain rfl : n = 2 := hks.len
  have HC := Lib.hid hC
  have HD := Lib.hid hD
  rw [Nat.zero_mul, Nat.add_zero] at hka
  rw [Nat.one_mul] at hla
  have Hka := Lib.hid hka; have Hla := Lib.hid hla; have Hkk := Lib.hid hkk; have Hll := Lib.hid hll
  simp only [Tree.val, Tree.k, Tree.pos, Tree.col, Tree.v, Tree.op, zeroVal]
  have HV1 := Lib.hid (KVar.new w (Tree.mk 2 p [] op zeroVal [u, v]) (some ⟨b, o, none⟩) 2 c 31)
  have Hb0 := Lib.hid (Below.new w (.cells #[.int .i64 2, .int .i64 p, .string ⟨#[]⟩, .int .i64 0, .int .i64 0, .string ⟨#[]⟩, .int .u64 0, .int .i64 op, .slice (some ⟨b, o, none⟩) 2 c] 31))
  clear hka hkk hla hll hks hC hD hL hX hX2 hX3 hX4 hcase hm
  go_enter Tryz.func19, Tryz.ntmps19
  go_upto_region 7 with fail
  generalize hW : w.alloc _ = W1
  replace HV1 : Hid (KVar W1 w.heap.size (Tree.mk 2 p [] op zeroVal [u, v]) (some ⟨b, o, none⟩) 2 c) := Lib.hid (by rw [← hW]; exact HV1.out)
  replace Hb0 : Hid (Below w.heap.size w W1) := Lib.hid (by rw [← hW]; exact Hb0.out)
  have HKS : Hid (∀ X, Below W1.heap.size W1 X → Below W1.heap.size W1 X ∧ X.cell? ⟨w.heap.size, 7, none⟩ = some (.int .i64 op) ∧ X.cell? ⟨w.heap.size, 8, none⟩ = some (.slice (some ⟨b, o, none⟩) 2 c) ∧ X.cell? ⟨b, o, none⟩ = some (.int .i64 u.k) ∧ X.cell? ⟨b, o + 1, none⟩ = some (.int .i64 u.pos) ∧ X.cell? ⟨b, o + 2, none⟩ = some (.string ⟨u.col.toArray⟩) ∧ X.cell? ⟨b, o + 3, none⟩ = some (.int .i64 u.v.k) ∧ X.cell? ⟨b, o + 4, none⟩ = some (.int .i64 u.v.n) ∧ X.cell? ⟨b, o + 5, none⟩ = some (.string u.v.s) ∧ X.cell? ⟨b, o + 6, none⟩ = some (.int .u64 u.v.f) ∧ X.cell? ⟨b, o + 7, none⟩ = some (.int .i64 u.op) ∧ X.cell? ⟨b, o + 8, none⟩ = some (.slice ka kn kc) ∧ X.cell? ⟨b, o + 9, none⟩ = some (.int .i64 v.k) ∧ X.cell? ⟨b, o + 9 + 1, none⟩ = some (.int .i64 v.pos) ∧ X.cell? ⟨b, o + 9 + 2, none⟩ = some (.string ⟨v.col.toArray⟩) ∧ X.cell? ⟨b, o + 9 + 3, none⟩ = some (.int .i64 v.v.k) ∧ X.cell? ⟨b, o + 9 + 4, none⟩ = some (.int .i64 v.v.n) ∧ X.cell? ⟨b, o + 9 + 5, none⟩ = some (.string v.v.s) ∧ X.cell? ⟨b, o + 9 + 6, none⟩ = some (.int .u64 v.v.f) ∧ X.cell? ⟨b, o + 9 + 7, none⟩ = some (.int .i64 v.op) ∧ X.cell? ⟨b, o + 9 + 8, none⟩ = some (.slice la ln lc)) := Lib.hid fun X hb => by
    have hh := Hb0.out.trans (hb.mono Hb0.out.size)
    have kA := HV1.out.below hb HV1.out.lt
    have kB := Hka.out.below hh
    have kC := Hla.out.below hh
    exact ⟨hb, kA.c7, kA.c8, kB.c0, kB.c1, kB.c2, kB.c3, kB.c4, kB.c5, kB.c6, kB.c7, kB.c8, kC.c0, kC.c1, kC.c2, kC.c3, kC.c4, kC.c5, kC.c6, kC.c7, kC.c8⟩
  have HU : Hid (∀ X, Below W1.heap.size W1 X → Calls Tryz.prog 19 #[.agg #[.int .i64 u.k, .int .i64 u.pos, .string ⟨u.col.toArray⟩, .int .i64 u.v.k, .int .i64 u.v.n, .string u.v.s, .int .u64 u.v.f, .int .i64 u.op, .slice ka kn kc]] X fun e w' => e = .returned (.string ⟨L.toArray⟩) ∧ Below X.heap.size X w') := Lib.hid fun X hb => HC.out X S ka kn kc (Hkk.out.later (Hb0.out.trans (hb.mono Hb0.out.size)))
  have HV : Hid (∀ X, Below W1.heap.size W1 X → Calls Tryz.prog 19 #[.agg #[.int .i64 v.k, .int .i64 v.pos, .string ⟨v.col.toArray⟩, .int .i64 v.v.k, .int .i64 v.v.n, .string v.v.s, .int .u64 v.v.f, .int .i64 v.op, .slice la ln lc]] X fun e w' => e = .returned (.string ⟨M.toArray⟩) ∧ Below X.heap.size X w') := Lib.hid fun X hb => HD.out X S la ln lc (Hll.out.later (Hb0.out.trans (hb.mono Hb0.out.size)))
  clear hW HV1
  refine wp_region_noPanic ?_
  refine wp_region_held_drew (S := fun X => Below W1.heap.size W1 X ∧ X.cell? ⟨w.heap.size, 7, none⟩ = some (.int .i64 op) ∧ X.cell? ⟨w.heap.size, 8, none⟩ = some (.slice (some ⟨b, o, none⟩) 2 c) ∧ X.cell? ⟨b, o, none⟩ = some (.int .i64 u.k) ∧ X.cell? ⟨b, o + 1, none⟩ = some (.int .i64 u.pos) ∧ X.cell? ⟨b, o + 2, none⟩ = some (.string ⟨u.col.toArray⟩) ∧ X.cell? ⟨b, o + 3, none⟩ = some (.int .i64 u.v.k) ∧ X.cell? ⟨b, o + 4, none⟩ = some (.int .i64 u.v.n) ∧ X.cell? ⟨b, o + 5, none⟩ = some (.string u.v.s) ∧ X.cell? ⟨b, o + 6, none⟩ = some (.int .u64 u.v.f) ∧ X.cell? ⟨b, o + 7, none⟩ = some (.int .i64 u.op) ∧ X.cell? ⟨b, o + 8, none⟩ = some (.slice ka kn kc) ∧ X.cell? ⟨b, o + 9, none⟩ = some (.int .i64 v.k) ∧ X.cell? ⟨b, o + 9 + 1, none⟩ = some (.int .i64 v.pos) ∧ X.cell? ⟨b, o + 9 + 2, none⟩ = some (.string ⟨v.col.toArray⟩) ∧ X.cell? ⟨b, o + 9 + 3, none⟩ = some (.int .i64 v.v.k) ∧ X.cell? ⟨b, o + 9 + 4, none⟩ = some (.int .i64 v.v.n) ∧ X.cell? ⟨b, o + 9 + 5, none⟩ = some (.string v.v.s) ∧ X.cell? ⟨b, o + 9 + 6, none⟩ = some (.int .u64 v.v.f) ∧ X.cell? ⟨b, o + 9 + 7, none⟩ = some (.int .i64 v.op) ∧ X.cell? ⟨b, o + 9 + 8, none⟩ = some (.slice la ln lc)) (by kernel_rfl) (HKS.out _ (Below.refl _ _).drew) (fun hHeld => ?_)
  generalize W1.drew = Wd at hHeld ⊢
  refine wpAnyH_take (i := 0) (oi := ⟨some 17, _, _, _, _, _⟩) (v := ?_) rfl (by kernel_rfl) (by kernel_rfl) (by kernel_rfl) (fun _ _ _ h => h) (Or.inl ⟨by rfl, ?_⟩) (by assumption) ?_; rotate_left
  · (intro X hSw; (try dsimp only at hSw); go_simp; all_goals with_reducible rfl)
  (try simp only [Act.put, List.setIfInBounds_toArray, List.set_cons_zero, List.set_cons_succ])
  refine wpAnyH_take (i := 1) (oi := ⟨some 18, _, _, _, _, _⟩) (v := ?_) rfl (by kernel_rfl) (by kernel_rfl) (by kernel_rfl) (fun _ _ _ h => h) (Or.inl ⟨by rfl, ?_⟩) (by assumption) ?_; rotate_left
  · (intro X hSw; (try dsimp only at hSw); go_simp; all_goals with_reducible rfl)
  (try simp only [Act.put, List.setIfInBounds_toArray, List.set_cons_zero, List.set_cons_succ])
  refine wpAnyH_take (i := 2) (oi := ⟨some 19, _, _, _, _, _⟩) (v := ?_) rfl (by kernel_rfl) (by kernel_rfl) (by kernel_rfl) (fun _ _ _ h => h) (Or.inl ⟨by rfl, ?_⟩) (by assumption) ?_; rotate_left
  · (intro X hSw; (try dsimp only at hSw); go_simp; all_goals with_reducible rfl)
  (try simp only [Act.put, List.setIfInBounds_toArray, List.set_cons_zero, List.set_cons_succ])
  refine wpAnyH_take (i := 3) (oi := ⟨some 20, _, _, _, _, _⟩) (v := ?_) rfl (by kernel_rfl) (by kernel_rfl) (by kernel_rfl) (fun _ _ _ h => h) (Or.inl ⟨by rfl, ?_⟩) (by assumption) ?_; rotate_left
  · (intro X hSw; (try dsimp only at hSw); go_simp; all_goals with_reducible rfl)
  (try simp only [Act.put, List.setIfInBounds_toArray, List.set_cons_zero, List.set_cons_succ])
  refine wpAnyH_take (i := 7) (oi := ⟨some 24, _, _, _, _, _⟩) (v := ?_) rfl (by kernel_rfl) (by kernel_rfl) (by kernel_rfl) (fun _ _ _ h => h) (Or.inl ⟨by rfl, ?_⟩) (by assumption) ?_; rotate_left
  · (intro X hSw; (try dsimp only at hSw); go_simp; all_goals with_reducible rfl)
  (try simp only [Act.put, List.setIfInBounds_toArray, List.set_cons_zero, List.set_cons_succ])
  refine wpAnyH_take (i := 8) (oi := ⟨some 25, _, _, _, _, _⟩) (v := ?_) rfl (by kernel_rfl) (by kernel_rfl) (by kernel_rfl) (fun _ _ _ h => h) (Or.inl ⟨by rfl, ?_⟩) (by assumption) ?_; rotate_left
  · (intro X hSw; (try dsimp only at hSw); go_simp; all_goals with_reducible rfl)
  (try simp only [Act.put, List.setIfInBounds_toArray, List.set_cons_zero, List.set_cons_succ])
  refine wpAnyH_take (i := 12) (oi := ⟨some 29, _, _, _, _, _⟩) (v := ?_) rfl (by kernel_rfl) (by kernel_rfl) (by kernel_rfl) (fun _ _ _ h => h) (Or.inl ⟨by rfl, ?_⟩) (by assumption) ?_; rotate_left
  · (intro X hSw; (try dsimp only at hSw); go_simp; all_goals with_reducible rfl)
  (try simp only [Act.put, List.setIfInBounds_toArray, List.set_cons_zero, List.set_cons_succ])
  refine wpAnyH_take (i := 13) (oi := ⟨some 30, _, _, _, _, _⟩) (v := ?_) rfl (by kernel_rfl) (by kernel_rfl) (by kernel_rfl) (fun _ _ _ h => h) (Or.inl ⟨by rfl, ?_⟩) (by assumption) ?_; rotate_left
  · (intro X hSw; (try dsimp only at hSw); go_simp; all_goals with_reducible rfl)
  (try simp only [Act.put, List.setIfInBounds_toArray, List.set_cons_zero, List.set_cons_succ])
  refine wpAnyH_take (i := 14) (oi := ⟨some 31, _, _, _, _, _⟩) (v := ?_) rfl (by kernel_rfl) (by kernel_rfl) (by kernel_rfl) (fun _ _ _ h => h) (Or.inl ⟨by rfl, ?_⟩) (by assumption) ?_; rotate_left
  · (intro X hSw; (try dsimp only at hSw); go_simp; all_goals with_reducible rfl)
  (try simp only [Act.put, List.setIfInBounds_toArray, List.set_cons_zero, List.set_cons_succ])
  refine wpAnyH_take (i := 15) (oi := ⟨some 32, _, _, _, _, _⟩) (v := ?_) rfl (by kernel_rfl) (by kernel_rfl) (by kernel_rfl) (fun _ _ _ h => h) (Or.inl ⟨by rfl, ?_⟩) (by assumption) ?_; rotate_left
  · (intro X hSw; (try dsimp only at hSw); go_simp; all_goals with_reducible rfl)
  (try simp only [Act.put, List.setIfInBounds_toArray, List.set_cons_zero, List.set_cons_succ])
  refine wpAnyH_ready (rs := [4, 6]) (by kernel_rfl) (by simp) ?_
  refine AllReadyH.cons (o := _) rfl (fun K hK => ?_) (AllReadyH.cons (o := _) rfl (fun K hK => ?_) AllReadyH.nil)
  · go_simp
    refine (HU.out _ hHeld.1).mono ?_
    rintro e wx ⟨rfl, hb0⟩
    have hbx := hHeld.1.trans (hb0.mono hHeld.1.size)
    clear hb0
    go_wp2_with fail
    refine hK.out _ _ ?_ (fun hHeld2 => ?_)
    · exact HKS.out _ hbx
    clear hK K hHeld
    have hHeld := hHeld2
    clear hHeld2
    (try simp only [Act.put, List.setIfInBounds_toArray, List.set_cons_zero, List.set_cons_succ])
    refine wpAnyH_take (i := 5) (oi := ⟨some 22, _, _, _, _, _⟩) (v := ?_) rfl (by kernel_rfl) (by kernel_rfl) (by kernel_rfl) (fun _ _ _ h => h) (Or.inl ⟨by rfl, ?_⟩) (by assumption) ?_; rotate_left
    · (intro X hSw; (try dsimp only at hSw); go_simp; all_goals with_reducible rfl)
    (try simp only [Act.put, List.setIfInBounds_toArray, List.set_cons_zero, List.set_cons_succ])
    refine wpAnyH_ready (rs := [6, 16]) (by kernel_rfl) (by simp) ?_
    refine AllReadyH.cons (o := _) rfl (fun K hK => ?_) (AllReadyH.cons (o := _) rfl (fun K hK => ?_) AllReadyH.nil)
    · go_simp
      refine hK.out _ _ ?_ (fun hHeld2 => ?_)
      · exact HKS.out _ (hHeld.1.trans ((Below.new _ _).mono hHeld.1.size))
      clear hK K hHeld2
      (try simp only [Act.put, List.setIfInBounds_toArray, List.set_cons_zero, List.set_cons_succ])
      generalize hWb : World.alloc wx _ = Wb
      have hb1 : Below W1.heap.size W1 Wb := by rw [← hWb]; exact hHeld.1.trans ((Below.new _ _).mono hHeld.1.size)
      have hcell : Wb.cell? ⟨World.heap wx |>.size, op.toNat, none⟩ = some (.string ⟨(midL op).toArray⟩) := by rw [← hWb]; exact hix _
      generalize (World.heap wx).size = B at hcell ⊢
      have Hb1 := Lib.hid hb1; have Hcell := Lib.hid hcell
      clear hb1 hcell hWb hHeld
      have HKS2 : Hid (∀ X, Below Wb.heap.size Wb X → Below Wb.heap.size Wb X ∧ X.cell? ⟨B, op.toNat, none⟩ = some (.string ⟨(midL op).toArray⟩) ∧ X.cell? ⟨w.heap.size, 7, none⟩ = some (.int .i64 op) ∧ X.cell? ⟨w.heap.size, 8, none⟩ = some (.slice (some ⟨b, o, none⟩) 2 c) ∧ X.cell? ⟨b, o, none⟩ = some (.int .i64 u.k) ∧ X.cell? ⟨b, o + 1, none⟩ = some (.int .i64 u.pos) ∧ X.cell? ⟨b, o + 2, none⟩ = some (.string ⟨u.col.toArray⟩) ∧ X.cell? ⟨b, o + 3, none⟩ = some (.int .i64 u.v.k) ∧ X.cell? ⟨b, o + 4, none⟩ = some (.int .i64 u.v.n) ∧ X.cell? ⟨b, o + 5, none⟩ = some (.string u.v.s) ∧ X.cell? ⟨b, o + 6, none⟩ = some (.int .u64 u.v.f) ∧ X.cell? ⟨b, o + 7, none⟩ = some (.int .i64 u.op) ∧ X.cell? ⟨b, o + 8, none⟩ = some (.slice ka kn kc) ∧ X.cell? ⟨b, o + 9, none⟩ = some (.int .i64 v.k) ∧ X.cell? ⟨b, o + 9 + 1, none⟩ = some (.int .i64 v.pos) ∧ X.cell? ⟨b, o + 9 + 2, none⟩ = some (.string ⟨v.col.toArray⟩) ∧ X.cell? ⟨b, o + 9 + 3, none⟩ = some (.int .i64 v.v.k) ∧ X.cell? ⟨b, o + 9 + 4, none⟩ = some (.int .i64 v.v.n) ∧ X.cell? ⟨b, o + 9 + 5, none⟩ = some (.string v.v.s) ∧ X.cell? ⟨b, o + 9 + 6, none⟩ = some (.int .u64 v.v.f) ∧ X.cell? ⟨b, o + 9 + 7, none⟩ = some (.int .i64 v.op) ∧ X.cell? ⟨b, o + 9 + 8, none⟩ = some (.slice la ln lc)) := Lib.hid fun X hb => ⟨hb, (hb.cell (World.block_lt_of_cell? _ _ Hcell.out)).trans Hcell.out, (HKS.out X (Hb1.out.trans (hb.mono Hb1.out.size))).2⟩
      have HU2 : Hid (∀ X, Below Wb.heap.size Wb X → Calls Tryz.prog 19 #[.agg #[.int .i64 u.k, .int .i64 u.pos, .string ⟨u.col.toArray⟩, .int .i64 u.v.k, .int .i64 u.v.n, .string u.v.s, .int .u64 u.v.f, .int .i64 u.op, .slice ka kn kc]] X fun e w' => e = .returned (.string ⟨L.toArray⟩) ∧ Below X.heap.size X w') := Lib.hid fun X hb => HU.out X (Hb1.out.trans (hb.mono Hb1.out.size))
      have HV2 : Hid (∀ X, Below Wb.heap.size Wb X → Calls Tryz.prog 19 #[.agg #[.int .i64 v.k, .int .i64 v.pos, .string ⟨v.col.toArray⟩, .int .i64 v.v.k, .int .i64 v.v.n, .string v.v.s, .int .u64 v.v.f, .int .i64 v.op, .slice la ln lc]] X fun e w' => e = .returned (.string ⟨M.toArray⟩) ∧ Below X.heap.size X w') := Lib.hid fun X hb => HV.out X (Hb1.out.trans (hb.mono Hb1.out.size))
      refine wpAnyH_moreS (S' := fun X => Below Wb.heap.size Wb X ∧ X.cell? ⟨B, op.toNat, none⟩ = some (.string ⟨(midL op).toArray⟩) ∧ X.cell? ⟨w.heap.size, 7, none⟩ = some (.int .i64 op) ∧ X.cell? ⟨w.heap.size, 8, none⟩ = some (.slice (some ⟨b, o, none⟩) 2 c) ∧ X.cell? ⟨b, o, none⟩ = some (.int .i64 u.k) ∧ X.cell? ⟨b, o + 1, none⟩ = some (.int .i64 u.pos) ∧ X.cell? ⟨b, o + 2, none⟩ = some (.string ⟨u.col.toArray⟩) ∧ X.cell? ⟨b, o + 3, none⟩ = some (.int .i64 u.v.k) ∧ X.cell? ⟨b, o + 4, none⟩ = some (.int .i64 u.v.n) ∧ X.cell? ⟨b, o + 5, none⟩ = some (.string u.v.s) ∧ X.cell? ⟨b, o + 6, none⟩ = some (.int .u64 u.v.f) ∧ X.cell? ⟨b, o + 7, none⟩ = some (.int .i64 u.op) ∧ X.cell? ⟨b, o + 8, none⟩ = some (.slice ka kn kc) ∧ X.cell? ⟨b, o + 9, none⟩ = some (.int .i64 v.k) ∧ X.cell? ⟨b, o + 9 + 1, none⟩ = some (.int .i64 v.pos) ∧ X.cell? ⟨b, o + 9 + 2, none⟩ = some (.string ⟨v.col.toArray⟩) ∧ X.cell? ⟨b, o + 9 + 3, none⟩ = some (.int .i64 v.v.k) ∧ X.cell? ⟨b, o + 9 + 4, none⟩ = some (.int .i64 v.v.n) ∧ X.cell? ⟨b, o + 9 + 5, none⟩ = some (.string v.v.s) ∧ X.cell? ⟨b, o + 9 + 6, none⟩ = some (.int .u64 v.v.f) ∧ X.cell? ⟨b, o + 9 + 7, none⟩ = some (.int .i64 v.op) ∧ X.cell? ⟨b, o + 9 + 8, none⟩ = some (.slice la ln lc)) (fun X h => HKS.out X (Hb1.out.trans (h.1.mono Hb1.out.size))) _ _ _ _ ?_
      have hHeld := HKS2.out Wb (Below.refl _ _)
      refine wpAnyH_take (i := 9) (oi := ⟨some 26, _, _, _, _, _⟩) (v := ?_) rfl (by kernel_rfl) (by kernel_rfl) (by kernel_rfl) (fun _ _ _ h => h) (Or.inl ⟨by rfl, ?_⟩) (by assumption) ?_; rotate_left
      · (intro X hSw; (try dsimp only at hSw); go_simp; all_goals with_reducible rfl)
      (try simp only [Act.put, List.setIfInBounds_toArray, List.set_cons_zero, List.set_cons_succ])
      refine wpAnyH_take (i := 10) (oi := ⟨some 27, _, _, _, _, _⟩) (v := ?_) rfl (by kernel_rfl) (by kernel_rfl) (by kernel_rfl) (fun _ _ _ h => h) (Or.inl ⟨by rfl, ?_⟩) (by assumption) ?_; rotate_left
      · (intro X hSw; (try dsimp only at hSw); go_simp; all_goals with_reducible rfl)
      (try simp only [Act.put, List.setIfInBounds_toArray, List.set_cons_zero, List.set_cons_succ])
      refine wpAnyH_take (i := 11) (oi := ⟨some 28, _, _, _, _, _⟩) (v := ?_) rfl (by kernel_rfl) (by kernel_rfl) (by kernel_rfl) (fun _ _ _ h => h) (Or.inl ⟨by rfl, ?_⟩) (by assumption) ?_; rotate_left
      · (intro X hSw; (try dsimp only at hSw); go_simp; all_goals with_reducible rfl)
      (try simp only [Act.put, List.setIfInBounds_toArray, List.set_cons_zero, List.set_cons_succ])
      refine wpAnyH_ready (rs := [16]) (by kernel_rfl) (by simp) ?_
      refine AllReadyH.cons (o := _) rfl (fun K hK => ?_) AllReadyH.nil
      go_simp
      refine (HV2.out _ hHeld.1).mono ?_
      rintro e wx ⟨rfl, hb0⟩
      have hbx := hHeld.1.trans (hb0.mono hHeld.1.size)
      clear hb0
      go_wp2_with fail
      refine hK.out _ _ ?_ (fun hHeld2 => ?_)
      · exact HKS2.out _ hbx
      clear hK K hHeld
      have hHeld := hHeld2
      clear hHeld2
      (try simp only [Act.put, List.setIfInBounds_toArray, List.set_cons_zero, List.set_cons_succ])
      refine wpAnyH_take (i := 17) (oi := ⟨some 34, _, _, _, _, _⟩) (v := ?_) rfl (by kernel_rfl) (by kernel_rfl) (by kernel_rfl) (fun _ _ _ h => h) (Or.inl ⟨by rfl, ?_⟩) (by assumption) ?_; rotate_left
      · (intro X hSw; (try dsimp only at hSw); go_simp; all_goals with_reducible rfl)
      (try simp only [Act.put, List.setIfInBounds_toArray, List.set_cons_zero, List.set_cons_succ])
      refine wpAnyH_take (i := 18) (oi := ⟨some 35, _, _, _, _, _⟩) (v := ?_) rfl (by kernel_rfl) (by kernel_rfl) (by kernel_rfl) (fun _ _ _ h => h) (Or.inl ⟨by rfl, ?_⟩) (by assumption) ?_; rotate_left
      · (intro X hSw; (try dsimp only at hSw); go_simp; all_goals with_reducible rfl)
      (try simp only [Act.put, List.setIfInBounds_toArray, List.set_cons_zero, List.set_cons_succ])
      refine wpAnyH_take (i := 19) (oi := ⟨some 2, _, _, _, _, _⟩) (v := ?_) rfl (by kernel_rfl) (by kernel_rfl) (by kernel_rfl) (fun _ _ _ h => h) (Or.inl ⟨by rfl, ?_⟩) (by assumption) ?_; rotate_left
      · (intro X hSw; (try dsimp only at hSw); go_simp; all_goals with_reducible rfl)
      (try simp only [Act.put, List.setIfInBounds_toArray, List.set_cons_zero, List.set_cons_succ])
      refine wpAnyH_done (by kernel_rfl) ?_ _
      refine NoPanic.normal ?_
      have HB := Lib.hid ((Hb0.out.trans (Hb1.out.mono Hb0.out.size)).trans (hHeld.1.mono (Hb0.out.trans (Hb1.out.mono Hb0.out.size)).size))
      clear HKS hHeld
      go_wp2_with fail
      go_ret
      exact ⟨rfl, HB.out⟩
    · go_simp
      refine (HV.out _ hHeld.1).mono ?_
      rintro e wy ⟨rfl, hb0⟩
      have hbx := hHeld.1.trans (hb0.mono hHeld.1.size)
      clear hb0
      go_wp2_with fail
      refine hK.out _ _ ?_ (fun hHeld2 => ?_)
      · exact HKS.out _ hbx
      clear hK K hHeld
      have hHeld := hHeld2
      clear hHeld2
      (try simp only [Act.put, List.setIfInBounds_toArray, List.set_cons_zero, List.set_cons_succ])
      refine wpAnyH_ready (rs := [6]) (by kernel_rfl) (by simp) ?_
      refine AllReadyH.cons (o := _) rfl (fun K hK => ?_) AllReadyH.nil
      go_simp
      refine hK.out _ _ ?_ (fun hHeld2 => ?_)
      · exact HKS.out _ (hHeld.1.trans ((Below.new _ _).mono hHeld.1.size))
      clear hK K hHeld2
      (try simp only [Act.put, List.setIfInBounds_toArray, List.set_cons_zero, List.set_cons_succ])
      generalize hWb : World.alloc wy _ = Wb
      have hb1 : Below W1.heap.size W1 Wb := by rw [← hWb]; exact hHeld.1.trans ((Below.new _ _).mono hHeld.1.size)
      have hcell : Wb.cell? ⟨World.heap wy |>.size, op.toNat, none⟩ = some (.string ⟨(midL op).toArray⟩) := by rw [← hWb]; exact hix _
      generalize (World.heap wy).size = B at hcell ⊢
      have Hb1 := Lib.hid hb1; have Hcell := Lib.hid hcell
      clear hb1 hcell hWb hHeld
      have HKS2 : Hid (∀ X, Below Wb.heap.size Wb X → Below Wb.heap.size Wb X ∧ X.cell? ⟨B, op.toNat, none⟩ = some (.string ⟨(midL op).toArray⟩) ∧ X.cell? ⟨w.heap.size, 7, none⟩ = some (.int .i64 op) ∧ X.cell? ⟨w.heap.size, 8, none⟩ = some (.slice (some ⟨b, o, none⟩) 2 c) ∧ X.cell? ⟨b, o, none⟩ = some (.int .i64 u.k) ∧ X.cell? ⟨b, o + 1, none⟩ = some (.int .i64 u.pos) ∧ X.cell? ⟨b, o + 2, none⟩ = some (.string ⟨u.col.toArray⟩) ∧ X.cell? ⟨b, o + 3, none⟩ = some (.int .i64 u.v.k) ∧ X.cell? ⟨b, o + 4, none⟩ = some (.int .i64 u.v.n) ∧ X.cell? ⟨b, o + 5, none⟩ = some (.string u.v.s) ∧ X.cell? ⟨b, o + 6, none⟩ = some (.int .u64 u.v.f) ∧ X.cell? ⟨b, o + 7, none⟩ = some (.int .i64 u.op) ∧ X.cell? ⟨b, o + 8, none⟩ = some (.slice ka kn kc) ∧ X.cell? ⟨b, o + 9, none⟩ = some (.int .i64 v.k) ∧ X.cell? ⟨b, o + 9 + 1, none⟩ = some (.int .i64 v.pos) ∧ X.cell? ⟨b, o + 9 + 2, none⟩ = some (.string ⟨v.col.toArray⟩) ∧ X.cell? ⟨b, o + 9 + 3, none⟩ = some (.int .i64 v.v.k) ∧ X.cell? ⟨b, o + 9 + 4, none⟩ = some (.int .i64 v.v.n) ∧ X.cell? ⟨b, o + 9 + 5, none⟩ = some (.string v.v.s) ∧ X.cell? ⟨b, o + 9 + 6, none⟩ = some (.int .u64 v.v.f) ∧ X.cell? ⟨b, o + 9 + 7, none⟩ = some (.int .i64 v.op) ∧ X.cell? ⟨b, o + 9 + 8, none⟩ = some (.slice la ln lc)) := Lib.hid fun X hb => ⟨hb, (hb.cell (World.block_lt_of_cell? _ _ Hcell.out)).trans Hcell.out, (HKS.out X (Hb1.out.trans (hb.mono Hb1.out.size))).2⟩
      have HU2 : Hid (∀ X, Below Wb.heap.size Wb X → Calls Tryz.prog 19 #[.agg #[.int .i64 u.k, .int .i64 u.pos, .string ⟨u.col.toArray⟩, .int .i64 u.v.k, .int .i64 u.v.n, .string u.v.s, .int .u64 u.v.f, .int .i64 u.op, .slice ka kn kc]] X fun e w' => e = .returned (.string ⟨L.toArray⟩) ∧ Below X.heap.size X w') := Lib.hid fun X hb => HU.out X (Hb1.out.trans (hb.mono Hb1.out.size))
      have HV2 : Hid (∀ X, Below Wb.heap.size Wb X → Calls Tryz.prog 19 #[.agg #[.int .i64 v.k, .int .i64 v.pos, .string ⟨v.col.toArray⟩, .int .i64 v.v.k, .int .i64 v.v.n, .string v.v.s, .int .u64 v.v.f, .int .i64 v.op, .slice la ln lc]] X fun e w' => e = .returned (.string ⟨M.toArray⟩) ∧ Below X.heap.size X w') := Lib.hid fun X hb => HV.out X (Hb1.out.trans (hb.mono Hb1.out.size))
      refine wpAnyH_moreS (S' := fun X => Below Wb.heap.size Wb X ∧ X.cell? ⟨B, op.toNat, none⟩ = some (.string ⟨(midL op).toArray⟩) ∧ X.cell? ⟨w.heap.size, 7, none⟩ = some (.int .i64 op) ∧ X.cell? ⟨w.heap.size, 8, none⟩ = some (.slice (some ⟨b, o, none⟩) 2 c) ∧ X.cell? ⟨b, o, none⟩ = some (.int .i64 u.k) ∧ X.cell? ⟨b, o + 1, none⟩ = some (.int .i64 u.pos) ∧ X.cell? ⟨b, o + 2, none⟩ = some (.string ⟨u.col.toArray⟩) ∧ X.cell? ⟨b, o + 3, none⟩ = some (.int .i64 u.v.k) ∧ X.cell? ⟨b, o + 4, none⟩ = some (.int .i64 u.v.n) ∧ X.cell? ⟨b, o + 5, none⟩ = some (.string u.v.s) ∧ X.cell? ⟨b, o + 6, none⟩ = some (.int .u64 u.v.f) ∧ X.cell? ⟨b, o + 7, none⟩ = some (.int .i64 u.op) ∧ X.cell? ⟨b, o + 8, none⟩ = some (.slice ka kn kc) ∧ X.cell? ⟨b, o + 9, none⟩ = some (.int .i64 v.k) ∧ X.cell? ⟨b, o + 9 + 1, none⟩ = some (.int .i64 v.pos) ∧ X.cell? ⟨b, o + 9 + 2, none⟩ = some (.string ⟨v.col.toArray⟩) ∧ X.cell? ⟨b, o + 9 + 3, none⟩ = some (.int .i64 v.v.k) ∧ X.cell? ⟨b, o + 9 + 4, none⟩ = some (.int .i64 v.v.n) ∧ X.cell? ⟨b, o + 9 + 5, none⟩ = some (.string v.v.s) ∧ X.cell? ⟨b, o + 9 + 6, none⟩ = some (.int .u64 v.v.f) ∧ X.cell? ⟨b, o + 9 + 7, none⟩ = some (.int .i64 v.op) ∧ X.cell? ⟨b, o + 9 + 8, none⟩ = some (.slice la ln lc)) (fun X h => HKS.out X (Hb1.out.trans (h.1.mono Hb1.out.size))) _ _ _ _ ?_
      have hHeld := HKS2.out Wb (Below.refl _ _)
      refine wpAnyH_take (i := 9) (oi := ⟨some 26, _, _, _, _, _⟩) (v := ?_) rfl (by kernel_rfl) (by kernel_rfl) (by kernel_rfl) (fun _ _ _ h => h) (Or.inl ⟨by rfl, ?_⟩) (by assumption) ?_; rotate_left
      · (intro X hSw; (try dsimp only at hSw); go_simp; all_goals with_reducible rfl)
      (try simp only [Act.put, List.setIfInBounds_toArray, List.set_cons_zero, List.set_cons_succ])
      refine wpAnyH_take (i := 10) (oi := ⟨some 27, _, _, _, _, _⟩) (v := ?_) rfl (by kernel_rfl) (by kernel_rfl) (by kernel_rfl) (fun _ _ _ h => h) (Or.inl ⟨by rfl, ?_⟩) (by assumption) ?_; rotate_left
      · (intro X hSw; (try dsimp only at hSw); go_simp; all_goals with_reducible rfl)
      (try simp only [Act.put, List.setIfInBounds_toArray, List.set_cons_zero, List.set_cons_succ])
      refine wpAnyH_take (i := 11) (oi := ⟨some 28, _, _, _, _, _⟩) (v := ?_) rfl (by kernel_rfl) (by kernel_rfl) (by kernel_rfl) (fun _ _ _ h => h) (Or.inl ⟨by rfl, ?_⟩) (by assumption) ?_; rotate_left
      · (intro X hSw; (try dsimp only at hSw); go_simp; all_goals with_reducible rfl)
      (try simp only [Act.put, List.setIfInBounds_toArray, List.set_cons_zero, List.set_cons_succ])
      refine wpAnyH_take (i := 17) (oi := ⟨some 34, _, _, _, _, _⟩) (v := ?_) rfl (by kernel_rfl) (by kernel_rfl) (by kernel_rfl) (fun _ _ _ h => h) (Or.inl ⟨by rfl, ?_⟩) (by assumption) ?_; rotate_left
      · (intro X hSw; (try dsimp only at hSw); go_simp; all_goals with_reducible rfl)
      (try simp only [Act.put, List.setIfInBounds_toArray, List.set_cons_zero, List.set_cons_succ])
      refine wpAnyH_take (i := 18) (oi := ⟨some 35, _, _, _, _, _⟩) (v := ?_) rfl (by kernel_rfl) (by kernel_rfl) (by kernel_rfl) (fun _ _ _ h => h) (Or.inl ⟨by rfl, ?_⟩) (by assumption) ?_; rotate_left
      · (intro X hSw; (try dsimp only at hSw); go_simp; all_goals with_reducible rfl)
      (try simp only [Act.put, List.setIfInBounds_toArray, List.set_cons_zero, List.set_cons_succ])
      refine wpAnyH_take (i := 19) (oi := ⟨some 2, _, _, _, _, _⟩) (v := ?_) rfl (by kernel_rfl) (by kernel_rfl) (by kernel_rfl) (fun _ _ _ h => h) (Or.inl ⟨by rfl, ?_⟩) (by assumption) ?_; rotate_left
      · (intro X hSw; (try dsimp only at hSw); go_simp; all_goals with_reducible rfl)
      (try simp only [Act.put, List.setIfInBounds_toArray, List.set_cons_zero, List.set_cons_succ])
      refine wpAnyH_done (by kernel_rfl) ?_ _
      refine NoPanic.normal ?_
      have HB := Lib.hid ((Hb0.out.trans (Hb1.out.mono Hb0.out.size)).trans (hHeld.1.mono (Hb0.out.trans (Hb1.out.mono Hb0.out.size)).size))
      clear HKS hHeld
      go_wp2_with fail
      go_ret
      exact ⟨rfl, HB.out⟩
  · go_simp
    refine hK.out _ _ ?_ (fun hHeld2 => ?_)
    · exact HKS.out _ (hHeld.1.trans ((Below.new _ _).mono hHeld.1.size))
    clear hK K hHeld2
    (try simp only [Act.put, List.setIfInBounds_toArray, List.set_cons_zero, List.set_cons_succ])
    generalize hWb : World.alloc Wd _ = Wb
    have hb1 : Below W1.heap.size W1 Wb := by rw [← hWb]; exact hHeld.1.trans ((Below.new _ _).mono hHeld.1.size)
    have hcell : Wb.cell? ⟨World.heap Wd |>.size, op.toNat, none⟩ = some (.string ⟨(midL op).toArray⟩) := by rw [← hWb]; exact hix _
    generalize (World.heap Wd).size = B at hcell ⊢
    have Hb1 := Lib.hid hb1; have Hcell := Lib.hid hcell
    clear hb1 hcell hWb hHeld
    have HKS2 : Hid (∀ X, Below Wb.heap.size Wb X → Below Wb.heap.size Wb X ∧ X.cell? ⟨B, op.toNat, none⟩ = some (.string ⟨(midL op).toArray⟩) ∧ X.cell? ⟨w.heap.size, 7, none⟩ = some (.int .i64 op) ∧ X.cell? ⟨w.heap.size, 8, none⟩ = some (.slice (some ⟨b, o, none⟩) 2 c) ∧ X.cell? ⟨b, o, none⟩ = some (.int .i64 u.k) ∧ X.cell? ⟨b, o + 1, none⟩ = some (.int .i64 u.pos) ∧ X.cell? ⟨b, o + 2, none⟩ = some (.string ⟨u.col.toArray⟩) ∧ X.cell? ⟨b, o + 3, none⟩ = some (.int .i64 u.v.k) ∧ X.cell? ⟨b, o + 4, none⟩ = some (.int .i64 u.v.n) ∧ X.cell? ⟨b, o + 5, none⟩ = some (.string u.v.s) ∧ X.cell? ⟨b, o + 6, none⟩ = some (.int .u64 u.v.f) ∧ X.cell? ⟨b, o + 7, none⟩ = some (.int .i64 u.op) ∧ X.cell? ⟨b, o + 8, none⟩ = some (.slice ka kn kc) ∧ X.cell? ⟨b, o + 9, none⟩ = some (.int .i64 v.k) ∧ X.cell? ⟨b, o + 9 + 1, none⟩ = some (.int .i64 v.pos) ∧ X.cell? ⟨b, o + 9 + 2, none⟩ = some (.string ⟨v.col.toArray⟩) ∧ X.cell? ⟨b, o + 9 + 3, none⟩ = some (.int .i64 v.v.k) ∧ X.cell? ⟨b, o + 9 + 4, none⟩ = some (.int .i64 v.v.n) ∧ X.cell? ⟨b, o + 9 + 5, none⟩ = some (.string v.v.s) ∧ X.cell? ⟨b, o + 9 + 6, none⟩ = some (.int .u64 v.v.f) ∧ X.cell? ⟨b, o + 9 + 7, none⟩ = some (.int .i64 v.op) ∧ X.cell? ⟨b, o + 9 + 8, none⟩ = some (.slice la ln lc)) := Lib.hid fun X hb => ⟨hb, (hb.cell (World.block_lt_of_cell? _ _ Hcell.out)).trans Hcell.out, (HKS.out X (Hb1.out.trans (hb.mono Hb1.out.size))).2⟩
    have HU2 : Hid (∀ X, Below Wb.heap.size Wb X → Calls Tryz.prog 19 #[.agg #[.int .i64 u.k, .int .i64 u.pos, .string ⟨u.col.toArray⟩, .int .i64 u.v.k, .int .i64 u.v.n, .string u.v.s, .int .u64 u.v.f, .int .i64 u.op, .slice ka kn kc]] X fun e w' => e = .returned (.string ⟨L.toArray⟩) ∧ Below X.heap.size X w') := Lib.hid fun X hb => HU.out X (Hb1.out.trans (hb.mono Hb1.out.size))
    have HV2 : Hid (∀ X, Below Wb.heap.size Wb X → Calls Tryz.prog 19 #[.agg #[.int .i64 v.k, .int .i64 v.pos, .string ⟨v.col.toArray⟩, .int .i64 v.v.k, .int .i64 v.v.n, .string v.v.s, .int .u64 v.v.f, .int .i64 v.op, .slice la ln lc]] X fun e w' => e = .returned (.string ⟨M.toArray⟩) ∧ Below X.heap.size X w') := Lib.hid fun X hb => HV.out X (Hb1.out.trans (hb.mono Hb1.out.size))
    refine wpAnyH_moreS (S' := fun X => Below Wb.heap.size Wb X ∧ X.cell? ⟨B, op.toNat, none⟩ = some (.string ⟨(midL op).toArray⟩) ∧ X.cell? ⟨w.heap.size, 7, none⟩ = some (.int .i64 op) ∧ X.cell? ⟨w.heap.size, 8, none⟩ = some (.slice (some ⟨b, o, none⟩) 2 c) ∧ X.cell? ⟨b, o, none⟩ = some (.int .i64 u.k) ∧ X.cell? ⟨b, o + 1, none⟩ = some (.int .i64 u.pos) ∧ X.cell? ⟨b, o + 2, none⟩ = some (.string ⟨u.col.toArray⟩) ∧ X.cell? ⟨b, o + 3, none⟩ = some (.int .i64 u.v.k) ∧ X.cell? ⟨b, o + 4, none⟩ = some (.int .i64 u.v.n) ∧ X.cell? ⟨b, o + 5, none⟩ = some (.string u.v.s) ∧ X.cell? ⟨b, o + 6, none⟩ = some (.int .u64 u.v.f) ∧ X.cell? ⟨b, o + 7, none⟩ = some (.int .i64 u.op) ∧ X.cell? ⟨b, o + 8, none⟩ = some (.slice ka kn kc) ∧ X.cell? ⟨b, o + 9, none⟩ = some (.int .i64 v.k) ∧ X.cell? ⟨b, o + 9 + 1, none⟩ = some (.int .i64 v.pos) ∧ X.cell? ⟨b, o + 9 + 2, none⟩ = some (.string ⟨v.col.toArray⟩) ∧ X.cell? ⟨b, o + 9 + 3, none⟩ = some (.int .i64 v.v.k) ∧ X.cell? ⟨b, o + 9 + 4, none⟩ = some (.int .i64 v.v.n) ∧ X.cell? ⟨b, o + 9 + 5, none⟩ = some (.string v.v.s) ∧ X.cell? ⟨b, o + 9 + 6, none⟩ = some (.int .u64 v.v.f) ∧ X.cell? ⟨b, o + 9 + 7, none⟩ = some (.int .i64 v.op) ∧ X.cell? ⟨b, o + 9 + 8, none⟩ = some (.slice la ln lc)) (fun X h => HKS.out X (Hb1.out.trans (h.1.mono Hb1.out.size))) _ _ _ _ ?_
    have hHeld := HKS2.out Wb (Below.refl _ _)
    refine wpAnyH_take (i := 9) (oi := ⟨some 26, _, _, _, _, _⟩) (v := ?_) rfl (by kernel_rfl) (by kernel_rfl) (by kernel_rfl) (fun _ _ _ h => h) (Or.inl ⟨by rfl, ?_⟩) (by assumption) ?_; rotate_left
    · (intro X hSw; (try dsimp only at hSw); go_simp; all_goals with_reducible rfl)
    (try simp only [Act.put, List.setIfInBounds_toArray, List.set_cons_zero, List.set_cons_succ])
    refine wpAnyH_take (i := 10) (oi := ⟨some 27, _, _, _, _, _⟩) (v := ?_) rfl (by kernel_rfl) (by kernel_rfl) (by kernel_rfl) (fun _ _ _ h => h) (Or.inl ⟨by rfl, ?_⟩) (by assumption) ?_; rotate_left
    · (intro X hSw; (try dsimp only at hSw); go_simp; all_goals with_reducible rfl)
    (try simp only [Act.put, List.setIfInBounds_toArray, List.set_cons_zero, List.set_cons_succ])
    refine wpAnyH_ready (rs := [4]) (by kernel_rfl) (by simp) ?_
    refine AllReadyH.cons (o := _) rfl (fun K hK => ?_) AllReadyH.nil
    go_simp
    refine (HU2.out _ hHeld.1).mono ?_
    rintro e wx ⟨rfl, hb0⟩
    have hbx := hHeld.1.trans (hb0.mono hHeld.1.size)
    clear hb0
    go_wp2_with fail
    refine hK.out _ _ ?_ (fun hHeld2 => ?_)
    · exact HKS2.out _ hbx
    clear hK K hHeld
    have hHeld := hHeld2
    clear hHeld2
    (try simp only [Act.put, List.setIfInBounds_toArray, List.set_cons_zero, List.set_cons_succ])
    refine wpAnyH_take (i := 5) (oi := ⟨some 22, _, _, _, _, _⟩) (v := ?_) rfl (by kernel_rfl) (by kernel_rfl) (by kernel_rfl) (fun _ _ _ h => h) (Or.inl ⟨by rfl, ?_⟩) (by assumption) ?_; rotate_left
    · (intro X hSw; (try dsimp only at hSw); go_simp; all_goals with_reducible rfl)
    (try simp only [Act.put, List.setIfInBounds_toArray, List.set_cons_zero, List.set_cons_succ])
    refine wpAnyH_take (i := 11) (oi := ⟨some 28, _, _, _, _, _⟩) (v := ?_) rfl (by kernel_rfl) (by kernel_rfl) (by kernel_rfl) (fun _ _ _ h => h) (Or.inl ⟨by rfl, ?_⟩) (by assumption) ?_; rotate_left
    · (intro X hSw; (try dsimp only at hSw); go_simp; all_goals with_reducible rfl)
    (try simp only [Act.put, List.setIfInBounds_toArray, List.set_cons_zero, List.set_cons_succ])
    refine wpAnyH_ready (rs := [16]) (by kernel_rfl) (by simp) ?_
    refine AllReadyH.cons (o := _) rfl (fun K hK => ?_) AllReadyH.nil
    go_simp
    refine (HV2.out _ hHeld.1).mono ?_
    rintro e wx ⟨rfl, hb0⟩
    have hbx := hHeld.1.trans (hb0.mono hHeld.1.size)
    clear hb0
    go_wp2_with fail
    refine hK.out _ _ ?_ (fun hHeld2 => ?_)
    · exact HKS2.out _ hbx
    clear hK K hHeld
    have hHeld := hHeld2
    clear hHeld2
    (try simp only [Act.put, List.setIfInBounds_toArray, List.set_cons_zero, List.set_cons_succ])
    refine wpAnyH_take (i := 17) (oi := ⟨some 34, _, _, _, _, _⟩) (v := ?_) rfl (by kernel_rfl) (by kernel_rfl) (by kernel_rfl) (fun _ _ _ h => h) (Or.inl ⟨by rfl, ?_⟩) (by assumption) ?_; rotate_left
    · (intro X hSw; (try dsimp only at hSw); go_simp; all_goals with_reducible rfl)
    (try simp only [Act.put, List.setIfInBounds_toArray, List.set_cons_zero, List.set_cons_succ])
    refine wpAnyH_take (i := 18) (oi := ⟨some 35, _, _, _, _, _⟩) (v := ?_) rfl (by kernel_rfl) (by kernel_rfl) (by kernel_rfl) (fun _ _ _ h => h) (Or.inl ⟨by rfl, ?_⟩) (by assumption) ?_; rotate_left
    · (intro X hSw; (try dsimp only at hSw); go_simp; all_goals with_reducible rfl)
    (try simp only [Act.put, List.setIfInBounds_toArray, List.set_cons_zero, List.set_cons_succ])
    refine wpAnyH_take (i := 19) (oi := ⟨some 2, _, _, _, _, _⟩) (v := ?_) rfl (by kernel_rfl) (by kernel_rfl) (by kernel_rfl) (fun _ _ _ h => h) (Or.inl ⟨by rfl, ?_⟩) (by assumption) ?_; rotate_left
    · (intro X hSw; (try dsimp only at hSw); go_simp; all_goals with_reducible rfl)
    (try simp only [Act.put, List.setIfInBounds_toArray, List.set_cons_zero, List.set_cons_succ])
    refine wpAnyH_done (by kernel_rfl) ?_ _
    refine NoPanic.normal ?_
    have HB := Lib.hid ((Hb0.out.trans (Hb1.out.mono Hb0.out.size)).trans (hHeld.1.mono (Hb0.out.trans (Hb1.out.mono Hb0.out.size)).size))
    clear HKS hHeld
    go_wp2_with fail
    go_ret
    exact ⟨rfl, HB.out⟩
set_option maxHeartbeats 8000000 in
set_option maxRecDepth 100000 in
theorem printR_k3 (p : Int) (u : Tree) (L : List UInt8) (hL : L.length ≤ 1000000)
    (hC : ∀ (w : World) (S : Nat → Prop) (a : Option Addr) (n c : Nat), KSl w S u.kids a n → Calls Tryz.prog 19 #[u.val a n c] w fun e w' => e = .returned (.string ⟨L.toArray⟩) ∧ Below w.heap.size w w')
    (w : World) (S : Nat → Prop) (a : Option Addr) (n c : Nat) (hks : KSl w S [u] a n) : Calls Tryz.prog 19 #[(Tree.mk 3 p [] 0 zeroVal [u]).val a n c] w fun e w' => e = .returned (.string ⟨([40] ++ L ++ [32, 105, 115, 32, 110, 117, 108, 108, 41]).toArray⟩) ∧ Below w.heap.size w w' := by
  have hc1 := fun W => addLL W [40] L (by simp; omega)
  have hc2 := fun W => addLL W ([40] ++ L) [32, 105, 115, 32, 110, 117, 108, 108, 41] (by simp; omega)
  generalize hX : [40] ++ L = X1 at hc1 hc2 ⊢
  generalize hY : X1 ++ [32, 105, 115, 32, 110, 117, 108, 108, 41] = X2 at hc2 ⊢
  obtain ⟨b, o, ka, kn, kc, rfl, hka, hkk⟩ := hks.get (i := 0) (t := u) rfl
  obtain rfl : n = 1 := hks.len
  have HC := Lib.hid hC
  simp only [Tree.val, Tree.k, Tree.pos, Tree.col, Tree.v, Tree.op, zeroVal]
  have hb0 := Below.new w (.cells #[.int .i64 3, .int .i64 p, .string ⟨#[]⟩, .int .i64 0, .int .i64 0, .string ⟨#[]⟩, .int .u64 0, .int .i64 0, .slice (some ⟨b, o, none⟩) 1 c] 31)
  have Hb0 := Lib.hid hb0
  have hka1 := hka.map fun i v hc => (hb0.cell (World.block_lt_of_cell? w _ hc)).trans hc
  have Hc := Lib.hid (HC.out _ S ka kn kc (hkk.later hb0))
  rw [Nat.zero_mul, Nat.add_zero] at hka1
  obtain ⟨c0, c1, c2, c3, c4, c5, c6, c7, c8⟩ := hka1
  clear hka hkk hks hC hL hX hY hb0
  go_enter Tryz.func19, Tryz.ntmps19
  go_wp2_with fail
  refine Hc.out.mono ?_
  rintro e w2 ⟨rfl, hb2⟩
  have Hb2 := Lib.hid (Hb0.out.trans (hb2.mono Hb0.out.size))
  clear hb2 c0 c1 c2 c3 c4 c5 c6 c7 c8
  go_wp2_with fail
  go_ret
  exact ⟨rfl, Hb2.out⟩
set_option maxHeartbeats 8000000 in
set_option maxRecDepth 100000 in
theorem printR_k4 (p : Int) (u : Tree) (L : List UInt8) (hL : L.length ≤ 1000000)
    (hC : ∀ (w : World) (S : Nat → Prop) (a : Option Addr) (n c : Nat), KSl w S u.kids a n → Calls Tryz.prog 19 #[u.val a n c] w fun e w' => e = .returned (.string ⟨L.toArray⟩) ∧ Below w.heap.size w w')
    (w : World) (S : Nat → Prop) (a : Option Addr) (n c : Nat) (hks : KSl w S [u] a n) : Calls Tryz.prog 19 #[(Tree.mk 4 p [] 0 zeroVal [u]).val a n c] w fun e w' => e = .returned (.string ⟨([40, 110, 111, 116, 32] ++ L ++ [41]).toArray⟩) ∧ Below w.heap.size w w' := by
  have hc1 := fun W => addLL W [40, 110, 111, 116, 32] L (by simp; omega)
  have hc2 := fun W => addLL W ([40, 110, 111, 116, 32] ++ L) [41] (by simp; omega)
  generalize hX : [40, 110, 111, 116, 32] ++ L = X1 at hc1 hc2 ⊢
  generalize hY : X1 ++ [41] = X2 at hc2 ⊢
  obtain ⟨b, o, ka, kn, kc, rfl, hka, hkk⟩ := hks.get (i := 0) (t := u) rfl
  obtain rfl : n = 1 := hks.len
  have HC := Lib.hid hC
  simp only [Tree.val, Tree.k, Tree.pos, Tree.col, Tree.v, Tree.op, zeroVal]
  have hb0 := Below.new w (.cells #[.int .i64 4, .int .i64 p, .string ⟨#[]⟩, .int .i64 0, .int .i64 0, .string ⟨#[]⟩, .int .u64 0, .int .i64 0, .slice (some ⟨b, o, none⟩) 1 c] 31)
  have Hb0 := Lib.hid hb0
  have hka1 := hka.map fun i v hc => (hb0.cell (World.block_lt_of_cell? w _ hc)).trans hc
  have Hc := Lib.hid (HC.out _ S ka kn kc (hkk.later hb0))
  rw [Nat.zero_mul, Nat.add_zero] at hka1
  obtain ⟨c0, c1, c2, c3, c4, c5, c6, c7, c8⟩ := hka1
  clear hka hkk hks hC hL hX hY hb0
  go_enter Tryz.func19, Tryz.ntmps19
  go_wp2_with fail
  refine Hc.out.mono ?_
  rintro e w2 ⟨rfl, hb2⟩
  have Hb2 := Lib.hid (Hb0.out.trans (hb2.mono Hb0.out.size))
  clear hb2 c0 c1 c2 c3 c4 c5 c6 c7 c8
  go_wp2_with fail
  go_ret
  exact ⟨rfl, Hb2.out⟩
set_option maxHeartbeats 16000000 in
set_option maxRecDepth 100000 in
theorem printR_k5 (p : Int) (u v : Tree) (L M : List UInt8) (hL : L.length + M.length ≤ 1000000)
    (hC : ∀ (w : World) (S : Nat → Prop) (a : Option Addr) (n c : Nat), KSl w S u.kids a n → Calls Tryz.prog 19 #[u.val a n c] w fun e w' => e = .returned (.string ⟨L.toArray⟩) ∧ Below w.heap.size w w')
    (hD : ∀ (w : World) (S : Nat → Prop) (a : Option Addr) (n c : Nat), KSl w S v.kids a n → Calls Tryz.prog 19 #[v.val a n c] w fun e w' => e = .returned (.string ⟨M.toArray⟩) ∧ Below w.heap.size w w')
    (w : World) (S : Nat → Prop) (a : Option Addr) (n c : Nat) (hks : KSl w S [u, v] a n) : Calls Tryz.prog 19 #[(Tree.mk 5 p [] 0 zeroVal [u, v]).val a n c] w fun e w' => e = .returned (.string ⟨([40] ++ L ++ [32, 97, 110, 100, 32] ++ M ++ [41]).toArray⟩) ∧ Below w.heap.size w w' := by
  have hc1 := fun W => addLL W [40] L (by simp; omega)
  have hc2 := fun W => addLL W ([40] ++ L) [32, 97, 110, 100, 32] (by simp; omega)
  have hc3 := fun W => addLL W ([40] ++ L ++ [32, 97, 110, 100, 32]) M (by simp; omega)
  have hc4 := fun W => addLL W ([40] ++ L ++ [32, 97, 110, 100, 32] ++ M) [41] (by simp; omega)
  generalize hX : [40] ++ L = X1 at hc1 hc2 hc3 hc4 ⊢
  generalize hX2 : X1 ++ [32, 97, 110, 100, 32] = X2 at hc2 hc3 hc4 ⊢
  generalize hX3 : X2 ++ M = X3 at hc3 hc4 ⊢
  generalize hX4 : X3 ++ [41] = X4 at hc4 ⊢
  obtain ⟨b, o, ka, kn, kc, rfl, hka, hkk⟩ := hks.get (i := 0) (t := u) rfl
  obtain ⟨b', o', la, ln, lc, e1, hla, hll⟩ := hks.get (i := 1) (t := v) rfl
  injection e1 with e1
  injection e1 with e1 e2
  subst e1 e2
  obtain rfl : n = 2 := hks.len
  have HC := Lib.hid hC
  have HD := Lib.hid hD
  rw [Nat.zero_mul, Nat.add_zero] at hka
  rw [Nat.one_mul] at hla
  have Hka := Lib.hid hka; have Hla := Lib.hid hla; have Hkk := Lib.hid hkk; have Hll := Lib.hid hll
  simp only [Tree.val, Tree.k, Tree.pos, Tree.col, Tree.v, Tree.op, zeroVal]
  have HV1 := Lib.hid (KVar.new w (Tree.mk 5 p [] 0 zeroVal [u, v]) (some ⟨b, o, none⟩) 2 c 31)
  have Hb0 := Lib.hid (Below.new w (.cells #[.int .i64 5, .int .i64 p, .string ⟨#[]⟩, .int .i64 0, .int .i64 0, .string ⟨#[]⟩, .int .u64 0, .int .i64 0, .slice (some ⟨b, o, none⟩) 2 c] 31))
  clear hka hkk hla hll hks hC hD hL hX hX2 hX3 hX4
  go_enter Tryz.func19, Tryz.ntmps19
  go_upto_region 13 with fail
  generalize hW : w.alloc _ = W1
  replace HV1 : Hid (KVar W1 w.heap.size (Tree.mk 5 p [] 0 zeroVal [u, v]) (some ⟨b, o, none⟩) 2 c) := Lib.hid (by rw [← hW]; exact HV1.out)
  replace Hb0 : Hid (Below w.heap.size w W1) := Lib.hid (by rw [← hW]; exact Hb0.out)
  have HKS : Hid (∀ X, Below W1.heap.size W1 X → Below W1.heap.size W1 X ∧ X.cell? ⟨w.heap.size, 8, none⟩ = some (.slice (some ⟨b, o, none⟩) 2 c) ∧ X.cell? ⟨b, o, none⟩ = some (.int .i64 u.k) ∧ X.cell? ⟨b, o + 1, none⟩ = some (.int .i64 u.pos) ∧ X.cell? ⟨b, o + 2, none⟩ = some (.string ⟨u.col.toArray⟩) ∧ X.cell? ⟨b, o + 3, none⟩ = some (.int .i64 u.v.k) ∧ X.cell? ⟨b, o + 4, none⟩ = some (.int .i64 u.v.n) ∧ X.cell? ⟨b, o + 5, none⟩ = some (.string u.v.s) ∧ X.cell? ⟨b, o + 6, none⟩ = some (.int .u64 u.v.f) ∧ X.cell? ⟨b, o + 7, none⟩ = some (.int .i64 u.op) ∧ X.cell? ⟨b, o + 8, none⟩ = some (.slice ka kn kc) ∧ X.cell? ⟨b, o + 9, none⟩ = some (.int .i64 v.k) ∧ X.cell? ⟨b, o + 9 + 1, none⟩ = some (.int .i64 v.pos) ∧ X.cell? ⟨b, o + 9 + 2, none⟩ = some (.string ⟨v.col.toArray⟩) ∧ X.cell? ⟨b, o + 9 + 3, none⟩ = some (.int .i64 v.v.k) ∧ X.cell? ⟨b, o + 9 + 4, none⟩ = some (.int .i64 v.v.n) ∧ X.cell? ⟨b, o + 9 + 5, none⟩ = some (.string v.v.s) ∧ X.cell? ⟨b, o + 9 + 6, none⟩ = some (.int .u64 v.v.f) ∧ X.cell? ⟨b, o + 9 + 7, none⟩ = some (.int .i64 v.op) ∧ X.cell? ⟨b, o + 9 + 8, none⟩ = some (.slice la ln lc)) := Lib.hid fun X hb => by
    have hh := Hb0.out.trans (hb.mono Hb0.out.size)
    have kA := HV1.out.below hb HV1.out.lt
    have kB := Hka.out.below hh
    have kC := Hla.out.below hh
    exact ⟨hb, kA.c8, kB.c0, kB.c1, kB.c2, kB.c3, kB.c4, kB.c5, kB.c6, kB.c7, kB.c8, kC.c0, kC.c1, kC.c2, kC.c3, kC.c4, kC.c5, kC.c6, kC.c7, kC.c8⟩
  have HU : Hid (∀ X, Below W1.heap.size W1 X → Calls Tryz.prog 19 #[.agg #[.int .i64 u.k, .int .i64 u.pos, .string ⟨u.col.toArray⟩, .int .i64 u.v.k, .int .i64 u.v.n, .string u.v.s, .int .u64 u.v.f, .int .i64 u.op, .slice ka kn kc]] X fun e w' => e = .returned (.string ⟨L.toArray⟩) ∧ Below X.heap.size X w') := Lib.hid fun X hb => HC.out X S ka kn kc (Hkk.out.later (Hb0.out.trans (hb.mono Hb0.out.size)))
  have HV : Hid (∀ X, Below W1.heap.size W1 X → Calls Tryz.prog 19 #[.agg #[.int .i64 v.k, .int .i64 v.pos, .string ⟨v.col.toArray⟩, .int .i64 v.v.k, .int .i64 v.v.n, .string v.v.s, .int .u64 v.v.f, .int .i64 v.op, .slice la ln lc]] X fun e w' => e = .returned (.string ⟨M.toArray⟩) ∧ Below X.heap.size X w') := Lib.hid fun X hb => HD.out X S la ln lc (Hll.out.later (Hb0.out.trans (hb.mono Hb0.out.size)))
  clear hW HV1
  refine wp_region_noPanic ?_
  refine wp_region_held_drew (S := fun X => Below W1.heap.size W1 X ∧ X.cell? ⟨w.heap.size, 8, none⟩ = some (.slice (some ⟨b, o, none⟩) 2 c) ∧ X.cell? ⟨b, o, none⟩ = some (.int .i64 u.k) ∧ X.cell? ⟨b, o + 1, none⟩ = some (.int .i64 u.pos) ∧ X.cell? ⟨b, o + 2, none⟩ = some (.string ⟨u.col.toArray⟩) ∧ X.cell? ⟨b, o + 3, none⟩ = some (.int .i64 u.v.k) ∧ X.cell? ⟨b, o + 4, none⟩ = some (.int .i64 u.v.n) ∧ X.cell? ⟨b, o + 5, none⟩ = some (.string u.v.s) ∧ X.cell? ⟨b, o + 6, none⟩ = some (.int .u64 u.v.f) ∧ X.cell? ⟨b, o + 7, none⟩ = some (.int .i64 u.op) ∧ X.cell? ⟨b, o + 8, none⟩ = some (.slice ka kn kc) ∧ X.cell? ⟨b, o + 9, none⟩ = some (.int .i64 v.k) ∧ X.cell? ⟨b, o + 9 + 1, none⟩ = some (.int .i64 v.pos) ∧ X.cell? ⟨b, o + 9 + 2, none⟩ = some (.string ⟨v.col.toArray⟩) ∧ X.cell? ⟨b, o + 9 + 3, none⟩ = some (.int .i64 v.v.k) ∧ X.cell? ⟨b, o + 9 + 4, none⟩ = some (.int .i64 v.v.n) ∧ X.cell? ⟨b, o + 9 + 5, none⟩ = some (.string v.v.s) ∧ X.cell? ⟨b, o + 9 + 6, none⟩ = some (.int .u64 v.v.f) ∧ X.cell? ⟨b, o + 9 + 7, none⟩ = some (.int .i64 v.op) ∧ X.cell? ⟨b, o + 9 + 8, none⟩ = some (.slice la ln lc)) (by kernel_rfl) (HKS.out _ (Below.refl _ _).drew) (fun hHeld => ?_)
  refine wpAnyH_take (i := 0) (oi := ⟨some 56, _, _, _, _, _⟩) (v := ?_) rfl (by kernel_rfl) (by kernel_rfl) (by kernel_rfl) (fun _ _ _ h => h) (Or.inl ⟨by rfl, ?_⟩) (by assumption) ?_; rotate_left
  · (intro X hSw; (try dsimp only at hSw); go_simp; all_goals with_reducible rfl)
  (try simp only [Act.put, List.setIfInBounds_toArray, List.set_cons_zero, List.set_cons_succ])
  refine wpAnyH_take (i := 1) (oi := ⟨some 57, _, _, _, _, _⟩) (v := ?_) rfl (by kernel_rfl) (by kernel_rfl) (by kernel_rfl) (fun _ _ _ h => h) (Or.inl ⟨by rfl, ?_⟩) (by assumption) ?_; rotate_left
  · (intro X hSw; (try dsimp only at hSw); go_simp; all_goals with_reducible rfl)
  (try simp only [Act.put, List.setIfInBounds_toArray, List.set_cons_zero, List.set_cons_succ])
  refine wpAnyH_take (i := 2) (oi := ⟨some 58, _, _, _, _, _⟩) (v := ?_) rfl (by kernel_rfl) (by kernel_rfl) (by kernel_rfl) (fun _ _ _ h => h) (Or.inl ⟨by rfl, ?_⟩) (by assumption) ?_; rotate_left
  · (intro X hSw; (try dsimp only at hSw); go_simp; all_goals with_reducible rfl)
  (try simp only [Act.put, List.setIfInBounds_toArray, List.set_cons_zero, List.set_cons_succ])
  refine wpAnyH_take (i := 3) (oi := ⟨some 59, _, _, _, _, _⟩) (v := ?_) rfl (by kernel_rfl) (by kernel_rfl) (by kernel_rfl) (fun _ _ _ h => h) (Or.inl ⟨by rfl, ?_⟩) (by assumption) ?_; rotate_left
  · (intro X hSw; (try dsimp only at hSw); go_simp; all_goals with_reducible rfl)
  (try simp only [Act.put, List.setIfInBounds_toArray, List.set_cons_zero, List.set_cons_succ])
  refine wpAnyH_take (i := 7) (oi := ⟨some 63, _, _, _, _, _⟩) (v := ?_) rfl (by kernel_rfl) (by kernel_rfl) (by kernel_rfl) (fun _ _ _ h => h) (Or.inl ⟨by rfl, ?_⟩) (by assumption) ?_; rotate_left
  · (intro X hSw; (try dsimp only at hSw); go_simp; all_goals with_reducible rfl)
  (try simp only [Act.put, List.setIfInBounds_toArray, List.set_cons_zero, List.set_cons_succ])
  refine wpAnyH_take (i := 8) (oi := ⟨some 64, _, _, _, _, _⟩) (v := ?_) rfl (by kernel_rfl) (by kernel_rfl) (by kernel_rfl) (fun _ _ _ h => h) (Or.inl ⟨by rfl, ?_⟩) (by assumption) ?_; rotate_left
  · (intro X hSw; (try dsimp only at hSw); go_simp; all_goals with_reducible rfl)
  (try simp only [Act.put, List.setIfInBounds_toArray, List.set_cons_zero, List.set_cons_succ])
  refine wpAnyH_take (i := 9) (oi := ⟨some 65, _, _, _, _, _⟩) (v := ?_) rfl (by kernel_rfl) (by kernel_rfl) (by kernel_rfl) (fun _ _ _ h => h) (Or.inl ⟨by rfl, ?_⟩) (by assumption) ?_; rotate_left
  · (intro X hSw; (try dsimp only at hSw); go_simp; all_goals with_reducible rfl)
  (try simp only [Act.put, List.setIfInBounds_toArray, List.set_cons_zero, List.set_cons_succ])
  refine wpAnyH_take (i := 10) (oi := ⟨some 66, _, _, _, _, _⟩) (v := ?_) rfl (by kernel_rfl) (by kernel_rfl) (by kernel_rfl) (fun _ _ _ h => h) (Or.inl ⟨by rfl, ?_⟩) (by assumption) ?_; rotate_left
  · (intro X hSw; (try dsimp only at hSw); go_simp; all_goals with_reducible rfl)
  (try simp only [Act.put, List.setIfInBounds_toArray, List.set_cons_zero, List.set_cons_succ])
  refine wpAnyH_ready (rs := [4]) (by kernel_rfl) (by simp) ?_
  refine AllReadyH.cons (o := _) rfl (fun K hK => ?_) AllReadyH.nil
  go_simp
  refine (HU.out _ hHeld.1).mono ?_
  rintro e wx ⟨rfl, hb0⟩
  have hbx := hHeld.1.trans (hb0.mono hHeld.1.size)
  clear hb0
  go_wp2_with fail
  refine hK.out _ _ ?_ (fun hHeld2 => ?_)
  · exact HKS.out _ hbx
  clear hK K hHeld
  have hHeld := hHeld2
  clear hHeld2
  (try simp only [Act.put, List.setIfInBounds_toArray, List.set_cons_zero, List.set_cons_succ])
  refine wpAnyH_take (i := 5) (oi := ⟨some 61, _, _, _, _, _⟩) (v := ?_) rfl (by kernel_rfl) (by kernel_rfl) (by kernel_rfl) (fun _ _ _ h => h) (Or.inl ⟨by rfl, ?_⟩) (by assumption) ?_; rotate_left
  · (intro X hSw; (try dsimp only at hSw); go_simp; all_goals with_reducible rfl)
  (try simp only [Act.put, List.setIfInBounds_toArray, List.set_cons_zero, List.set_cons_succ])
  refine wpAnyH_take (i := 6) (oi := ⟨some 62, _, _, _, _, _⟩) (v := ?_) rfl (by kernel_rfl) (by kernel_rfl) (by kernel_rfl) (fun _ _ _ h => h) (Or.inl ⟨by rfl, ?_⟩) (by assumption) ?_; rotate_left
  · (intro X hSw; (try dsimp only at hSw); go_simp; all_goals with_reducible rfl)
  (try simp only [Act.put, List.setIfInBounds_toArray, List.set_cons_zero, List.set_cons_succ])
  refine wpAnyH_ready (rs := [11]) (by kernel_rfl) (by simp) ?_
  refine AllReadyH.cons (o := _) rfl (fun K hK => ?_) AllReadyH.nil
  go_simp
  refine (HV.out _ hHeld.1).mono ?_
  rintro e wx ⟨rfl, hb0⟩
  have hbx := hHeld.1.trans (hb0.mono hHeld.1.size)
  clear hb0
  go_wp2_with fail
  refine hK.out _ _ ?_ (fun hHeld2 => ?_)
  · exact HKS.out _ hbx
  clear hK K hHeld
  have hHeld := hHeld2
  clear hHeld2
  (try simp only [Act.put, List.setIfInBounds_toArray, List.set_cons_zero, List.set_cons_succ])
  refine wpAnyH_take (i := 12) (oi := ⟨some 68, _, _, _, _, _⟩) (v := ?_) rfl (by kernel_rfl) (by kernel_rfl) (by kernel_rfl) (fun _ _ _ h => h) (Or.inl ⟨by rfl, ?_⟩) (by assumption) ?_; rotate_left
  · (intro X hSw; (try dsimp only at hSw); go_simp; all_goals with_reducible rfl)
  (try simp only [Act.put, List.setIfInBounds_toArray, List.set_cons_zero, List.set_cons_succ])
  refine wpAnyH_take (i := 13) (oi := ⟨some 69, _, _, _, _, _⟩) (v := ?_) rfl (by kernel_rfl) (by kernel_rfl) (by kernel_rfl) (fun _ _ _ h => h) (Or.inl ⟨by rfl, ?_⟩) (by assumption) ?_; rotate_left
  · (intro X hSw; (try dsimp only at hSw); go_simp; all_goals with_reducible rfl)
  (try simp only [Act.put, List.setIfInBounds_toArray, List.set_cons_zero, List.set_cons_succ])
  refine wpAnyH_take (i := 14) (oi := ⟨some 2, _, _, _, _, _⟩) (v := ?_) rfl (by kernel_rfl) (by kernel_rfl) (by kernel_rfl) (fun _ _ _ h => h) (Or.inl ⟨by rfl, ?_⟩) (by assumption) ?_; rotate_left
  · (intro X hSw; (try dsimp only at hSw); go_simp; all_goals with_reducible rfl)
  (try simp only [Act.put, List.setIfInBounds_toArray, List.set_cons_zero, List.set_cons_succ])
  refine wpAnyH_done (by kernel_rfl) ?_ _
  refine NoPanic.normal ?_
  have HB := Lib.hid (Hb0.out.trans (hHeld.1.mono Hb0.out.size))
  clear HKS hHeld
  go_wp2_with fail
  go_ret
  exact ⟨rfl, HB.out⟩
set_option maxHeartbeats 16000000 in
set_option maxRecDepth 100000 in
theorem printR_k6 (p : Int) (u v : Tree) (L M : List UInt8) (hL : L.length + M.length ≤ 1000000)
    (hC : ∀ (w : World) (S : Nat → Prop) (a : Option Addr) (n c : Nat), KSl w S u.kids a n → Calls Tryz.prog 19 #[u.val a n c] w fun e w' => e = .returned (.string ⟨L.toArray⟩) ∧ Below w.heap.size w w')
    (hD : ∀ (w : World) (S : Nat → Prop) (a : Option Addr) (n c : Nat), KSl w S v.kids a n → Calls Tryz.prog 19 #[v.val a n c] w fun e w' => e = .returned (.string ⟨M.toArray⟩) ∧ Below w.heap.size w w')
    (w : World) (S : Nat → Prop) (a : Option Addr) (n c : Nat) (hks : KSl w S [u, v] a n) : Calls Tryz.prog 19 #[(Tree.mk 6 p [] 0 zeroVal [u, v]).val a n c] w fun e w' => e = .returned (.string ⟨([40] ++ L ++ [32, 111, 114, 32] ++ M ++ [41]).toArray⟩) ∧ Below w.heap.size w w' := by
  have hc1 := fun W => addLL W [40] L (by simp; omega)
  have hc2 := fun W => addLL W ([40] ++ L) [32, 111, 114, 32] (by simp; omega)
  have hc3 := fun W => addLL W ([40] ++ L ++ [32, 111, 114, 32]) M (by simp; omega)
  have hc4 := fun W => addLL W ([40] ++ L ++ [32, 111, 114, 32] ++ M) [41] (by simp; omega)
  generalize hX : [40] ++ L = X1 at hc1 hc2 hc3 hc4 ⊢
  generalize hX2 : X1 ++ [32, 111, 114, 32] = X2 at hc2 hc3 hc4 ⊢
  generalize hX3 : X2 ++ M = X3 at hc3 hc4 ⊢
  generalize hX4 : X3 ++ [41] = X4 at hc4 ⊢
  obtain ⟨b, o, ka, kn, kc, rfl, hka, hkk⟩ := hks.get (i := 0) (t := u) rfl
  obtain ⟨b', o', la, ln, lc, e1, hla, hll⟩ := hks.get (i := 1) (t := v) rfl
  injection e1 with e1
  injection e1 with e1 e2
  subst e1 e2
  obtain rfl : n = 2 := hks.len
  have HC := Lib.hid hC
  have HD := Lib.hid hD
  rw [Nat.zero_mul, Nat.add_zero] at hka
  rw [Nat.one_mul] at hla
  have Hka := Lib.hid hka; have Hla := Lib.hid hla; have Hkk := Lib.hid hkk; have Hll := Lib.hid hll
  simp only [Tree.val, Tree.k, Tree.pos, Tree.col, Tree.v, Tree.op, zeroVal]
  have HV1 := Lib.hid (KVar.new w (Tree.mk 6 p [] 0 zeroVal [u, v]) (some ⟨b, o, none⟩) 2 c 31)
  have Hb0 := Lib.hid (Below.new w (.cells #[.int .i64 6, .int .i64 p, .string ⟨#[]⟩, .int .i64 0, .int .i64 0, .string ⟨#[]⟩, .int .u64 0, .int .i64 0, .slice (some ⟨b, o, none⟩) 2 c] 31))
  clear hka hkk hla hll hks hC hD hL hX hX2 hX3 hX4
  go_enter Tryz.func19, Tryz.ntmps19
  go_upto_region 14 with fail
  generalize hW : w.alloc _ = W1
  replace HV1 : Hid (KVar W1 w.heap.size (Tree.mk 6 p [] 0 zeroVal [u, v]) (some ⟨b, o, none⟩) 2 c) := Lib.hid (by rw [← hW]; exact HV1.out)
  replace Hb0 : Hid (Below w.heap.size w W1) := Lib.hid (by rw [← hW]; exact Hb0.out)
  have HKS : Hid (∀ X, Below W1.heap.size W1 X → Below W1.heap.size W1 X ∧ X.cell? ⟨w.heap.size, 8, none⟩ = some (.slice (some ⟨b, o, none⟩) 2 c) ∧ X.cell? ⟨b, o, none⟩ = some (.int .i64 u.k) ∧ X.cell? ⟨b, o + 1, none⟩ = some (.int .i64 u.pos) ∧ X.cell? ⟨b, o + 2, none⟩ = some (.string ⟨u.col.toArray⟩) ∧ X.cell? ⟨b, o + 3, none⟩ = some (.int .i64 u.v.k) ∧ X.cell? ⟨b, o + 4, none⟩ = some (.int .i64 u.v.n) ∧ X.cell? ⟨b, o + 5, none⟩ = some (.string u.v.s) ∧ X.cell? ⟨b, o + 6, none⟩ = some (.int .u64 u.v.f) ∧ X.cell? ⟨b, o + 7, none⟩ = some (.int .i64 u.op) ∧ X.cell? ⟨b, o + 8, none⟩ = some (.slice ka kn kc) ∧ X.cell? ⟨b, o + 9, none⟩ = some (.int .i64 v.k) ∧ X.cell? ⟨b, o + 9 + 1, none⟩ = some (.int .i64 v.pos) ∧ X.cell? ⟨b, o + 9 + 2, none⟩ = some (.string ⟨v.col.toArray⟩) ∧ X.cell? ⟨b, o + 9 + 3, none⟩ = some (.int .i64 v.v.k) ∧ X.cell? ⟨b, o + 9 + 4, none⟩ = some (.int .i64 v.v.n) ∧ X.cell? ⟨b, o + 9 + 5, none⟩ = some (.string v.v.s) ∧ X.cell? ⟨b, o + 9 + 6, none⟩ = some (.int .u64 v.v.f) ∧ X.cell? ⟨b, o + 9 + 7, none⟩ = some (.int .i64 v.op) ∧ X.cell? ⟨b, o + 9 + 8, none⟩ = some (.slice la ln lc)) := Lib.hid fun X hb => by
    have hh := Hb0.out.trans (hb.mono Hb0.out.size)
    have kA := HV1.out.below hb HV1.out.lt
    have kB := Hka.out.below hh
    have kC := Hla.out.below hh
    exact ⟨hb, kA.c8, kB.c0, kB.c1, kB.c2, kB.c3, kB.c4, kB.c5, kB.c6, kB.c7, kB.c8, kC.c0, kC.c1, kC.c2, kC.c3, kC.c4, kC.c5, kC.c6, kC.c7, kC.c8⟩
  have HU : Hid (∀ X, Below W1.heap.size W1 X → Calls Tryz.prog 19 #[.agg #[.int .i64 u.k, .int .i64 u.pos, .string ⟨u.col.toArray⟩, .int .i64 u.v.k, .int .i64 u.v.n, .string u.v.s, .int .u64 u.v.f, .int .i64 u.op, .slice ka kn kc]] X fun e w' => e = .returned (.string ⟨L.toArray⟩) ∧ Below X.heap.size X w') := Lib.hid fun X hb => HC.out X S ka kn kc (Hkk.out.later (Hb0.out.trans (hb.mono Hb0.out.size)))
  have HV : Hid (∀ X, Below W1.heap.size W1 X → Calls Tryz.prog 19 #[.agg #[.int .i64 v.k, .int .i64 v.pos, .string ⟨v.col.toArray⟩, .int .i64 v.v.k, .int .i64 v.v.n, .string v.v.s, .int .u64 v.v.f, .int .i64 v.op, .slice la ln lc]] X fun e w' => e = .returned (.string ⟨M.toArray⟩) ∧ Below X.heap.size X w') := Lib.hid fun X hb => HD.out X S la ln lc (Hll.out.later (Hb0.out.trans (hb.mono Hb0.out.size)))
  clear hW HV1
  refine wp_region_noPanic ?_
  refine wp_region_held_drew (S := fun X => Below W1.heap.size W1 X ∧ X.cell? ⟨w.heap.size, 8, none⟩ = some (.slice (some ⟨b, o, none⟩) 2 c) ∧ X.cell? ⟨b, o, none⟩ = some (.int .i64 u.k) ∧ X.cell? ⟨b, o + 1, none⟩ = some (.int .i64 u.pos) ∧ X.cell? ⟨b, o + 2, none⟩ = some (.string ⟨u.col.toArray⟩) ∧ X.cell? ⟨b, o + 3, none⟩ = some (.int .i64 u.v.k) ∧ X.cell? ⟨b, o + 4, none⟩ = some (.int .i64 u.v.n) ∧ X.cell? ⟨b, o + 5, none⟩ = some (.string u.v.s) ∧ X.cell? ⟨b, o + 6, none⟩ = some (.int .u64 u.v.f) ∧ X.cell? ⟨b, o + 7, none⟩ = some (.int .i64 u.op) ∧ X.cell? ⟨b, o + 8, none⟩ = some (.slice ka kn kc) ∧ X.cell? ⟨b, o + 9, none⟩ = some (.int .i64 v.k) ∧ X.cell? ⟨b, o + 9 + 1, none⟩ = some (.int .i64 v.pos) ∧ X.cell? ⟨b, o + 9 + 2, none⟩ = some (.string ⟨v.col.toArray⟩) ∧ X.cell? ⟨b, o + 9 + 3, none⟩ = some (.int .i64 v.v.k) ∧ X.cell? ⟨b, o + 9 + 4, none⟩ = some (.int .i64 v.v.n) ∧ X.cell? ⟨b, o + 9 + 5, none⟩ = some (.string v.v.s) ∧ X.cell? ⟨b, o + 9 + 6, none⟩ = some (.int .u64 v.v.f) ∧ X.cell? ⟨b, o + 9 + 7, none⟩ = some (.int .i64 v.op) ∧ X.cell? ⟨b, o + 9 + 8, none⟩ = some (.slice la ln lc)) (by kernel_rfl) (HKS.out _ (Below.refl _ _).drew) (fun hHeld => ?_)
  refine wpAnyH_take (i := 0) (oi := ⟨some 70, _, _, _, _, _⟩) (v := ?_) rfl (by kernel_rfl) (by kernel_rfl) (by kernel_rfl) (fun _ _ _ h => h) (Or.inl ⟨by rfl, ?_⟩) (by assumption) ?_; rotate_left
  · (intro X hSw; (try dsimp only at hSw); go_simp; all_goals with_reducible rfl)
  (try simp only [Act.put, List.setIfInBounds_toArray, List.set_cons_zero, List.set_cons_succ])
  refine wpAnyH_take (i := 1) (oi := ⟨some 71, _, _, _, _, _⟩) (v := ?_) rfl (by kernel_rfl) (by kernel_rfl) (by kernel_rfl) (fun _ _ _ h => h) (Or.inl ⟨by rfl, ?_⟩) (by assumption) ?_; rotate_left
  · (intro X hSw; (try dsimp only at hSw); go_simp; all_goals with_reducible rfl)
  (try simp only [Act.put, List.setIfInBounds_toArray, List.set_cons_zero, List.set_cons_succ])
  refine wpAnyH_take (i := 2) (oi := ⟨some 72, _, _, _, _, _⟩) (v := ?_) rfl (by kernel_rfl) (by kernel_rfl) (by kernel_rfl) (fun _ _ _ h => h) (Or.inl ⟨by rfl, ?_⟩) (by assumption) ?_; rotate_left
  · (intro X hSw; (try dsimp only at hSw); go_simp; all_goals with_reducible rfl)
  (try simp only [Act.put, List.setIfInBounds_toArray, List.set_cons_zero, List.set_cons_succ])
  refine wpAnyH_take (i := 3) (oi := ⟨some 73, _, _, _, _, _⟩) (v := ?_) rfl (by kernel_rfl) (by kernel_rfl) (by kernel_rfl) (fun _ _ _ h => h) (Or.inl ⟨by rfl, ?_⟩) (by assumption) ?_; rotate_left
  · (intro X hSw; (try dsimp only at hSw); go_simp; all_goals with_reducible rfl)
  (try simp only [Act.put, List.setIfInBounds_toArray, List.set_cons_zero, List.set_cons_succ])
  refine wpAnyH_take (i := 7) (oi := ⟨some 77, _, _, _, _, _⟩) (v := ?_) rfl (by kernel_rfl) (by kernel_rfl) (by kernel_rfl) (fun _ _ _ h => h) (Or.inl ⟨by rfl, ?_⟩) (by assumption) ?_; rotate_left
  · (intro X hSw; (try dsimp only at hSw); go_simp; all_goals with_reducible rfl)
  (try simp only [Act.put, List.setIfInBounds_toArray, List.set_cons_zero, List.set_cons_succ])
  refine wpAnyH_take (i := 8) (oi := ⟨some 78, _, _, _, _, _⟩) (v := ?_) rfl (by kernel_rfl) (by kernel_rfl) (by kernel_rfl) (fun _ _ _ h => h) (Or.inl ⟨by rfl, ?_⟩) (by assumption) ?_; rotate_left
  · (intro X hSw; (try dsimp only at hSw); go_simp; all_goals with_reducible rfl)
  (try simp only [Act.put, List.setIfInBounds_toArray, List.set_cons_zero, List.set_cons_succ])
  refine wpAnyH_take (i := 9) (oi := ⟨some 79, _, _, _, _, _⟩) (v := ?_) rfl (by kernel_rfl) (by kernel_rfl) (by kernel_rfl) (fun _ _ _ h => h) (Or.inl ⟨by rfl, ?_⟩) (by assumption) ?_; rotate_left
  · (intro X hSw; (try dsimp only at hSw); go_simp; all_goals with_reducible rfl)
  (try simp only [Act.put, List.setIfInBounds_toArray, List.set_cons_zero, List.set_cons_succ])
  refine wpAnyH_take (i := 10) (oi := ⟨some 80, _, _, _, _, _⟩) (v := ?_) rfl (by kernel_rfl) (by kernel_rfl) (by kernel_rfl) (fun _ _ _ h => h) (Or.inl ⟨by rfl, ?_⟩) (by assumption) ?_; rotate_left
  · (intro X hSw; (try dsimp only at hSw); go_simp; all_goals with_reducible rfl)
  (try simp only [Act.put, List.setIfInBounds_toArray, List.set_cons_zero, List.set_cons_succ])
  refine wpAnyH_ready (rs := [4]) (by kernel_rfl) (by simp) ?_
  refine AllReadyH.cons (o := _) rfl (fun K hK => ?_) AllReadyH.nil
  go_simp
  refine (HU.out _ hHeld.1).mono ?_
  rintro e wx ⟨rfl, hb0⟩
  have hbx := hHeld.1.trans (hb0.mono hHeld.1.size)
  clear hb0
  go_wp2_with fail
  refine hK.out _ _ ?_ (fun hHeld2 => ?_)
  · exact HKS.out _ hbx
  clear hK K hHeld
  have hHeld := hHeld2
  clear hHeld2
  (try simp only [Act.put, List.setIfInBounds_toArray, List.set_cons_zero, List.set_cons_succ])
  refine wpAnyH_take (i := 5) (oi := ⟨some 75, _, _, _, _, _⟩) (v := ?_) rfl (by kernel_rfl) (by kernel_rfl) (by kernel_rfl) (fun _ _ _ h => h) (Or.inl ⟨by rfl, ?_⟩) (by assumption) ?_; rotate_left
  · (intro X hSw; (try dsimp only at hSw); go_simp; all_goals with_reducible rfl)
  (try simp only [Act.put, List.setIfInBounds_toArray, List.set_cons_zero, List.set_cons_succ])
  refine wpAnyH_take (i := 6) (oi := ⟨some 76, _, _, _, _, _⟩) (v := ?_) rfl (by kernel_rfl) (by kernel_rfl) (by kernel_rfl) (fun _ _ _ h => h) (Or.inl ⟨by rfl, ?_⟩) (by assumption) ?_; rotate_left
  · (intro X hSw; (try dsimp only at hSw); go_simp; all_goals with_reducible rfl)
  (try simp only [Act.put, List.setIfInBounds_toArray, List.set_cons_zero, List.set_cons_succ])
  refine wpAnyH_ready (rs := [11]) (by kernel_rfl) (by simp) ?_
  refine AllReadyH.cons (o := _) rfl (fun K hK => ?_) AllReadyH.nil
  go_simp
  refine (HV.out _ hHeld.1).mono ?_
  rintro e wx ⟨rfl, hb0⟩
  have hbx := hHeld.1.trans (hb0.mono hHeld.1.size)
  clear hb0
  go_wp2_with fail
  refine hK.out _ _ ?_ (fun hHeld2 => ?_)
  · exact HKS.out _ hbx
  clear hK K hHeld
  have hHeld := hHeld2
  clear hHeld2
  (try simp only [Act.put, List.setIfInBounds_toArray, List.set_cons_zero, List.set_cons_succ])
  refine wpAnyH_take (i := 12) (oi := ⟨some 82, _, _, _, _, _⟩) (v := ?_) rfl (by kernel_rfl) (by kernel_rfl) (by kernel_rfl) (fun _ _ _ h => h) (Or.inl ⟨by rfl, ?_⟩) (by assumption) ?_; rotate_left
  · (intro X hSw; (try dsimp only at hSw); go_simp; all_goals with_reducible rfl)
  (try simp only [Act.put, List.setIfInBounds_toArray, List.set_cons_zero, List.set_cons_succ])
  refine wpAnyH_take (i := 13) (oi := ⟨some 83, _, _, _, _, _⟩) (v := ?_) rfl (by kernel_rfl) (by kernel_rfl) (by kernel_rfl) (fun _ _ _ h => h) (Or.inl ⟨by rfl, ?_⟩) (by assumption) ?_; rotate_left
  · (intro X hSw; (try dsimp only at hSw); go_simp; all_goals with_reducible rfl)
  (try simp only [Act.put, List.setIfInBounds_toArray, List.set_cons_zero, List.set_cons_succ])
  refine wpAnyH_take (i := 14) (oi := ⟨some 2, _, _, _, _, _⟩) (v := ?_) rfl (by kernel_rfl) (by kernel_rfl) (by kernel_rfl) (fun _ _ _ h => h) (Or.inl ⟨by rfl, ?_⟩) (by assumption) ?_; rotate_left
  · (intro X hSw; (try dsimp only at hSw); go_simp; all_goals with_reducible rfl)
  (try simp only [Act.put, List.setIfInBounds_toArray, List.set_cons_zero, List.set_cons_succ])
  refine wpAnyH_done (by kernel_rfl) ?_ _
  refine NoPanic.normal ?_
  have HB := Lib.hid (Hb0.out.trans (hHeld.1.mono Hb0.out.size))
  clear HKS hHeld
  go_wp2_with fail
  go_ret
  exact ⟨rfl, HB.out⟩
theorem printR_step (N : Nat) (ih : PrintRC N) : PrintRC (N + 1) := by
  intro t d hd hr hw hlen w S a n c hk
  obtain ⟨hf, hd40⟩ := right_form hr
  cases hf with
  | col p c hn =>
    have e1 : printT (.mk 0 p c 0 zeroVal []) = 36 :: c := by rw [printT]; rfl
    rw [e1] at hlen ⊢
    exact printR_col p c (by
      simp only [List.length_cons] at hlen
      have := name_len (c := c) hn
      omega) w a n _
  | lit p v hv =>
    have e1 : printT (.mk 1 p [] 0 v []) = printVL (rightOf v) := by rw [printT]; rfl
    rw [e1]
    rw [WfT] at hw
    exact printR_lit p v hw.1 w a n c
  | cmp p o u v h0 h5 hlu hlv hu hv =>
    have e1 : printT (.mk 2 p [] o zeroVal [u, v]) = [40] ++ printT u ++ midL o ++ printT v ++ [41] := by
      rw [printT, printTs, printTs, printTs]
      simp [printK, midL]
    rw [e1] at hlen ⊢
    rw [depth_mk, deep_cons, deep_cons] at hd
    rw [WfT, WfTs, WfTs] at hw
    simp only [List.length_append] at hlen
    exact printR_k2 p o h0 h5 u v _ _ (by omega) (fun w S a n c h => ih u _ (by omega) hu hw.2.1 (by omega) w S a n c h) (fun w S a n c h => ih v _ (by omega) hv hw.2.2.1 (by omega) w S a n c h) w S a n c hk
  | null p u hlu hu =>
    have e1 : printT (.mk 3 p [] 0 zeroVal [u]) = [40] ++ printT u ++ [32, 105, 115, 32, 110, 117, 108, 108, 41] := by
      rw [printT, printTs, printTs]
      simp [printK, kIs, tNull]
    rw [e1] at hlen ⊢
    rw [depth_mk, deep_cons] at hd
    rw [WfT, WfTs] at hw
    simp only [List.length_append] at hlen
    exact printR_k3 p u _ (by omega) (fun w S a n c h => ih u _ (by omega) hu hw.2.1 (by omega) w S a n c h) w S a n c hk
  | not p u hu =>
    have e1 : printT (.mk 4 p [] 0 zeroVal [u]) = [40, 110, 111, 116, 32] ++ printT u ++ [41] := by
      rw [printT, printTs, printTs]
      simp [printK, kNot]
    rw [e1] at hlen ⊢
    rw [depth_mk, deep_cons] at hd
    rw [WfT, WfTs] at hw
    simp only [List.length_append] at hlen
    exact printR_k4 p u _ (by omega) (fun w S a n c h => ih u _ (by omega) hu hw.2.1 (by omega) w S a n c h) w S a n c hk
  | and p u v hu hv =>
    have e1 : printT (.mk 5 p [] 0 zeroVal [u, v]) = [40] ++ printT u ++ [32, 97, 110, 100, 32] ++ printT v ++ [41] := by
      rw [printT, printTs, printTs, printTs]
      simp [printK, kAnd]
    rw [e1] at hlen ⊢
    rw [depth_mk, deep_cons, deep_cons] at hd
    rw [WfT, WfTs, WfTs] at hw
    simp only [List.length_append] at hlen
    exact printR_k5 p u v _ _ (by omega) (fun w S a n c h => ih u _ (by omega) hu hw.2.1 (by omega) w S a n c h) (fun w S a n c h => ih v _ (by omega) hv hw.2.2.1 (by omega) w S a n c h) w S a n c hk
  | or p u v hu hv =>
    have e1 : printT (.mk 6 p [] 0 zeroVal [u, v]) = [40] ++ printT u ++ [32, 111, 114, 32] ++ printT v ++ [41] := by
      rw [printT, printTs, printTs, printTs]
      simp [printK, kOr]
    rw [e1] at hlen ⊢
    rw [depth_mk, deep_cons, deep_cons] at hd
    rw [WfT, WfTs, WfTs] at hw
    simp only [List.length_append] at hlen
    exact printR_k6 p u v _ _ (by omega) (fun w S a n c h => ih u _ (by omega) hu hw.2.1 (by omega) w S a n c h) (fun w S a n c h => ih v _ (by omega) hv hw.2.2.1 (by omega) w S a n c h) w S a n c hk
theorem printRc_any (N : Nat) : PrintRC N := by
  induction N with
  | zero => intro t d hd; have := depth_eq t; omega
  | succ N ih => exact printR_step N ih
end Go.Proofs.YthhghlnbpigcjaaGreatDoor
