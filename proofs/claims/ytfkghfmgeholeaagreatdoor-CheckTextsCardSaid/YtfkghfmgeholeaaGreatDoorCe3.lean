/- The walk of ref18.Faults: comparisons. -/
import Derived.Test.YtfkghfmgeholeaaGreatDoorCe2
set_option linter.unusedVariables false
set_option linter.unusedSimpArgs false
namespace Go.Proofs.YtfkghfmgeholeaaGreatDoor
open Go.RowKit

set_option maxHeartbeats 16000000 in
set_option maxRecDepth 100000 in
theorem faults_cmp (l : List Fd) (p op : Int) (x y : Tree) : FaultsA l (.mk 2 p [] op zeroVal [x, y]) := by
  intro w S ta tn tc a n c hkids hl hn
  have hb0 := Below.new w (.cells (Tree.cells (.mk 2 p [] op zeroVal [x, y]) ta tn tc) 30)
  have HB0 : Hid (Below w.heap.size w _) := Lib.hid hb0
  have HV0 := Lib.hid (KVar.new w (.mk 2 p [] op zeroVal [x, y]) ta tn tc 30)
  rw [faultsL_cmp]
  have hkids' : KSl w S [x, y] ta tn := hkids
  obtain ⟨kids, HKS⟩ : ∃ k, Hid ([x, y] = k) := ⟨_, Lib.hid rfl⟩
  have HK0 : Hid (KSl _ S kids ta tn) := Lib.hid (HKS.out ▸ (hkids'.later hb0))
  have Hlen : Hid (tn = 2) := Lib.hid hkids'.len
  have hti : (tn : Int) ≤ 2 := by have : tn = 2 := hkids'.len; omega
  have HKd : Hid (∀ (X : World) (u : Tree) (ua : Option Addr) (un uc : Nat), Below w.heap.size w X → Calls Tryz.prog 51 #[.agg #[.int .i64 u.k, .int .i64 u.pos, .string ⟨u.col.toArray⟩, .int .i64 u.v.k, .int .i64 u.v.n, .string u.v.s, .int .u64 u.v.f, .int .i64 u.op, .slice ua un uc], .slice a n c] X fun e w' => e = .returned (.int .i64 (kdR l u)) ∧ Below X.heap.size X w') := Lib.hid fun X u ua un uc hb => kindR_any X u ua un uc a n c l (hl.later hb) hn
  obtain ⟨b, o, ka, kn, kc, la, ln, lc, eta, etn, -, -, hx, hy, -, -⟩ := hkids'.two
  have Hx := Lib.hid (hx.below hb0)
  have Hy := Lib.hid (hy.below hb0)
  have Heta := Lib.hid eta
  have Hq : Hid (pairR l p [x, y] = if 0 < kdR l x ∧ 0 < kdR l y ∧ kdR l x ≠ kdR l y then [(p, 181)] else []) := Lib.hid rfl
  clear hx hy eta etn
  clear hkids hkids' hl hn hb0
  generalize hL : opsR l [x, y] ++ pairR l p [x, y] = L
  have HL : Hid (opsR l kids ++ pairR l p [x, y] = L) := Lib.hid (by rw [← HKS.out]; exact hL)
  clear hL
  simp only [Tree.val, Tree.k, Tree.pos, Tree.col, Tree.op, Tree.v, zeroVal]
  go_enter Tryz.func35, Tryz.ntmps35
  go_upto_region 1 with fail
  generalize hW : World.alloc w _ = W
  replace HB0 : Hid (Below w.heap.size w W) := Lib.hid (by rw [← hW]; exact HB0.out)
  replace HV0 : Hid (KVar W w.heap.size (.mk 2 p [] op zeroVal [x, y]) ta tn tc) := Lib.hid (by rw [← hW]; exact HV0.out)
  have HK1 : Hid (KSl W S kids ta tn) := Lib.hid (by rw [← hW]; exact HK0.out)
  have Hx1 : Hid (KAt W b o x ka kn kc) := Lib.hid (by rw [← hW]; exact Hx.out)
  have Hy1 : Hid (KAt W b (o + 9) y la ln lc) := Lib.hid (by rw [← hW]; exact Hy.out)
  clear hW
  obtain ⟨k0, k1, k2, k3, k4, k5, k6, k7, k8, -, -⟩ := HV0.out
  simp only [Tree.k, Tree.pos, Tree.col, Tree.op, Tree.v] at k0 k1 k2 k3 k4 k5 k6 k7 k8
  go_wp2_with fail
  clear k0 k1 k2 k3 k4 k5 k6 k7 k8
  go_loopg [5, 7, 24] tn (fun g s5 _ s24 wx => ∃ (j : Nat) (I : Int) (v : Value), s5 = v ∧ s24 = .int .i64 I ∧ Hid (I = (j : Int) ∧ j + g = tn) ∧ Hid (RBuf EF W wx v (opsR l (kids.take j))))
  case atStart => exact ⟨0, 0, _, rfl, rfl, Lib.hid ⟨rfl, by omega⟩, Lib.hid (RBuf.start W)⟩
  case round =>
    obtain ⟨j, I, v, rfl, rfl, HI, HB⟩ := hrel
    have hI0 : 0 ≤ I := by have := HI.out; omega
    by_cases hm : gk = 0
    · have hI1 : ¬ I < (tn : Int) := by have := HI.out; omega
      have HVr := Lib.hid (HV0.out.below HB.out.below HV0.out.lt)
      have HBe : Hid (RBuf EF W wr u5 (opsR l kids)) := Lib.hid (by
        have h1 := HI.out; have h2 := HK1.out.len
        have h3 : kids.take j = kids := List.take_of_length_le (by omega)
        have h4 := HB.out
        rw [h3] at h4
        exact h4)
      obtain ⟨k0, k1, k2, k3, k4, k5, k6, k7, k8, -, -⟩ := HVr.out
      simp only [Tree.k, Tree.pos, Tree.col, Tree.op, Tree.v] at k0 k1 k2 k3 k4 k5 k6 k7 k8
      clear hm
      obtain rfl : ta = some ⟨b, o, none⟩ := Heta.out
      have Hx2 := Lib.hid (Hx1.out.below HB.out.below)
      have Hy2 := Lib.hid (Hy1.out.below HB.out.below)
      have Hbw := Lib.hid (HB0.out.trans (HB.out.below.mono HB0.out.size))
      go_upto_region 22 with fail
      obtain rfl : tn = 2 := Hlen.out
      clear hI1 hti
      have HKQ : Hid (∀ X, Below wr.heap.size wr X → Below wr.heap.size wr X ∧ X.cell? ⟨w.heap.size, 8, none⟩ = some (.slice (some ⟨b, o, none⟩) 2 tc) ∧ X.cell? ⟨b, o, none⟩ = some (.int .i64 x.k) ∧ X.cell? ⟨b, o + 1, none⟩ = some (.int .i64 x.pos) ∧ X.cell? ⟨b, o + 2, none⟩ = some (.string ⟨x.col.toArray⟩) ∧ X.cell? ⟨b, o + 3, none⟩ = some (.int .i64 x.v.k) ∧ X.cell? ⟨b, o + 4, none⟩ = some (.int .i64 x.v.n) ∧ X.cell? ⟨b, o + 5, none⟩ = some (.string x.v.s) ∧ X.cell? ⟨b, o + 6, none⟩ = some (.int .u64 x.v.f) ∧ X.cell? ⟨b, o + 7, none⟩ = some (.int .i64 x.op) ∧ X.cell? ⟨b, o + 8, none⟩ = some (.slice ka kn kc) ∧ X.cell? ⟨b, o + 9, none⟩ = some (.int .i64 y.k) ∧ X.cell? ⟨b, o + 9 + 1, none⟩ = some (.int .i64 y.pos) ∧ X.cell? ⟨b, o + 9 + 2, none⟩ = some (.string ⟨y.col.toArray⟩) ∧ X.cell? ⟨b, o + 9 + 3, none⟩ = some (.int .i64 y.v.k) ∧ X.cell? ⟨b, o + 9 + 4, none⟩ = some (.int .i64 y.v.n) ∧ X.cell? ⟨b, o + 9 + 5, none⟩ = some (.string y.v.s) ∧ X.cell? ⟨b, o + 9 + 6, none⟩ = some (.int .u64 y.v.f) ∧ X.cell? ⟨b, o + 9 + 7, none⟩ = some (.int .i64 y.op) ∧ X.cell? ⟨b, o + 9 + 8, none⟩ = some (.slice la ln lc)) := Lib.hid fun X hb => by
        have kA := HVr.out.below hb HVr.out.lt
        have kB := Hx2.out.below hb
        have kC := Hy2.out.below hb
        exact ⟨hb, kA.c8, kB.c0, kB.c1, kB.c2, kB.c3, kB.c4, kB.c5, kB.c6, kB.c7, kB.c8, kC.c0, kC.c1, kC.c2, kC.c3, kC.c4, kC.c5, kC.c6, kC.c7, kC.c8⟩
      have HC1 : Hid (∀ X, Below wr.heap.size wr X → Calls Tryz.prog 51 #[.agg #[.int .i64 x.k, .int .i64 x.pos, .string ⟨x.col.toArray⟩, .int .i64 x.v.k, .int .i64 x.v.n, .string x.v.s, .int .u64 x.v.f, .int .i64 x.op, .slice ka kn kc], .slice a n c] X fun e w' => e = .returned (.int .i64 (kdR l x)) ∧ Below X.heap.size X w') := Lib.hid fun X hb => HKd.out X x ka kn kc (Hbw.out.trans (hb.mono Hbw.out.size))
      have HC2 : Hid (∀ X, Below wr.heap.size wr X → Calls Tryz.prog 51 #[.agg #[.int .i64 y.k, .int .i64 y.pos, .string ⟨y.col.toArray⟩, .int .i64 y.v.k, .int .i64 y.v.n, .string y.v.s, .int .u64 y.v.f, .int .i64 y.op, .slice la ln lc], .slice a n c] X fun e w' => e = .returned (.int .i64 (kdR l y)) ∧ Below X.heap.size X w') := Lib.hid fun X hb => HKd.out X y la ln lc (Hbw.out.trans (hb.mono Hbw.out.size))
      clear k0 k1 k2 k3 k4 k5 k6 k7 k8
      refine wp_region_noPanic ?_
      refine wp_region_held_drew (S := fun X => Below wr.heap.size wr X ∧ X.cell? ⟨w.heap.size, 8, none⟩ = some (.slice (some ⟨b, o, none⟩) 2 tc) ∧ X.cell? ⟨b, o, none⟩ = some (.int .i64 x.k) ∧ X.cell? ⟨b, o + 1, none⟩ = some (.int .i64 x.pos) ∧ X.cell? ⟨b, o + 2, none⟩ = some (.string ⟨x.col.toArray⟩) ∧ X.cell? ⟨b, o + 3, none⟩ = some (.int .i64 x.v.k) ∧ X.cell? ⟨b, o + 4, none⟩ = some (.int .i64 x.v.n) ∧ X.cell? ⟨b, o + 5, none⟩ = some (.string x.v.s) ∧ X.cell? ⟨b, o + 6, none⟩ = some (.int .u64 x.v.f) ∧ X.cell? ⟨b, o + 7, none⟩ = some (.int .i64 x.op) ∧ X.cell? ⟨b, o + 8, none⟩ = some (.slice ka kn kc) ∧ X.cell? ⟨b, o + 9, none⟩ = some (.int .i64 y.k) ∧ X.cell? ⟨b, o + 9 + 1, none⟩ = some (.int .i64 y.pos) ∧ X.cell? ⟨b, o + 9 + 2, none⟩ = some (.string ⟨y.col.toArray⟩) ∧ X.cell? ⟨b, o + 9 + 3, none⟩ = some (.int .i64 y.v.k) ∧ X.cell? ⟨b, o + 9 + 4, none⟩ = some (.int .i64 y.v.n) ∧ X.cell? ⟨b, o + 9 + 5, none⟩ = some (.string y.v.s) ∧ X.cell? ⟨b, o + 9 + 6, none⟩ = some (.int .u64 y.v.f) ∧ X.cell? ⟨b, o + 9 + 7, none⟩ = some (.int .i64 y.op) ∧ X.cell? ⟨b, o + 9 + 8, none⟩ = some (.slice la ln lc)) (by kernel_rfl) (HKQ.out _ (Below.refl _ _).drew) (fun hHeld => ?_)
      refine wpAnyH_take (i := 0) (oi := ⟨some 88, _, _, _, _, _⟩) (v := ?_) rfl (by kernel_rfl) (by kernel_rfl) (by kernel_rfl) (fun _ _ _ h => h) (Or.inl ⟨by rfl, ?_⟩) (by assumption) ?_; rotate_left
      · (intro X hSw; (try dsimp only at hSw); go_simp; all_goals with_reducible rfl)
      (try simp only [Act.put, List.setIfInBounds_toArray, List.set_cons_zero, List.set_cons_succ])
      refine wpAnyH_take (i := 1) (oi := ⟨some 89, _, _, _, _, _⟩) (v := ?_) rfl (by kernel_rfl) (by kernel_rfl) (by kernel_rfl) (fun _ _ _ h => h) (Or.inl ⟨by rfl, ?_⟩) (by assumption) ?_; rotate_left
      · (intro X hSw; (try dsimp only at hSw); go_simp; all_goals with_reducible rfl)
      (try simp only [Act.put, List.setIfInBounds_toArray, List.set_cons_zero, List.set_cons_succ])
      refine wpAnyH_take (i := 2) (oi := ⟨some 90, _, _, _, _, _⟩) (v := ?_) rfl (by kernel_rfl) (by kernel_rfl) (by kernel_rfl) (fun _ _ _ h => h) (Or.inl ⟨by rfl, ?_⟩) (by assumption) ?_; rotate_left
      · (intro X hSw; (try dsimp only at hSw); go_simp; all_goals with_reducible rfl)
      (try simp only [Act.put, List.setIfInBounds_toArray, List.set_cons_zero, List.set_cons_succ])
      refine wpAnyH_take (i := 3) (oi := ⟨some 91, _, _, _, _, _⟩) (v := ?_) rfl (by kernel_rfl) (by kernel_rfl) (by kernel_rfl) (fun _ _ _ h => h) (Or.inl ⟨by rfl, ?_⟩) (by assumption) ?_; rotate_left
      · (intro X hSw; (try dsimp only at hSw); go_simp; all_goals with_reducible rfl)
      (try simp only [Act.put, List.setIfInBounds_toArray, List.set_cons_zero, List.set_cons_succ])
      refine wpAnyH_take (i := 4) (oi := ⟨some 92, _, _, _, _, _⟩) (v := ?_) rfl (by kernel_rfl) (by kernel_rfl) (by kernel_rfl) (fun _ _ _ h => h) (Or.inl ⟨by rfl, ?_⟩) (by assumption) ?_; rotate_left
      · (intro X hSw; (try dsimp only at hSw); go_simp; all_goals with_reducible rfl)
      (try simp only [Act.put, List.setIfInBounds_toArray, List.set_cons_zero, List.set_cons_succ])
      refine wpAnyH_take (i := 6) (oi := ⟨some 94, _, _, _, _, _⟩) (v := ?_) rfl (by kernel_rfl) (by kernel_rfl) (by kernel_rfl) (fun _ _ _ h => h) (Or.inl ⟨by rfl, ?_⟩) (by assumption) ?_; rotate_left
      · (intro X hSw; (try dsimp only at hSw); go_simp; all_goals with_reducible rfl)
      (try simp only [Act.put, List.setIfInBounds_toArray, List.set_cons_zero, List.set_cons_succ])
      refine wpAnyH_take (i := 7) (oi := ⟨some 95, _, _, _, _, _⟩) (v := ?_) rfl (by kernel_rfl) (by kernel_rfl) (by kernel_rfl) (fun _ _ _ h => h) (Or.inl ⟨by rfl, ?_⟩) (by assumption) ?_; rotate_left
      · (intro X hSw; (try dsimp only at hSw); go_simp; all_goals with_reducible rfl)
      (try simp only [Act.put, List.setIfInBounds_toArray, List.set_cons_zero, List.set_cons_succ])
      refine wpAnyH_take (i := 8) (oi := ⟨some 96, _, _, _, _, _⟩) (v := ?_) rfl (by kernel_rfl) (by kernel_rfl) (by kernel_rfl) (fun _ _ _ h => h) (Or.inl ⟨by rfl, ?_⟩) (by assumption) ?_; rotate_left
      · (intro X hSw; (try dsimp only at hSw); go_simp; all_goals with_reducible rfl)
      (try simp only [Act.put, List.setIfInBounds_toArray, List.set_cons_zero, List.set_cons_succ])
      refine wpAnyH_take (i := 9) (oi := ⟨some 97, _, _, _, _, _⟩) (v := ?_) rfl (by kernel_rfl) (by kernel_rfl) (by kernel_rfl) (fun _ _ _ h => h) (Or.inl ⟨by rfl, ?_⟩) (by assumption) ?_; rotate_left
      · (intro X hSw; (try dsimp only at hSw); go_simp; all_goals with_reducible rfl)
      (try simp only [Act.put, List.setIfInBounds_toArray, List.set_cons_zero, List.set_cons_succ])
      refine wpAnyH_take (i := 10) (oi := ⟨some 98, _, _, _, _, _⟩) (v := ?_) rfl (by kernel_rfl) (by kernel_rfl) (by kernel_rfl) (fun _ _ _ h => h) (Or.inl ⟨by rfl, ?_⟩) (by assumption) ?_; rotate_left
      · (intro X hSw; (try dsimp only at hSw); go_simp; all_goals with_reducible rfl)
      (try simp only [Act.put, List.setIfInBounds_toArray, List.set_cons_zero, List.set_cons_succ])
      refine wpAnyH_ready (rs := [5]) (by kernel_rfl) (by simp) ?_
      refine AllReadyH.cons (o := _) rfl (fun K hK => ?_) AllReadyH.nil
      go_simp
      refine (HC1.out _ hHeld.1).mono ?_
      rintro e wx ⟨rfl, hb0⟩
      have hbx := hHeld.1.trans (hb0.mono hHeld.1.size)
      clear hb0
      go_wp2_with fail
      refine hK.out _ _ ?_ (fun hHeld2 => ?_)
      · exact HKQ.out _ hbx
      clear hK K hHeld
      have hHeld := hHeld2
      clear hHeld2
      (try simp only [Act.put, List.setIfInBounds_toArray, List.set_cons_zero, List.set_cons_succ])
      refine wpAnyH_ready (rs := [11]) (by kernel_rfl) (by simp) ?_
      refine AllReadyH.cons (o := _) rfl (fun K hK => ?_) AllReadyH.nil
      go_simp
      refine (HC2.out _ hHeld.1).mono ?_
      rintro e wx ⟨rfl, hb0⟩
      have hbx := hHeld.1.trans (hb0.mono hHeld.1.size)
      clear hb0
      go_wp2_with fail
      refine hK.out _ _ ?_ (fun hHeld2 => ?_)
      · exact HKQ.out _ hbx
      clear hK K hHeld
      have hHeld := hHeld2
      clear hHeld2
      (try simp only [Act.put, List.setIfInBounds_toArray, List.set_cons_zero, List.set_cons_succ])
      refine wpAnyH_take (i := 12) (oi := ⟨some 11, _, _, _, _, _⟩) (v := ?_) rfl (by kernel_rfl) (by kernel_rfl) (by kernel_rfl) (fun _ _ _ h => h) (Or.inl ⟨by rfl, ?_⟩) (by assumption) ?_; rotate_left
      · (intro X hSw; (try dsimp only at hSw); go_simp; all_goals with_reducible rfl)
      (try simp only [Act.put, List.setIfInBounds_toArray, List.set_cons_zero, List.set_cons_succ])
      refine wpAnyH_take (i := 13) (oi := ⟨some 12, _, _, _, _, _⟩) (v := ?_) rfl (by kernel_rfl) (by kernel_rfl) (by kernel_rfl) (fun _ _ _ h => h) (Or.inl ⟨by rfl, ?_⟩) (by assumption) ?_; rotate_left
      · (intro X hSw; (try dsimp only at hSw); go_simp; all_goals with_reducible rfl)
      (try simp only [Act.put, List.setIfInBounds_toArray, List.set_cons_zero, List.set_cons_succ])
      refine wpAnyH_done (by kernel_rfl) ?_ _
      refine NoPanic.normal ?_
      have Hb9 := Lib.hid hHeld.1
      clear HKQ HC1 HC2 hHeld
      generalize kdR l x = K at Hq ⊢
      generalize kdR l y = Q at Hq ⊢
      have HB9 := Lib.hid (HBe.out.later Hb9.out)
      have HV9 := Lib.hid (HVr.out.below Hb9.out HVr.out.lt)
      obtain ⟨k0, k1, k2, k3, k4, k5, k6, k7, k8, -, -⟩ := HV9.out
      simp only [Tree.k, Tree.pos, Tree.col, Tree.op, Tree.v] at k0 k1 k2 k3 k4 k5 k6 k7 k8
      by_cases q : 0 < K ∧ 0 < Q ∧ K ≠ Q
      · have Hp : Hid (opsR l kids ++ [(p, 181)] = L) := Lib.hid (by rw [← HL.out, Hq.out, if_pos q])
        obtain ⟨q1, q2, q3⟩ := q
        have d3 : (K != Q) = true := by rw [bne_iff_ne]; exact q3
        clear q3
        have Hal : Hid ((opsR l kids).length + [(p, (181 : Int))].length ≤ 100000000) := Lib.hid (by have := opsR_len l kids; have := HK1.out.len; have := Hlen.out; simp; omega)
        go_wp2_with (at_builtin; refine wpList_rbuf EF rfl (.tmp 111) (.tmp 115) rfl W _ _ _ (opsR l kids) [(p, 181)] HB9.out Hal.out (Below.new _ _) (ef_new _ p 181 _) rfl rfl ?_; intro v' w9 hb9 _; have Hb10 := Lib.hid hb9; clear hb9)
        go_wp2_with fail
        go_ret
        exact fltAns (Hp.out ▸ Hb10.out.since HB0.out)
      · have Hp : Hid (opsR l kids = L) := Lib.hid (by rw [← HL.out, Hq.out, if_neg q, List.append_nil])
        by_cases q1 : 0 < K
        · by_cases q2 : 0 < Q
          · have d3 : (K != Q) = false := by
              cases h : (K != Q) with
              | false => rfl
              | true => exact absurd ⟨q1, q2, bne_iff_ne.1 h⟩ q
            clear q
            go_wp2_with fail
            go_ret
            exact fltAns (Hp.out ▸ HB9.out.since HB0.out)
          · clear q
            go_wp2_with fail
            go_ret
            exact fltAns (Hp.out ▸ HB9.out.since HB0.out)
        · clear q
          go_wp2_with fail
          go_ret
          exact fltAns (Hp.out ▸ HB9.out.since HB0.out)
    · have hI1 : I < (tn : Int) := by have := HI.out; omega
      have hIj : I.toNat = j := by have := HI.out; omega
      obtain ⟨u, hu⟩ : ∃ u, kids[j]? = some u := ⟨kids[j]'(by have := HI.out; have := HK1.out.len; omega), List.getElem?_eq_getElem _⟩
      obtain ⟨b, o, ua, un, uc, e1, hua, -⟩ := (HK1.out.later HB.out.below).get hu
      subst e1
      have Hua := Lib.hid hua
      have Hnx := Lib.hid (opsR_next (l := l) hu)
      have hbn := Below.new wr (.cells (u.cells ua un uc) 30)
      have HV6 := Lib.hid (KVar.new wr u ua un uc 30)
      have Hbn := Lib.hid hbn
      have Hbw := Lib.hid ((HB0.out.trans (HB.out.below.mono HB0.out.size)).trans (hbn.mono (Nat.le_trans HB0.out.size HB.out.below.size)))
      have Hal : Hid ((opsR l (kids.take j)).length + [(u.pos, (180 : Int))].length ≤ 100000000) := Lib.hid (by have := len_take_ops l kids j; have := HK1.out.len; simp; omega)
      have Hm := Lib.hid hm
      have HKu : Hid (∀ X, Below w.heap.size w X → Calls Tryz.prog 51 #[.agg #[.int .i64 u.k, .int .i64 u.pos, .string ⟨u.col.toArray⟩, .int .i64 u.v.k, .int .i64 u.v.n, .string u.v.s, .int .u64 u.v.f, .int .i64 u.op, .slice ua un uc], .slice a n c] X fun e w' => e = .returned (.int .i64 (kdR l u)) ∧ Below X.heap.size X w') := Lib.hid fun X hb => HKd.out X u ua un uc hb
      have Hop1 : Hid (kdR l u < 0 → opR l u = [(u.pos, 180)]) := Lib.hid opR_yes
      have Hop2 : Hid (0 ≤ kdR l u → opR l u = []) := Lib.hid fun h => opR_no (by omega)
      clear hu hua hbn hm
      generalize kdR l u = K at HKu Hop1 Hop2
      generalize opR l u = OP at Hop1 Hop2 Hnx
      obtain ⟨c0, c1, c2, c3, c4, c5, c6, c7, c8⟩ := Hua.out
      go_upto_region 6 with fail
      clear c0 c1 c2 c3 c4 c5 c6 c7 c8
      generalize hW : World.alloc wr _ = W6
      replace HV6 : Hid (KVar W6 wr.heap.size u ua un uc) := Lib.hid (by rw [← hW]; exact HV6.out)
      replace Hbn : Hid (Below wr.heap.size wr W6) := Lib.hid (by rw [← hW]; exact Hbn.out)
      replace Hbw : Hid (Below w.heap.size w W6) := Lib.hid (by rw [← hW]; exact Hbw.out)
      clear hW
      obtain ⟨c0, c1, c2, c3, c4, c5, c6, c7, c8, -, -⟩ := HV6.out
      have hc := Lib.hid (HKu.out W6 Hbw.out)
      go_wp2_with fail
      refine hc.out.mono ?_
      clear hc c0 c1 c2 c3 c4 c5 c6 c7 c8
      rintro e w7 ⟨rfl, hb7⟩
      have Hb7 := Lib.hid (Hbn.out.trans (hb7.mono Hbn.out.size))
      have HV7 := Lib.hid (HV6.out.below hb7 HV6.out.lt)
      clear hb7
      obtain ⟨c0, c1, c2, c3, c4, c5, c6, c7, c8, -, -⟩ := HV7.out
      by_cases hK : K < 0
      · obtain rfl := Hop1.out hK
        go_wp2_with (at_builtin; refine wpList_rbuf EF rfl (.tmp 32) (.tmp 36) rfl W wr _ _ (opsR l (kids.take j)) [(u.pos, 180)] HB.out Hal.out (Hb7.out.alloc Hb7.out.size _) (ef_new w7 u.pos 180 _) rfl rfl ?_; intro v' w8 hb8 _; have Hb8 := Lib.hid hb8; clear hb8)
        clear c0 c1 c2 c3 c4 c5 c6 c7 c8
        go_wp2_with fail
        go_roundg (gk - 1)
        case measure => have := Hm.out; omega
        case rel => exact ⟨j + 1, I + 1, _, rfl, rfl, Lib.hid ⟨by have := HI.out; omega, by have := HI.out; have := Hm.out; omega⟩, Lib.hid (by rw [Hnx.out]; exact Hb8.out)⟩
      · obtain rfl := Hop2.out (by omega)
        clear c0 c1 c2 c3 c4 c5 c6 c7 c8
        go_wp2_with fail
        go_roundg (gk - 1)
        case measure => have := Hm.out; omega
        case rel => exact ⟨j + 1, I + 1, _, rfl, rfl, Lib.hid ⟨by have := HI.out; omega, by have := HI.out; have := Hm.out; omega⟩, Lib.hid (by rw [Hnx.out, List.append_nil]; exact HB.out.later Hb7.out)⟩
theorem faults_any (l : List Fd) (N : Nat) (hN : N ≤ 100000) : ∀ (t : Tree) (d : Nat), t.nodes ≤ N → rightT d t = true → FaultsA l t := by
  induction N with
  | zero => intro t d ht; exact absurd (nodes_pos t) (by omega)
  | succ N ih =>
    intro t d ht hr
    have hf := (right_form hr).1
    have hnd := nodes_eq t
    have hfl := faultss_len l t.kids
    cases hf with
    | col p c hc => exact faults_leaf l _ (.inl rfl)
    | lit p v hv => exact faults_leaf l _ (.inr rfl)
    | null p a ha hra => exact faults_null l p a
    | cmp p o a b h0 h5 ha hb hra hrb => exact faults_cmp l p o a b
    | not p a hra =>
      exact faults_node l 4 p (.inl rfl) [a] (by simp) (by simp only [Tree.kids] at hfl hnd; omega) fun x hx => by
        have hm := mem_nodes hx
        simp only [Tree.kids] at hnd
        obtain rfl := List.mem_singleton.1 hx
        exact ih (by omega) _ _ (by omega) hra
    | and p a b hra hrb =>
      exact faults_node l 5 p (.inr (.inl rfl)) [a, b] (by simp) (by simp only [Tree.kids] at hfl hnd; omega) fun x hx => by
        have hm := mem_nodes hx
        simp only [Tree.kids] at hnd
        rcases List.mem_cons.1 hx with rfl | hx
        · exact ih (by omega) _ _ (by omega) hra
        · obtain rfl := List.mem_singleton.1 hx
          exact ih (by omega) _ _ (by omega) hrb
    | or p a b hra hrb =>
      exact faults_node l 6 p (.inr (.inr rfl)) [a, b] (by simp) (by simp only [Tree.kids] at hfl hnd; omega) fun x hx => by
        have hm := mem_nodes hx
        simp only [Tree.kids] at hnd
        rcases List.mem_cons.1 hx with rfl | hx
        · exact ih (by omega) _ _ (by omega) hra
        · obtain rfl := List.mem_singleton.1 hx
          exact ih (by omega) _ _ (by omega) hrb
end Go.Proofs.YtfkghfmgeholeaaGreatDoor
