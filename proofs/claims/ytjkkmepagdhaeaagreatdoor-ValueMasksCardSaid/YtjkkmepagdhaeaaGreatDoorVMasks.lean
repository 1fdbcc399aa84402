/- The walk of ValueMasks. -/
import Derived.Test.YtjkkmepagdhaeaaGreatDoorVm1
set_option linter.unusedVariables false
set_option linter.unusedSimpArgs false
namespace Go.Proofs.YtjkkmepagdhaeaaGreatDoor
open Go.RowKit

theorem mask_right {x : Val} (h : RightC x) (mk mn : Int) (hx : rightB x = true) : rightB (maskX x mk mn) = true := by
  unfold maskX
  split
  · exact hx
  · split
    · rcases h with ⟨k, n, s, f⟩ | ⟨k, s, f⟩ | ⟨k, s, f, n⟩ | ⟨k, n, f, s⟩ | ⟨k, n, s, f⟩ <;> rw [k] <;> decide +kernel
    · split
      · rename_i h3
        rcases h with ⟨k, n, s, f⟩ | ⟨k, s, f⟩ | ⟨k, s, f, n⟩ | ⟨k, n, f, s⟩ | ⟨k, n, s, f⟩ <;> try omega
        unfold rightB
        simp only [k, n, f]
        have hsz : (x.s.extract 0 (min (x.s.size : Int) (max mn 0)).toNat).size ≤ 64 := by
          rw [Lib.size_eq, extract_take, List.length_take, ← Lib.size_eq]; omega
        simp
        omega
      · decide +kernel
theorem mask_idem {x : Val} (h : RightC x) (mk mn : Int) : maskX (maskX x mk mn) mk mn = maskX x mk mn := by
  by_cases h0 : mk = 0
  · unfold maskX; rw [if_pos h0, if_pos h0]
  by_cases h2 : mk = 2
  · unfold maskX; rw [if_neg h0, if_pos h2, if_neg h0, if_pos h2]
  by_cases h3 : mk = 3 ∧ x.k = 3
  · have e : maskX x mk mn = ⟨x.k, x.n, x.s.extract 0 (min (x.s.size : Int) (max mn 0)).toNat, x.f⟩ := by unfold maskX; rw [if_neg h0, if_neg h2, if_pos h3]
    rw [e]
    unfold maskX
    rw [if_neg h0, if_neg h2, if_pos h3]
    congr 1
    have hl : x.s.data.toList.length = x.s.size := (Lib.size_eq x.s).symm
    have hs : (x.s.extract 0 (min (x.s.size : Int) (max mn 0)).toNat).size = (min (x.s.size : Int) (max mn 0)).toNat := by
      rw [Lib.size_eq, extract_take, List.length_take, hl]; omega
    simp only [hs]
    rw [extract_take, extract_take]
    congr 2
    simp only
    rw [List.take_take]
    congr 1
    omega
  · have e : maskX x mk mn = zeroVal := by unfold maskX; rw [if_neg h0, if_neg h2, if_neg h3]
    rw [e]
    exact maskX_zero (right_cases (by decide +kernel)) rfl mk mn
/-- what the law's own blocks hold -/
structure VM (w W : World) (A : Nat) (v : Val) (mk mn : Int) : Prop where
  one : At W A v.k v.n v.s v.f
  two : MAt W (A + 1) mk mn
  bel : Below A w W
theorem VM.below {w W W' : World} {A : Nat} {v : Val} {mk mn : Int} (h : VM w W A v mk mn) (hb : Below W.heap.size W W') : VM w W' A v mk mn :=
  ⟨h.one.below hb h.one.lt, h.two.below hb h.two.lt, h.bel.trans (hb.mono (Nat.le_of_lt h.one.lt))⟩
theorem VM.new (w : World) (v : Val) (mk mn : Int) : VM w ((w.alloc (.cells #[.int .i64 v.k, .int .i64 v.n, .string v.s, .int .u64 v.f] 25)).alloc (.cells #[.int .i64 mk, .int .i64 mn] 45)) w.heap.size v mk mn where
  one := (At.new w v.k v.n v.s v.f _).alloc _
  two := by
    have hs : (w.alloc (.cells #[.int .i64 v.k, .int .i64 v.n, .string v.s, .int .u64 v.f] 25)).heap.size = w.heap.size + 1 := by simp
    rw [← hs]
    exact ⟨by simp, by simp, by simp⟩
  bel := ((Below.refl _ _).alloc (Nat.le_refl _) _).alloc (by simp) _
structure VMX (w W : World) (A C : Nat) (v : Val) (mk mn : Int) (x : Val) : Prop where
  vm : VM w W A v mk mn
  x : At W C x.k x.n x.s x.f
theorem VMX.below {w W W' : World} {A C : Nat} {v : Val} {mk mn : Int} {x : Val} (h : VMX w W A C v mk mn x) (hb : Below W.heap.size W W') : VMX w W' A C v mk mn x := ⟨h.vm.below hb, h.x.below hb h.x.lt⟩
set_option maxHeartbeats 16000000 in
set_option maxRecDepth 100000 in
theorem masks_walk (w : World) (hl : Laid w) (v : Val) (mk mn k : Int) (hv : v.Wf) (hm0 : -9223372036854775808 ≤ mn) (hm1 : mn ≤ 9223372036854775807) :
    Calls Tryz.prog 9 #[v.v, .agg #[.int .i64 mk, .int .i64 mn], .int .i64 k] w fun e w' => e = .returned (.bool true) ∧ Below w.heap.size w w' := by
  have Hl := Lib.hid hl; clear hl
  have Hd := Lib.hid (VM.new w v mk mn)
  have hxr := mask_right (rightC v) mk mn (right_right v)
  have hxi := mask_idem (rightC v) mk mn
  have hxw : 0 ≤ (maskX (rightOf v) mk mn).f ∧ (maskX (rightOf v) mk mn).f < 18446744073709551616 := by
    have hr := right_wf v hv
    unfold maskX
    split
    · exact ⟨hr.f0, hr.f1⟩
    · split
      · exact ⟨by simp, by simp⟩
      · split
        · exact ⟨hr.f0, hr.f1⟩
        · exact ⟨by decide, by decide⟩
  have Hx : Hid (∀ W : World, Calls Tryz.prog 30 #[v.v, .agg #[.int .i64 mk, .int .i64 mn]] W fun e w' => e = .returned (maskX (rightOf v) mk mn).v ∧ Below W.heap.size W w') := Lib.hid fun W => mask_any W v mk mn
  have Gr : ∀ W : World, Calls Tryz.prog 31 #[v.v, .agg #[.int .i64 mk, .int .i64 mn]] W fun e w' => e = .returned (maskX (rightOf v) mk mn).v ∧ Below W.heap.size W w' := fun W => maskR_any W v mk mn hv hm0 hm1
  have Gq : ∀ W : World, Calls Tryz.prog 19 #[(maskX (rightOf v) mk mn).v] W fun e w' => e = .returned (.bool true) ∧ Below W.heap.size W w' := fun W => by
    have := rightR_any W (maskX (rightOf v) mk mn) hxw.1 hxw.2
    rwa [hxr] at this
  have Gm : ∀ W : World, Calls Tryz.prog 30 #[(maskX (rightOf v) mk mn).v, .agg #[.int .i64 mk, .int .i64 mn]] W fun e w' => e = .returned (maskX (rightOf v) mk mn).v ∧ Below W.heap.size W w' := fun W => by
    have := mask_any W (maskX (rightOf v) mk mn) mk mn
    rwa [right_self hxr, hxi] at this
  have Ga : ∀ W : World, Calls Tryz.prog 32 #[.agg #[.int .i64 mk, .int .i64 mn], .int .i64 k] W fun e w' => e = .returned (.bool (rmB mk mn k)) ∧ Below W.heap.size W w' := fun W => rightMask_any W mk mn k
  have Gb : ∀ W : World, Calls Tryz.prog 33 #[.agg #[.int .i64 mk, .int .i64 mn], .int .i64 k] W fun e w' => e = .returned (.bool (rmB mk mn k)) ∧ Below W.heap.size W w' := fun W => rightMaskR_any W mk mn k
  clear hxr hxi hxw
  generalize maskX (rightOf v) mk mn = x at *
  generalize rmB mk mn k = r at *
  obtain ⟨ak, an, sa, af⟩ := v
  obtain ⟨xk, xn, sx, xf⟩ := x
  simp only [Val.v] at Hx Gr Gq Gm
  clear hv
  have Hr : Hid (∀ (A C : Nat) (W : World), VMX w W A C ⟨ak, an, sa, af⟩ mk mn ⟨xk, xn, sx, xf⟩ → Calls Tryz.prog 31 #[.agg #[.int .i64 ak, .int .i64 an, .string sa, .int .u64 af], .agg #[.int .i64 mk, .int .i64 mn]] W fun e w' => e = .returned (.agg #[.int .i64 xk, .int .i64 xn, .string sx, .int .u64 xf]) ∧ VMX w w' A C ⟨ak, an, sa, af⟩ mk mn ⟨xk, xn, sx, xf⟩) := Lib.hid fun A C W h => (Gr W).mono fun e w' q => ⟨q.1, h.below q.2⟩
  have Hq : Hid (∀ (A C : Nat) (W : World), VMX w W A C ⟨ak, an, sa, af⟩ mk mn ⟨xk, xn, sx, xf⟩ → Calls Tryz.prog 19 #[.agg #[.int .i64 xk, .int .i64 xn, .string sx, .int .u64 xf]] W fun e w' => e = .returned (.bool true) ∧ VMX w w' A C ⟨ak, an, sa, af⟩ mk mn ⟨xk, xn, sx, xf⟩) := Lib.hid fun A C W h => (Gq W).mono fun e w' q => ⟨q.1, h.below q.2⟩
  have Hm : Hid (∀ (A C : Nat) (W : World), VMX w W A C ⟨ak, an, sa, af⟩ mk mn ⟨xk, xn, sx, xf⟩ → Calls Tryz.prog 30 #[.agg #[.int .i64 xk, .int .i64 xn, .string sx, .int .u64 xf], .agg #[.int .i64 mk, .int .i64 mn]] W fun e w' => e = .returned (.agg #[.int .i64 xk, .int .i64 xn, .string sx, .int .u64 xf]) ∧ VMX w w' A C ⟨ak, an, sa, af⟩ mk mn ⟨xk, xn, sx, xf⟩) := Lib.hid fun A C W h => (Gm W).mono fun e w' q => ⟨q.1, h.below q.2⟩
  have Ha : Hid (∀ (A C : Nat) (W : World), VMX w W A C ⟨ak, an, sa, af⟩ mk mn ⟨xk, xn, sx, xf⟩ → Calls Tryz.prog 32 #[.agg #[.int .i64 mk, .int .i64 mn], .int .i64 k] W fun e w' => e = .returned (.bool r) ∧ VMX w w' A C ⟨ak, an, sa, af⟩ mk mn ⟨xk, xn, sx, xf⟩) := Lib.hid fun A C W h => (Ga W).mono fun e w' q => ⟨q.1, h.below q.2⟩
  have Hb : Hid (∀ (A C : Nat) (W : World), VMX w W A C ⟨ak, an, sa, af⟩ mk mn ⟨xk, xn, sx, xf⟩ → Calls Tryz.prog 33 #[.agg #[.int .i64 mk, .int .i64 mn], .int .i64 k] W fun e w' => e = .returned (.bool r) ∧ VMX w w' A C ⟨ak, an, sa, af⟩ mk mn ⟨xk, xn, sx, xf⟩) := Lib.hid fun A C W h => (Gb W).mono fun e w' q => ⟨q.1, h.below q.2⟩
  clear Gr Gq Gm Ga Gb
  have KS : Hid (∀ (A C : Nat) (W : World), VMX w W A C ⟨ak, an, sa, af⟩ mk mn ⟨xk, xn, sx, xf⟩ → VMX w W A C ⟨ak, an, sa, af⟩ mk mn ⟨xk, xn, sx, xf⟩ ∧ W.cell? ⟨A, 0, none⟩ = some (.int .i64 ak) ∧ W.cell? ⟨A, 1, none⟩ = some (.int .i64 an) ∧ W.cell? ⟨A, 2, none⟩ = some (.string sa) ∧ W.cell? ⟨A, 3, none⟩ = some (.int .u64 af) ∧ W.cell? ⟨A + 1, 0, none⟩ = some (.int .i64 mk) ∧ W.cell? ⟨A + 1, 1, none⟩ = some (.int .i64 mn) ∧ W.cell? ⟨C, 0, none⟩ = some (.int .i64 xk) ∧ W.cell? ⟨C, 1, none⟩ = some (.int .i64 xn) ∧ W.cell? ⟨C, 2, none⟩ = some (.string sx) ∧ W.cell? ⟨C, 3, none⟩ = some (.int .u64 xf)) := Lib.hid fun A C W h => ⟨h, h.vm.one.c0, h.vm.one.c1, h.vm.one.c2, h.vm.one.c3, h.vm.two.c0, h.vm.two.c1, h.x.c0, h.x.c1, h.x.c2, h.x.c3⟩
  go_enter Tryz.func9, Tryz.ntmps9
  go_wp2_with fail
  generalize World.alloc (World.alloc w _) _ = W0 at Hd ⊢
  generalize hA : w.heap.size = A at *
  refine (firstV_any W0 (Hl.out.below (by rw [hA]; exact Hd.out.bel))).mono ?_
  rintro e w1 ⟨rfl, hb⟩
  have D1 := Lib.hid (Hd.out.below hb)
  clear hb Hl Hd
  obtain ⟨a0, a1, a2, a3, -, -⟩ := D1.out.one
  obtain ⟨m0, m1, -⟩ := D1.out.two
  simp only at a0 a1 a2 a3
  by_cases hs : 1000 < (sa.size : Int)
  · go_wp2_with fail
    go_ret
    exact ⟨rfl, by rw [hA]; exact D1.out.bel⟩
  · go_wp2_with fail
    refine (Hx.out w1).mono ?_
    rintro e w2 ⟨rfl, hb⟩
    have D2 := D1.out.below hb
    have D3 := D2.below (below_box1 w2 (.cells #[.int .i64 xk, .int .i64 xn, .string sx, .int .u64 xf] 25))
    have X3 := At.new w2 xk xn sx xf 25
    have D4 : Hid (VMX w _ A w2.heap.size ⟨ak, an, sa, af⟩ mk mn ⟨xk, xn, sx, xf⟩) := Lib.hid ⟨D3, X3⟩
    clear hb D1 D2 D3 X3 a0 a1 a2 a3 m0 m1 Hx
    go_upto_region 6 with fail
    generalize World.alloc w2 _ = W3 at D4 ⊢
    generalize w2.heap.size = C at *
    have hks := KS.out A C W3 D4.out
    go_region_held3 (fun W => VMX w W A C ⟨ak, an, sa, af⟩ mk mn ⟨xk, xn, sx, xf⟩ ∧ W.cell? ⟨A, 0, none⟩ = some (.int .i64 ak) ∧ W.cell? ⟨A, 1, none⟩ = some (.int .i64 an) ∧ W.cell? ⟨A, 2, none⟩ = some (.string sa) ∧ W.cell? ⟨A, 3, none⟩ = some (.int .u64 af) ∧ W.cell? ⟨A + 1, 0, none⟩ = some (.int .i64 mk) ∧ W.cell? ⟨A + 1, 1, none⟩ = some (.int .i64 mn) ∧ W.cell? ⟨C, 0, none⟩ = some (.int .i64 xk) ∧ W.cell? ⟨C, 1, none⟩ = some (.int .i64 xn) ∧ W.cell? ⟨C, 2, none⟩ = some (.string sx) ∧ W.cell? ⟨C, 3, none⟩ = some (.int .u64 xf))
      (first | exact KS.out A C _ (by assumption) | exact KS.out A C _ (D4.out.below (Below.refl _ _).drew))
      (first
        | (go_at_call 31; refine (Hr.out A C _ (‹VMX w _ _ _ _ _ _ _ ∧ _›.1)).mono ?_; rintro e w' ⟨rfl, hd⟩)
        | (go_at_call 19; refine (Hq.out A C _ (‹VMX w _ _ _ _ _ _ _ ∧ _›.1)).mono ?_; rintro e w' ⟨rfl, hd⟩)
        | (go_at_call 30; refine (Hm.out A C _ (‹VMX w _ _ _ _ _ _ _ ∧ _›.1)).mono ?_; rintro e w' ⟨rfl, hd⟩)
        | (go_at_call 32; refine (Ha.out A C _ (‹VMX w _ _ _ _ _ _ _ ∧ _›.1)).mono ?_; rintro e w' ⟨rfl, hd⟩)
        | (go_at_call 33; refine (Hb.out A C _ (‹VMX w _ _ _ _ _ _ _ ∧ _›.1)).mono ?_; rintro e w' ⟨rfl, hd⟩))
    all_goals
      go_wp2_with fail
      go_ret
      exact ⟨by simp, by rw [hA]; exact (‹VMX w _ A _ _ _ _ _ ∧ _›.1).vm.bel⟩
end Go.Proofs.YtjkkmepagdhaeaaGreatDoor
