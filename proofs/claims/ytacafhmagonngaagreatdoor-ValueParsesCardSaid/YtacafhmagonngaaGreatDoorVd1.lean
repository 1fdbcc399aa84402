/- Masked values: the walk of value.Mask. -/
import Derived.Test.YtacafhmagonngaaGreatDoorVd0
set_option linter.unusedVariables false
set_option linter.unusedSimpArgs false
namespace Go.Proofs.YtacafhmagonngaaGreatDoor
open Go.RowKit

/-- a value that is right, masked -/
def maskX (x : Val) (mk mn : Int) : Val :=
  if mk = 0 then x else if mk = 2 then ⟨x.k, 0, ⟨#[]⟩, 0⟩ else if mk = 3 ∧ x.k = 3 then ⟨x.k, x.n, x.s.extract 0 (min (x.s.size : Int) (max mn 0)).toNat, x.f⟩ else zeroVal
/-- a mask lies in a block of its own -/
structure MAt (w : World) (b : Nat) (mk mn : Int) : Prop where
  c0 : w.cell? ⟨b, 0, none⟩ = some (.int .i64 mk)
  c1 : w.cell? ⟨b, 1, none⟩ = some (.int .i64 mn)
  lt : b < w.heap.size
theorem MAt.below {w w' : World} {b B : Nat} {mk mn : Int} (h : MAt w b mk mn) (hb : Below B w w') (hB : b < B) : MAt w' b mk mn :=
  ⟨(hb.cell hB).trans h.c0, (hb.cell hB).trans h.c1, Nat.lt_of_lt_of_le h.lt hb.size⟩
theorem MAt.other {W : World} {b c : Nat} {mk mn : Int} (h : MAt W c mk mn) (hbc : b ≠ c) (x : Val) : MAt (storeV W b x) c mk mn := by
  obtain ⟨h0, h1, hl⟩ := h
  have ne : ∀ i j : Nat, (⟨b, i, none⟩ : Addr) ≠ ⟨c, j, none⟩ := fun i j h => by injection h with h _; exact hbc h
  refine ⟨?_, ?_, ?_⟩
  · exact cell_off (cell_off (cell_off (cell_off h0 (ne _ _)) (ne _ _)) (ne _ _)) (ne _ _)
  · exact cell_off (cell_off (cell_off (cell_off h1 (ne _ _)) (ne _ _)) (ne _ _)) (ne _ _)
  · simpa [storeV, World.setCell] using hl
structure Tri (w W : World) (A : Nat) (a : Val) (mk mn : Int) : Prop where
  one : At W A a.k a.n a.s a.f
  two : MAt W (A + 1) mk mn
  thr : At W (A + 1 + 1) 0 0 ⟨#[]⟩ 0
  bel : Below A w W
theorem Tri.below {w W W' : World} {A : Nat} {a : Val} {mk mn : Int} (h : Tri w W A a mk mn) (hb : Below W.heap.size W W') : Tri w W' A a mk mn :=
  ⟨h.one.below hb h.one.lt, h.two.below hb h.two.lt, h.thr.below hb h.thr.lt, h.bel.trans (hb.mono (Nat.le_of_lt h.one.lt))⟩
theorem Tri.store {w W : World} {A : Nat} {a : Val} {mk mn : Int} (h : Tri w W A a mk mn) (x : Val) : Tri w (storeV W A x) A x mk mn :=
  ⟨h.one.store x, h.two.other (by omega) x, h.thr.other (by omega) x, below_store h.bel (Nat.le_refl _) x⟩
theorem Tri.new (w : World) (k n : Int) (s : ByteArray) (f mk mn : Int) : Tri w (((w.alloc (.cells #[.int .i64 k, .int .i64 n, .string s, .int .u64 f] 26)).alloc (.cells #[.int .i64 mk, .int .i64 mn] 35)).alloc (.cells #[.int .i64 0, .int .i64 0, .string ⟨#[]⟩, .int .u64 0] 26)) w.heap.size ⟨k, n, s, f⟩ mk mn where
  one := ((At.new w k n s f _).alloc _).alloc _
  two := by
    have h : MAt ((w.alloc (.cells #[.int .i64 k, .int .i64 n, .string s, .int .u64 f] 26)).alloc (.cells #[.int .i64 mk, .int .i64 mn] 35)) (w.heap.size + 1) mk mn := by
      have hs : (w.alloc (.cells #[.int .i64 k, .int .i64 n, .string s, .int .u64 f] 26)).heap.size = w.heap.size + 1 := by simp
      rw [← hs]
      exact ⟨by simp, by simp, by simp⟩
    exact h.below ((Below.refl _ _).alloc (Nat.le_refl _) _) h.lt
  thr := by
    have := At.new ((w.alloc (.cells #[.int .i64 k, .int .i64 n, .string s, .int .u64 f] 26)).alloc (.cells #[.int .i64 mk, .int .i64 mn] 35)) 0 0 ⟨#[]⟩ 0 26
    rwa [show ((w.alloc (.cells #[.int .i64 k, .int .i64 n, .string s, .int .u64 f] 26)).alloc (.cells #[.int .i64 mk, .int .i64 mn] 35)).heap.size = w.heap.size + 1 + 1 from by simp] at this
  bel := (((Below.refl _ _).alloc (Nat.le_refl _) _).alloc (by simp) _).alloc (by simp; omega) _
set_option maxHeartbeats 8000000 in
set_option maxRecDepth 100000 in
theorem mask_any (w : World) (x : Val) (mk mn : Int) :
    Calls Tryz.prog 13 #[x.v, .agg #[.int .i64 mk, .int .i64 mn]] w fun e w' => e = .returned (maskX (rightOf x) mk mn).v ∧ Below w.heap.size w w' := by
  have Hr : Hid (∀ W : World, Calls Tryz.prog 30 #[x.v] W fun e w' => e = .returned (rightOf x).v ∧ Below W.heap.size W w') := Lib.hid fun W => rightof_any W x
  generalize rightOf x = y at *
  obtain ⟨xk, xn, sx, xf⟩ := x
  obtain ⟨k, n, s, f⟩ := y
  have hm : maskX ⟨k, n, s, f⟩ mk mn = if mk = 0 then ⟨k, n, s, f⟩ else if mk = 2 then ⟨k, 0, ⟨#[]⟩, 0⟩ else if mk = 3 ∧ k = 3 then ⟨k, n, s.extract 0 (min (s.size : Int) (max mn 0)).toNat, f⟩ else zeroVal := rfl
  have Ht := Lib.hid (Tri.new w xk xn sx xf mk mn)
  generalize maskX ⟨k, n, s, f⟩ mk mn = R at *
  have HR := Lib.hid hm
  clear hm
  simp only [Val.v] at Hr
  have hr := HR.out
  by_cases h0 : mk = 0
  · subst h0
    rw [if_pos rfl] at hr
    have HR2 := Lib.hid hr
    clear hr HR
    go_enter Tryz.func13, Tryz.ntmps13
    go_wp2_with fail
    generalize World.alloc _ _ = W0 at Ht ⊢
    generalize hA : w.heap.size = A at *
    refine (Hr.out W0).mono ?_
    rintro e w1 ⟨rfl, hb⟩
    have t1 := Ht.out.below hb
    have t2 := t1.store ⟨k, n, s, f⟩
    unfold storeV at t2
    have z0 := t1.one.z 0; have z1 := t1.one.z 1; have z2 := t1.one.z 2; have z3 := t1.one.z 3
    obtain ⟨e0, e1, e2, e3, -, -⟩ := t1.one
    have T2 := Lib.hid t2
    clear t1 t2 hb
    go_upto_region 2 with fail
    generalize World.setCell (World.setCell (World.setCell (World.setCell _ _ _) _ _) _ _) _ _ = W2 at T2 ⊢
    clear z0 z1 z2 z3 e0 e1 e2 e3 Ht Hr
    obtain ⟨e0, e1, e2, e3, -, -⟩ := T2.out.one
    obtain ⟨m0, m1, -⟩ := T2.out.two
    have t3 := T2.out.thr
    have z0 := t3.z 0; have z1 := t3.z 1; have z2 := t3.z 2; have z3 := t3.z 3
    obtain ⟨d0, d1, d2, d3, -, -⟩ := t3
    go_wp2_with fail
    exact bodyPost_ret (v := .agg #[.int .i64 k, .int .i64 n, .string s, .int .u64 f]) (by simp [results, Tryz.results13, go_sem, d0, d1, d2, d3]) rfl ⟨by rw [HR2.out], ((((T2.out.bel).setCell (by simp; omega) _).setCell (by simp; omega) _).setCell (by simp; omega) _).setCell (by simp; omega) _⟩
  have b0 : (mk == 0) = false := by rw [beq_eq_false_iff_ne]; exact h0
  rw [if_neg h0] at hr
  by_cases h2 : mk = 2
  · subst h2
    rw [if_pos rfl] at hr
    have HR2 := Lib.hid hr
    clear hr HR
    go_enter Tryz.func13, Tryz.ntmps13
    go_wp2_with fail
    generalize World.alloc _ _ = W0 at Ht ⊢
    generalize hA : w.heap.size = A at *
    refine (Hr.out W0).mono ?_
    rintro e w1 ⟨rfl, hb⟩
    have t1 := Ht.out.below hb
    have t2 := t1.store ⟨k, n, s, f⟩
    unfold storeV at t2
    have z0 := t1.one.z 0; have z1 := t1.one.z 1; have z2 := t1.one.z 2; have z3 := t1.one.z 3
    obtain ⟨e0, e1, e2, e3, -, -⟩ := t1.one
    have T2 := Lib.hid t2
    clear t1 t2 hb
    go_upto_region 2 with fail
    generalize World.setCell (World.setCell (World.setCell (World.setCell _ _ _) _ _) _ _) _ _ = W2 at T2 ⊢
    clear z0 z1 z2 z3 e0 e1 e2 e3 Ht Hr
    obtain ⟨e0, e1, e2, e3, -, -⟩ := T2.out.one
    obtain ⟨m0, m1, -⟩ := T2.out.two
    have t3 := T2.out.thr
    have z0 := t3.z 0; have z1 := t3.z 1; have z2 := t3.z 2; have z3 := t3.z 3
    obtain ⟨d0, d1, d2, d3, -, -⟩ := t3
    go_wp2_with fail
    exact bodyPost_ret (v := .agg #[.int .i64 k, .int .i64 0, .string ⟨#[]⟩, .int .u64 0]) (by simp [results, Tryz.results13, go_sem, d0, d1, d2, d3]) rfl ⟨by rw [HR2.out], ((((T2.out.bel).setCell (by simp; omega) _).setCell (by simp; omega) _).setCell (by simp; omega) _).setCell (by simp; omega) _⟩
  have b2 : (mk == 2) = false := by rw [beq_eq_false_iff_ne]; exact h2
  rw [if_neg h2] at hr
  by_cases h3 : mk = 3
  · subst h3
    by_cases hk : k = 3
    · subst hk
      rw [if_pos ⟨rfl, rfl⟩] at hr
      have HR2 := Lib.hid hr
      clear hr HR
      go_enter Tryz.func13, Tryz.ntmps13
      go_wp2_with fail
      generalize World.alloc _ _ = W0 at Ht ⊢
      generalize hA : w.heap.size = A at *
      refine (Hr.out W0).mono ?_
      rintro e w1 ⟨rfl, hb⟩
      have t1 := Ht.out.below hb
      have t2 := t1.store ⟨3, n, s, f⟩
      unfold storeV at t2
      have z0 := t1.one.z 0; have z1 := t1.one.z 1; have z2 := t1.one.z 2; have z3 := t1.one.z 3
      obtain ⟨e0, e1, e2, e3, -, -⟩ := t1.one
      have T2 := Lib.hid t2
      clear t1 t2 hb
      go_upto_region 2 with fail
      generalize World.setCell (World.setCell (World.setCell (World.setCell _ _ _) _ _) _ _) _ _ = W2 at T2 ⊢
      clear z0 z1 z2 z3 e0 e1 e2 e3 Ht Hr
      obtain ⟨e0, e1, e2, e3, -, -⟩ := T2.out.one
      obtain ⟨m0, m1, -⟩ := T2.out.two
      have t3 := T2.out.thr
      have z0 := t3.z 0; have z1 := t3.z 1; have z2 := t3.z 2; have z3 := t3.z 3
      obtain ⟨d0, d1, d2, d3, -, -⟩ := t3
      have y2 := T2.out.one.z 2
      go_wp2_with fail
      exact bodyPost_ret (v := .agg #[.int .i64 3, .int .i64 n, .string (s.extract 0 (min (s.size : Int) (max mn 0)).toNat), .int .u64 f]) (by simp [results, Tryz.results13, go_sem, d0, d1, d2, d3]) rfl ⟨by rw [HR2.out], ((((T2.out.bel.setCell (Nat.le_refl _) _).setCell (by simp; omega) _).setCell (by simp; omega) _).setCell (by simp; omega) _).setCell (by simp; omega) _⟩
    · rw [if_neg (fun h => hk h.2)] at hr
      have bk : (k == 3) = false := by rw [beq_eq_false_iff_ne]; exact hk
      have HR2 := Lib.hid hr
      clear hr HR
      go_enter Tryz.func13, Tryz.ntmps13
      go_wp2_with fail
      generalize World.alloc _ _ = W0 at Ht ⊢
      generalize hA : w.heap.size = A at *
      refine (Hr.out W0).mono ?_
      rintro e w1 ⟨rfl, hb⟩
      have t1 := Ht.out.below hb
      have t2 := t1.store ⟨k, n, s, f⟩
      unfold storeV at t2
      have z0 := t1.one.z 0; have z1 := t1.one.z 1; have z2 := t1.one.z 2; have z3 := t1.one.z 3
      obtain ⟨e0, e1, e2, e3, -, -⟩ := t1.one
      have T2 := Lib.hid t2
      clear t1 t2 hb
      go_upto_region 2 with fail
      generalize World.setCell (World.setCell (World.setCell (World.setCell _ _ _) _ _) _ _) _ _ = W2 at T2 ⊢
      clear z0 z1 z2 z3 e0 e1 e2 e3 Ht Hr
      obtain ⟨e0, e1, e2, e3, -, -⟩ := T2.out.one
      obtain ⟨m0, m1, -⟩ := T2.out.two
      have t3 := T2.out.thr
      have z0 := t3.z 0; have z1 := t3.z 1; have z2 := t3.z 2; have z3 := t3.z 3
      obtain ⟨d0, d1, d2, d3, -, -⟩ := t3
      go_wp2_with fail
      exact bodyPost_ret (v := .agg #[.int .i64 0, .int .i64 0, .string ⟨#[]⟩, .int .u64 0]) (by simp [results, Tryz.results13, go_sem, d0, d1, d2, d3]) rfl ⟨by rw [HR2.out]; rfl, ((((T2.out.bel).setCell (by simp; omega) _).setCell (by simp; omega) _).setCell (by simp; omega) _).setCell (by simp; omega) _⟩
  · rw [if_neg (fun h => h3 h.1)] at hr
    have b3 : (mk == 3) = false := by rw [beq_eq_false_iff_ne]; exact h3
    have HR2 := Lib.hid hr
    clear hr HR
    go_enter Tryz.func13, Tryz.ntmps13
    go_wp2_with fail
    generalize World.alloc _ _ = W0 at Ht ⊢
    generalize hA : w.heap.size = A at *
    refine (Hr.out W0).mono ?_
    rintro e w1 ⟨rfl, hb⟩
    have t1 := Ht.out.below hb
    have t2 := t1.store ⟨k, n, s, f⟩
    unfold storeV at t2
    have z0 := t1.one.z 0; have z1 := t1.one.z 1; have z2 := t1.one.z 2; have z3 := t1.one.z 3
    obtain ⟨e0, e1, e2, e3, -, -⟩ := t1.one
    have T2 := Lib.hid t2
    clear t1 t2 hb
    go_upto_region 2 with fail
    generalize World.setCell (World.setCell (World.setCell (World.setCell _ _ _) _ _) _ _) _ _ = W2 at T2 ⊢
    clear z0 z1 z2 z3 e0 e1 e2 e3 Ht Hr
    obtain ⟨e0, e1, e2, e3, -, -⟩ := T2.out.one
    obtain ⟨m0, m1, -⟩ := T2.out.two
    have t3 := T2.out.thr
    have z0 := t3.z 0; have z1 := t3.z 1; have z2 := t3.z 2; have z3 := t3.z 3
    obtain ⟨d0, d1, d2, d3, -, -⟩ := t3
    go_wp2_with fail
    exact bodyPost_ret (v := .agg #[.int .i64 0, .int .i64 0, .string ⟨#[]⟩, .int .u64 0]) (by simp [results, Tryz.results13, go_sem, d0, d1, d2, d3]) rfl ⟨by rw [HR2.out]; rfl, ((((T2.out.bel).setCell (by simp; omega) _).setCell (by simp; omega) _).setCell (by simp; omega) _).setCell (by simp; omega) _⟩
end Go.Proofs.YtacafhmagonngaaGreatDoor
