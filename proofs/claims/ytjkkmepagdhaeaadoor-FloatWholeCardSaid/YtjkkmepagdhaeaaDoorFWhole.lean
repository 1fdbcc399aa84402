/- The walk of FloatWhole. -/
import Derived.Test.YtjkkmepagdhaeaaDoorFa6
set_option linter.unusedVariables false
set_option linter.unusedSimpArgs false
namespace Go.Proofs.YtjkkmepagdhaeaaDoor
open Go.RowKit

theorem last_dot (l : List UInt8) (S : ByteArray) (h : S = ⟨(l ++ [46]).toArray⟩) (W : World) : (Instr.index 9 (.string S) (.int .i64 (l.length : Int))).run Tryd.prog W = .ok (.int .u8 46) W := by
  rw [run_index_string W 9 S .i64 (l.length : Int) Tryd.underlying9]
  have hs : S.size = l.length + 1 := by rw [h]; simp [ByteArray.size]
  rw [dif_pos ⟨by omega, by omega⟩]
  congr 2
  subst h
  show (((l ++ [46]).toArray[(l.length : Int).toNat]'_ : UInt8).toNat : Int) = 46
  simp
set_option maxHeartbeats 8000000 in
set_option maxRecDepth 100000 in
theorem whole_walk (w : World) (hl : Laid w) (a b : Int) :
    Calls Tryd.prog 10 #[.int .i64 a, .int .i64 b] w fun e w' => e = .returned (.bool true) ∧ Below w.heap.size w w' := by
  have Hl := Lib.hid hl; clear hl
  go_enter Tryd.func10, Tryd.ntmps10
  go_wp2_with fail
  refine (first_any w Hl.out).mono ?_
  rintro e w1 ⟨rfl, hb⟩
  go_wp2_with fail
  refine (fromint_any w1 a).mono ?_
  rintro e w2 ⟨rfl, rfl⟩
  go_wp2_with fail
  refine (fromint_any w1 b).mono ?_
  rintro e w2 ⟨rfl, rfl⟩
  cases ha : inR a with
  | false =>
    clear ha
    go_wp2_with fail
    go_ret
    exact ⟨rfl, hb⟩
  | true =>
    cases hb' : inR b with
    | false =>
      clear ha hb'
      go_wp2_with fail
      go_ret
      exact ⟨rfl, hb⟩
    | true =>
      have ia := fromW_int (inR_abs ha)
      have ib := fromW_int (inR_abs hb')
      have va : fromV a = (fromW a : Int) := by unfold fromV; rw [if_pos ha]
      have vb : fromV b = (fromW b : Int) := by unfold fromV; rw [if_pos hb']
      obtain ⟨x0, x1⟩ := fromV_range a
      obtain ⟨y0, y1⟩ := fromV_range b
      have hc := compare_any w1 (fromV a) (fromV b)
      have ho : ordF (fromV a) (fromV b) = cmp3 a b := by
        by_cases e : cmp3 a b = 0
        · have hab : a = b := by unfold cmp3 at e; split at e <;> (try split at e) <;> omega
          subst hab
          rw [e]
          unfold ordF cmp3
          simp
        · have h1 := ordF_of_cmp x0 x1 y0 y1 (by rw [va, Int.toNat_natCast]; exact ia.nan) (by rw [vb, Int.toNat_natCast]; exact ib.nan) (by rw [va, vb, Int.toNat_natCast, Int.toNat_natCast, ia.cmpF ib]; exact e)
          rw [h1, va, vb, Int.toNat_natCast, Int.toNat_natCast, ia.cmpF ib]
      have hord := order_any w1 (fromV a) (fromV b) x0 x1 y0 y1
      rw [ho] at hord
      rw [va, vb, Int.toNat_natCast, Int.toNat_natCast, ia.cmpF ib, ia.nan, ib.nan, ← va, ← vb] at hc
      have hpr : ∀ W, Laid W → Calls Tryd.prog 20 #[.int .u64 (fromV a)] W fun e w' => e = .returned (.string ⟨(Lib.itoa a ++ [46]).toArray⟩) ∧ Below W.heap.size W w' := fun W hW => by
        have := print_any W hW (fromV a) x0 x1
        rwa [va, Int.toNat_natCast, ia.print, ← va] at this
      have heq : (fromV a == fromV b) = (a == b) := by
        rw [Bool.eq_iff_iff, beq_iff_eq, beq_iff_eq]
        constructor
        · intro h
          have h2 : fromW a = fromW b := by omega
          have := (ia.cmp ib).2
          rw [h2] at this
          exact this.1 rfl
        · intro h; rw [h]
      have hlen : (Lib.itoa a).length ≤ 9007199254740994 := by have := itoa_length a; have := inR_abs ha; omega
      have Hc := Lib.hid hc; have Hpr := Lib.hid hpr
      have Hor : Hid (∀ W : World, Calls Tryd.prog 24 #[.int .u64 (fromV a), .int .u64 (fromV b)] W fun e w' => e = .returned (.int .i64 (cmp3 a b)) ∧ W = w') := fun W => by
        have := order_any W (fromV a) (fromV b) x0 x1 y0 y1
        rwa [ho] at this
      generalize hS : (ByteArray.mk (Lib.itoa a ++ [46]).toArray) = S at Hpr
      have hidx := last_dot (Lib.itoa a) S hS.symm
      have hsz : (S.size : Int) = ((Lib.itoa a).length : Int) + 1 := by rw [← hS]; simp [ByteArray.size]
      generalize (Lib.itoa a).length = k at hidx hsz hlen
      have hk0 : (0 : Int) ≤ (k : Int) := by omega
      have hk1 : (k : Int) ≤ 9007199254740994 := by omega
      generalize (k : Int) = k' at hidx hsz hk0 hk1
      clear hc ho hord hpr hS hlen x0 x1 y0 y1 va vb ia ib ha hb'
      generalize fromV a = X at *
      generalize fromV b = Y at *
      rcases Int.lt_trichotomy a b with h | h | h
      · have h3 : cmp3 a b = -1 := by unfold cmp3; rw [if_pos h]
        have h4 : (a == b) = false := by rw [beq_eq_false_iff_ne]; omega
        rw [h4] at heq
        rw [h3] at Hc Hor
        clear h3
        go_wp2_with fail
        refine Hc.out.mono ?_
        rintro e w2 ⟨rfl, rfl⟩
        go_wp2_with fail
        refine (Hpr.out w1 (Hl.out.below hb)).mono ?_
        rintro e w2 ⟨rfl, hb2⟩
        have hbb := hb.trans (hb2.mono hb.size)
        clear hb2
        go_wp2_with fail
        refine (Hor.out w2).mono ?_
        rintro e w3 ⟨rfl, rfl⟩
        go_wp2_with fail
        go_ret
        exact ⟨rfl, hbb⟩
      · subst h
        have h3 : cmp3 a a = 0 := by unfold cmp3; simp
        have h4 : (X == Y) = true := by rw [heq]; simp
        have h5 : X = Y := by simpa using h4
        subst h5
        rw [h3] at Hc Hor
        clear h3 heq h4
        go_wp2_with fail
        refine Hc.out.mono ?_
        rintro e w2 ⟨rfl, rfl⟩
        go_wp2_with fail
        refine (Hpr.out w1 (Hl.out.below hb)).mono ?_
        rintro e w2 ⟨rfl, hb2⟩
        have hbb := hb.trans (hb2.mono hb.size)
        clear hb2
        go_wp2_with fail
        refine (Hor.out w2).mono ?_
        rintro e w3 ⟨rfl, rfl⟩
        go_wp2_with fail
        go_ret
        exact ⟨rfl, hbb⟩
      · have h3 : cmp3 a b = 1 := by unfold cmp3; rw [if_neg (by omega), if_pos h]
        have h4 : (a == b) = false := by rw [beq_eq_false_iff_ne]; omega
        have h6 : ¬ a < b := by omega
        rw [h4] at heq
        rw [h3] at Hc Hor
        clear h3
        go_wp2_with fail
        refine Hc.out.mono ?_
        rintro e w2 ⟨rfl, rfl⟩
        go_wp2_with fail
        refine (Hpr.out w1 (Hl.out.below hb)).mono ?_
        rintro e w2 ⟨rfl, hb2⟩
        have hbb := hb.trans (hb2.mono hb.size)
        clear hb2
        go_wp2_with fail
        refine (Hor.out w2).mono ?_
        rintro e w3 ⟨rfl, rfl⟩
        go_wp2_with fail
        go_ret
        exact ⟨rfl, hbb⟩
end Go.Proofs.YtjkkmepagdhaeaaDoor
