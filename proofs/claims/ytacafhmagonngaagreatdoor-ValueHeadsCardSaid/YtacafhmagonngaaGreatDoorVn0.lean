/- Beginnings of beginnings, by their form; the walk of the law's own closure. -/
import Derived.Test.YtacafhmagonngaaGreatDoorGF
import Derived.Test.YtacafhmagonngaaGreatDoorGD
set_option linter.unusedVariables false
set_option linter.unusedSimpArgs false
namespace Go.Proofs.YtacafhmagonngaaGreatDoor
open Go.RowKit

theorem mask_head_eq {v : Val} (hk : v.k = 3) (c : Int) : maskX v 3 c = ⟨v.k, v.n, v.s.extract 0 (min (v.s.size : Int) (max c 0)).toNat, v.f⟩ := by
  unfold maskX
  rw [if_neg (by decide), if_neg (by decide), if_pos ⟨rfl, hk⟩]
theorem mask_head_ne {v : Val} (hk : v.k ≠ 3) (c : Int) : maskX v 3 c = zeroVal := by
  unfold maskX
  rw [if_neg (by decide), if_neg (by decide), if_neg (fun h => hk h.2)]
theorem head_head (v : Val) (a b : Int) (a0 : 0 ≤ a) (b0 : 0 ≤ b) : maskX (maskX v 3 a) 3 b = maskX v 3 (min a b) := by
  by_cases hk : v.k = 3
  · rw [mask_head_eq hk, mask_head_eq hk, mask_head_eq (by exact hk)]
    congr 1
    have hl : v.s.data.toList.length = v.s.size := (Lib.size_eq v.s).symm
    have hs : (v.s.extract 0 (min (v.s.size : Int) (max a 0)).toNat).size = (min (v.s.size : Int) (max a 0)).toNat := by
      rw [Lib.size_eq, extract_take, List.length_take, hl]; omega
    simp only [hs]
    rw [extract_take, extract_take, extract_take]
    congr 2
    simp only
    rw [List.take_take]
    congr 1
    omega
  · rw [mask_head_ne hk, mask_head_ne hk, mask_head_ne (by decide)]
theorem mask_hide (v : Val) : maskX v 1 0 = zeroVal := by
  unfold maskX
  rw [if_neg (by decide), if_neg (by decide), if_neg (fun h => absurd h.1 (by decide))]
theorem mask_nought (v : Val) : maskX v 2 0 = ⟨v.k, 0, ⟨#[]⟩, 0⟩ := by
  unfold maskX
  rw [if_neg (by decide), if_pos rfl]
theorem mask_keep (v : Val) : maskX v 0 0 = v := by
  unfold maskX
  rw [if_pos rfl]
set_option maxHeartbeats 8000000 in
set_option maxRecDepth 100000 in
theorem head_any (w : World) (v : Val) (c : Int) (hv : rightB v = true) :
    Calls Tryz.prog 12 #[v.v, .int .i64 c] w fun e w' => e = .returned (maskX v 3 c).v ∧ Below w.heap.size w w' := by
  have Hm : Hid (∀ W : World, Calls Tryz.prog 13 #[v.v, .agg #[.int .i64 3, .int .i64 c]] W fun e w' => e = .returned (maskX v 3 c).v ∧ Below W.heap.size W w') := Lib.hid fun W => by
    have := mask_any W v 3 c
    rwa [right_self hv] at this
  generalize maskX v 3 c = x at *
  obtain ⟨k, n, s, f⟩ := v
  obtain ⟨xk, xn, xs, xf⟩ := x
  simp only [Val.v] at *
  have Hd := Lib.hid (Duo.new w ⟨k, n, s, f⟩ ⟨0, 0, ⟨#[]⟩, 0⟩)
  go_enter Tryz.func12, Tryz.ntmps12
  go_wp2_with fail
  refine (Hm.out _).mono ?_
  rintro e w1 ⟨rfl, hb⟩
  have D1 := Lib.hid (Hd.out.below hb)
  clear hb
  obtain ⟨b0, b1, b2, b3, bz, -⟩ := D1.out.two
  have z0 := bz 0; have z1 := bz 1; have z2 := bz 2; have z3 := bz 3
  clear bz
  simp only at b0 b1 b2 b3
  go_wp2_with fail
  exact bodyPost_ret (v := .agg #[.int .i64 xk, .int .i64 xn, .string xs, .int .u64 xf]) (by simp [results, Tryz.results12, go_sem, b0, b1, b2, b3]) rfl ⟨rfl, (((D1.out.bel.setCell (Nat.le_succ _) _).setCell (Nat.le_succ _) _).setCell (Nat.le_succ _) _).setCell (Nat.le_succ _) _⟩
end Go.Proofs.YtacafhmagonngaaGreatDoor
