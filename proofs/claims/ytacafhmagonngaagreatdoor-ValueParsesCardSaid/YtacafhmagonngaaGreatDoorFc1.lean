/- A number's digits in base 16: the walk of formatBits. -/
import Derived.Test.YtacafhmagonngaaGreatDoorFc0
import Derived.Laws.IdiomStrings
set_option linter.unusedVariables false
set_option linter.unusedSimpArgs false
namespace Go.Proofs.YtacafhmagonngaaGreatDoor
open Go.RowKit

def dig (d : Nat) : UInt8 := UInt8.ofNat (if d < 10 then 48 + d else 87 + d)
/-- the k low digits -/
def hexN : Nat → Nat → List UInt8
  | 0, _ => []
  | k + 1, n => dig (n / 16 ^ k % 16) :: hexN k n
theorem hexN_length (k n : Nat) : (hexN k n).length = k := by induction k with | zero => rfl | succ k ih => simp [hexN, ih]
abbrev digits36 : ByteArray := ⟨#[48, 49, 50, 51, 52, 53, 54, 55, 56, 57, 97, 98, 99, 100, 101, 102, 103, 104, 105, 106, 107, 108, 109, 110, 111, 112, 113, 114, 115, 116, 117, 118, 119, 120, 121, 122]⟩
theorem digits_size : digits36.size = 36 := by decide
theorem digit_at (d : Nat) (h : d < 16) (h2 : d < digits36.size) : digits36[d] = dig d := by
  match d, h with
  | 0, _ => rfl
  | 1, _ => rfl
  | 2, _ => rfl
  | 3, _ => rfl
  | 4, _ => rfl
  | 5, _ => rfl
  | 6, _ => rfl
  | 7, _ => rfl
  | 8, _ => rfl
  | 9, _ => rfl
  | 10, _ => rfl
  | 11, _ => rfl
  | 12, _ => rfl
  | 13, _ => rfl
  | 14, _ => rfl
  | 15, _ => rfl
  | d + 16, h => omega

/-- the bytes that are written from behind -/
structure TailAt (w wr : World) (A j : Nat) (bs : List UInt8) : Prop where
  below : Below w.heap.size w wr
  n : bs.length = j
  cz : ∀ t, t < 65 - j → wr.cell? ⟨A, t, none⟩ = some (.int .u8 0)
  cd : ∀ t, ∀ h : t < bs.length, wr.cell? ⟨A, 65 - j + t, none⟩ = some (.int .u8 (bs[t].toNat : Int))
  z : ∀ o, wr.frozen? ⟨A, o, none⟩ = false
  lt : A < wr.heap.size
  ge : w.heap.size ≤ A
theorem cell_set {w : World} {a b : Addr} {v u : Value} (h : w.cell? b = some u) : (w.setCell a v).cell? b = some (if a = b then v else u) := by
  by_cases e : a = b
  · subst e
    rw [if_pos rfl]
    exact World.cell?_setCell_same _ _ _ h
  · rw [if_neg e, World.cell?_setCell_other _ _ _ _ e]
    exact h
theorem TailAt.drew {w wr : World} {A j : Nat} {bs : List UInt8} (h : TailAt w wr A j bs) : TailAt w wr.drew A j bs := ⟨h.below.drew, h.n, h.cz, h.cd, h.z, h.lt, h.ge⟩
theorem TailAt.step {w wr : World} {A j : Nat} {bs : List UInt8} (h : TailAt w wr A j bs) (hj : j < 65) (b : UInt8) : TailAt w (wr.setCell ⟨A, 64 - j, none⟩ (.int .u8 (b.toNat : Int))) A (j + 1) (b :: bs) where
  below := h.below.setCell h.ge _
  n := by simp [h.n]
  cz := fun t ht => by
    rw [World.cell?_setCell_other _ _ _ _ (fun e => by injection e with _ e2; omega)]
    exact h.cz t (by omega)
  cd := fun t ht => by
    cases t with
    | zero =>
      have h0 := h.cz (64 - j) (by omega)
      rw [show 65 - (j + 1) + 0 = 64 - j from by omega]
      rw [show (b :: bs)[0] = b from rfl]
      have := cell_set (v := Value.int .u8 (b.toNat : Int)) (a := ⟨A, 64 - j, none⟩) h0
      simpa using this
    | succ t =>
      have ht' : t < bs.length := by simpa using ht
      rw [World.cell?_setCell_other _ _ _ _ (fun e => by injection e with _ e2; omega)]
      have := h.cd t ht'
      rw [show 65 - (j + 1) + (t + 1) = 65 - j + t from by omega]
      simpa using this
  z := fun o => by rw [World.frozen?_setCell]; exact h.z o
  lt := by simpa [World.setCell] using h.lt
  ge := h.ge
theorem TailAt.text {w wr : World} {A j : Nat} {bs : List UInt8} (h : TailAt w wr A j bs) (W : World) (hW : ∀ p, W.cell? p = wr.cell? p) (hj : j ≤ 65) (cap : Nat) : (convert 39 9 (.slice (some ⟨A, 65 - j, none⟩) j cap)).run Tryz.prog W = .ok (.string ⟨bs.toArray⟩) W := by
  have := run_convert_bytes_back (P := Tryz.prog) W 39 9 5 ⟨A, 65 - j, none⟩ cap bs Tryz.underlying39 Tryz.underlying5 Tryz.underlying9 (fun t ht => by
    rw [hW]
    have := h.cd t ht
    rwa [show (⟨A, 65 - j, none⟩ : Addr).add t = ⟨A, 65 - j + t, none⟩ from by unfold Addr.add; split <;> simp_all])
  rwa [h.n] at this
theorem and15 (v : Nat) (h : v < 18446744073709551616) : bits BinOp.and .u64 (v : Int) 15 = ((v % 16 : Nat) : Int) := by
  have h1 := bits_and_u64_nat v 15 h (by decide)
  rw [show (15 : Nat) = 2 ^ 4 - 1 from by decide, Nat.and_two_pow_sub_one_eq_mod] at h1
  exact h1
theorem zero65 (t : Nat) (h : t < 65) : (Tryz.zeroCells151)[t]? = some (.int .u8 0) := by
  have e : Tryz.zeroCells151 = Array.replicate 65 (.int .u8 0) := by kernel_rfl
  rw [e, Array.getElem?_replicate, if_pos h]
theorem TailAt.start (w : World) : TailAt w (w.alloc (.cells Tryz.zeroCells151 151)) w.heap.size 0 [] where
  below := (Below.refl _ _).alloc (Nat.le_refl _) _
  n := rfl
  cz := fun t ht => by
    have := zero65 t (by omega)
    simpa using this
  cd := fun t ht => by simp at ht
  z := fun o => by simp
  lt := by simp
  ge := Nat.le_refl _
theorem cut65 (A q j : Nat) (h : q + j = 64) (W : World) : (Instr.sliceAt 151 (.pointer (some ⟨A, 0, none⟩)) (some (.int .i64 (q : Int))) none none).run Tryz.prog W = .ok (.slice (some ⟨A, q, none⟩) (j + 1) (j + 1)) W := by
  have ha : Program.arrayLen Tryz.prog 151 = 65 := by kernel_rfl
  have he : Program.elem Tryz.prog 151 = 5 := by kernel_rfl
  have hs := run_sliceAt_array_l (P := Tryz.prog) W 151 ⟨A, 0, none⟩ (by rw [ha, he]; exact Tryz.underlying151) .i64 (q : Int) (by omega) (by rw [ha]; omega)
  rw [hs, ha, he]
  have h1 : (sizeOf 5).run Tryz.prog W = .ok 1 W := Tryz.sizeOf5 W
  rw [h1]
  simp only [Result.andThen, slicedAt, Int.toNat_natCast]
  rw [if_neg (by omega), show 65 - q = j + 1 from by omega]
  by_cases e : q = 0
  · subst e; rfl
  · simp [Addr.add, e]
set_option maxHeartbeats 4000000 in
set_option maxRecDepth 100000 in
theorem bits16 (w : World) (hl : Laid w) (u : Nat) (hu : u < 18446744073709551616) :
    Calls Tryz.prog 116 #[.slice none 0 0, .int .u64 (u : Int), .int .i64 16, .bool false, .bool false] w fun e w' =>
      ∃ k, 1 ≤ k ∧ k ≤ 16 ∧ u < 16 ^ k ∧ e = .returned (.tuple #[.slice none 0 0, .string ⟨(hexN k u).toArray⟩]) ∧ Below w.heap.size w w' := by
  have Hl := Lib.hid hl; clear hl
  go_enter Tryz.func116, Tryz.ntmps116
  go_wp2_with fail
  refine (pow2_16 _).mono ?_
  rintro e w1 ⟨rfl, rfl⟩
  go_wp2_with fail
  have hb0 := (TailAt.start w).below
  refine (tz_16 _ (Hl.out.below hb0)).mono ?_
  rintro e w1 ⟨rfl, rfl⟩
  have Hs := Lib.hid (TailAt.start w)
  clear hb0
  go_wp2_with fail
  go_loopg [1, 13] u (fun m x i wr => ∃ (j v q : Nat), j ≤ 15 ∧ q + j = 64 ∧ m = v ∧ v = u / 16 ^ j ∧ x = .int .u64 (v : Int) ∧ i = .int .i64 ((q : Int) + 1) ∧ TailAt w wr w.heap.size j (hexN j u))
  case atStart => exact ⟨0, u, 64, by omega, by omega, rfl, by simp, rfl, rfl, Hs.out⟩
  case round =>
    obtain ⟨j, v, q, hj, hq, hm, hv, rfl, rfl, ht⟩ := hrel
    have Hm := Lib.hid hm; clear hm Hs
    have hvu : v ≤ u := by rw [hv]; exact Nat.div_le_self _ _
    have Hv := Lib.hid hv; clear hv
    obtain ⟨d, hd1, hd2⟩ : ∃ d : Nat, d < 16 ∧ d = v % 16 := ⟨v % 16, Nat.mod_lt _ (by decide), rfl⟩
    have h15 : bits BinOp.and .u64 (v : Int) 15 = (d : Int) := by rw [hd2]; exact and15 v (by omega)
    have hsz : d < digits36.size := by rw [digits_size]; omega
    have hc := ht.cz q (by omega)
    have hz := ht.z q
    have hlt := ht.lt
    have hdig : dig d = dig (u / 16 ^ j % 16) := by rw [hd2, Hv.out]
    have hs := ht.step (by omega) (digits36[d])
    have hlist : digits36[d] :: hexN j u = hexN (j + 1) u := by rw [digit_at d hd1, hdig]; rfl
    rw [show 64 - j = q from by omega, hlist] at hs
    have Hs := Lib.hid hs
    have Hd := Lib.hid hd2
    clear hs hd2 hdig hlist
    by_cases hge : 16 ≤ v
    · have hj2 : j + 1 ≤ 15 := by
        have h1 := Hv.out
        by_cases e : j = 15
        · subst e
          have : u / 16 ^ 15 < 16 := Nat.div_lt_of_lt_mul (by omega)
          omega
        · omega
      clear ht
      go_wp2_with fail
      go_roundg (v / 16)
      case measure => have := Hm.out; omega
      case rel => exact ⟨j + 1, v / 16, q - 1, hj2, by omega, rfl, by rw [Hv.out, Nat.div_div_eq_div_mul, ← Nat.pow_succ], by go_num, by go_num, Hs.out⟩
    · clear ht
      obtain rfl : d = v := by rw [Hd.out]; exact Nat.mod_eq_of_lt (by omega)
      have hsl := cut65 w.heap.size q j hq
      have hcv := Hs.out.text _ (fun p => rfl) (by omega) (j + 1)
      rw [show 65 - (j + 1) = q from by omega] at hcv
      go_wp2_with fail
      go_ret2
      refine ⟨j + 1, by omega, by omega, ?_, rfl, Hs.out.below⟩
      have h1 := Hv.out
      have h2 : u / 16 ^ j < 16 := by omega
      have hp : 0 < 16 ^ j := Nat.pow_pos (by decide)
      have h3 := (Nat.div_lt_iff_lt_mul hp).1 h2
      rw [Nat.pow_succ, Nat.mul_comm]
      exact h3
theorem formatuint_any (w : World) (hl : Laid w) (u : Nat) (hu : u < 18446744073709551616) :
    Calls Tryz.prog 70 #[.int .u64 (u : Int), .int .i64 16] w fun e w' =>
      ∃ k, 1 ≤ k ∧ k ≤ 16 ∧ u < 16 ^ k ∧ e = .returned (.string ⟨(hexN k u).toArray⟩) ∧ Below w.heap.size w w' := by
  have Hl := Lib.hid hl; clear hl
  have inner : Calls Tryz.prog 93 #[.int .u64 (u : Int), .int .i64 16] w fun e w' =>
      ∃ k, 1 ≤ k ∧ k ≤ 16 ∧ u < 16 ^ k ∧ e = .returned (.string ⟨(hexN k u).toArray⟩) ∧ Below w.heap.size w w' := by
    go_enter Tryz.func93, Tryz.ntmps93
    go_wp2_with fail
    refine (bits16 w Hl.out u hu).mono ?_
    rintro e w' ⟨k, h1, h2, h3, rfl, hb⟩
    have H3 := Lib.hid h3; clear h3
    go_wp2_with fail
    go_ret
    exact ⟨k, h1, h2, H3.out, rfl, hb⟩
  have Hi := Lib.hid inner; clear inner
  go_enter Tryz.func70, Tryz.ntmps70
  go_wp2_with fail
  refine Hi.out.mono ?_
  rintro e w' ⟨k, h1, h2, h3, rfl, hb⟩
  have H3 := Lib.hid h3; clear h3
  go_wp2_with fail
  go_ret
  exact ⟨k, h1, h2, H3.out, rfl, hb⟩
end Go.Proofs.YtacafhmagonngaaGreatDoor
