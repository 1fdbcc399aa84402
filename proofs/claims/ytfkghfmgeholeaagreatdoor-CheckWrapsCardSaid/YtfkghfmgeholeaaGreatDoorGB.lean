/- Joined texts: Fc0; Fc1; Fd0; Fe0; Fe1; Fe2; Fa6; Ff0; Fa3; Ff1. -/
import Derived.Test.YtfkghfmgeholeaaGreatDoorGA
import Derived.Test.YtfkghfmgeholeaaGreatDoorShelf
import Derived.Laws.IdiomStrings
import Derived.Laws.Concat
import Derived.Lib.ConvBytes
import Derived.Lib.AtoiErrMem
import Derived.Laws.Closers25b
import Derived.Laws.Closers25
set_option linter.unusedVariables false
set_option linter.unusedSimpArgs false
namespace Go.Proofs.YtfkghfmgeholeaaGreatDoor
open Go.RowKit

/-- the library's variables hold what its text lays -/
structure Laid (w : World) : Prop where
  tab : Lib.TabIs Tryz.prog w "internal/strconv.uint64pow10" .u64 Lib.pow10Tab
  tz : w.cell? ⟨8, 15, none⟩ = some (.int .u8 4)
  es : ∃ tp p, w.var? Tryz.prog "strconv.ErrSyntax" = some #[.iface tp p]
  er : ∃ tp p, w.var? Tryz.prog "strconv.ErrRange" = some #[.iface tp p]
theorem var_below {w w' : World} {name : String} {cs : Array Value} (h : w.var? Tryz.prog name = some cs) (hb : Below w.heap.size w w') : w'.var? Tryz.prog name = some cs := by
  unfold World.var? at *
  cases hg : Program.globalNamed Tryz.prog name with
  | none => simp [hg] at h
  | some g =>
    simp only [hg, Option.bind_some] at h ⊢
    have hlt : g < w.heap.size := by
      rcases Nat.lt_or_ge g w.heap.size with h' | h'
      · exact h'
      · rw [Array.getElem?_eq_none h'] at h; simp at h
    rw [hb.block g hlt]
    exact h
theorem Laid.below {w w' : World} (h : Laid w) (hb : Below w.heap.size w w') : Laid w' where
  tab := var_below h.tab hb
  tz := (hb.cell (p := ⟨8, 15, none⟩) (World.block_lt_of_cell? w _ h.tz)).trans h.tz
  es := by obtain ⟨tp, p, e⟩ := h.es; exact ⟨tp, p, var_below e hb⟩
  er := by obtain ⟨tp, p, e⟩ := h.er; exact ⟨tp, p, var_below e hb⟩

theorem tz64_16 (w : World) (h : Laid w) : Calls Tryz.prog 180 #[.int .u64 16] w fun e w' => e = .returned (.int .i64 4) ∧ w = w' := by
  have hc := h.tz
  clear h
  have h1 : bits BinOp.and IntKind.u64 16 (IntKind.u64.wrap (-16)) = 16 := by decide
  have h2 : IntKind.u64.wrap 4573923408821661840 = 4573923408821661840 := by decide
  go_enter Tryz.func180, Tryz.ntmps180
  go_wp2_with fail
  go_ret
  exact ⟨rfl, rfl⟩
theorem tz_16 (w : World) (h : Laid w) : Calls Tryz.prog 175 #[.int .u64 16] w fun e w' => e = .returned (.int .i64 4) ∧ w = w' := by
  go_enter Tryz.func175, Tryz.ntmps175
  go_wp2_with fail
  refine (tz64_16 w h).mono ?_
  rintro e w' ⟨rfl, rfl⟩
  go_wp2_with fail
  go_ret
  exact ⟨rfl, rfl⟩
theorem pow2_16 (w : World) : Calls Tryz.prog 174 #[.int .i64 16] w fun e w' => e = .returned (.bool true) ∧ w = w' := by
  have h1 : (bits BinOp.and IntKind.i64 16 15 == 0) = true := by decide
  go_enter Tryz.func174, Tryz.ntmps174
  go_wp2_with fail
  go_ret
  exact ⟨rfl, rfl⟩
end Go.Proofs.YtfkghfmgeholeaaGreatDoor
namespace Go.Proofs.YtfkghfmgeholeaaGreatDoor
open Go.RowKit

def dig (d : Nat) : UInt8 := UInt8.ofNat (if d < 10 then 48 + d else 87 + d)
/-- the k low digits -/
def hexN : Nat → Nat → List UInt8
  | 0, _ => []
  | k + 1, n => dig (n / 16 ^ k % 16) :: hexN k n
theorem hexN_length (k n : Nat) : (hexN k n).length = k := by induction k with | zero => rfl | succ k ih => simp [hexN, ih]
abbrev digits36 : ByteArray := ⟨#[48, 49, 50, 51, 52, 53, 54, 55, 56, 57, 97, 98, 99, 100, 101, 102, 103, 104, 105, 106, 107, 108, 109, 110, 111, 112, 113, 114, 115, 116, 117, 118, 119, 120, 121, 122]⟩
theorem digits_size : digits36.size = 36 := by decide
theorem digit_at (d : Nat) (h : d < 16) (h2 : d < digits36.size) : digits36[d] = dig d := by
  match d, h with
  | 0, _ => rfl
  | 1, _ => rfl
  | 2, _ => rfl
  | 3, _ => rfl
  | 4, _ => rfl
  | 5, _ => rfl
  | 6, _ => rfl
  | 7, _ => rfl
  | 8, _ => rfl
  | 9, _ => rfl
  | 10, _ => rfl
  | 11, _ => rfl
  | 12, _ => rfl
  | 13, _ => rfl
  | 14, _ => rfl
  | 15, _ => rfl
  | d + 16, h => omega

/-- the bytes that are written from behind -/
structure TailAt (w wr : World) (A j : Nat) (bs : List UInt8) : Prop where
  below : Below w.heap.size w wr
  n : bs.length = j
  cz : ∀ t, t < 65 - j → wr.cell? ⟨A, t, none⟩ = some (.int .u8 0)
  cd : ∀ t, ∀ h : t < bs.length, wr.cell? ⟨A, 65 - j + t, none⟩ = some (.int .u8 (bs[t].toNat : Int))
  z : ∀ o, wr.frozen? ⟨A, o, none⟩ = false
  lt : A < wr.heap.size
  ge : w.heap.size ≤ A
theorem cell_set {w : World} {a b : Addr} {v u : Value} (h : w.cell? b = some u) : (w.setCell a v).cell? b = some (if a = b then v else u) := by
  by_cases e : a = b
  · subst e
    rw [if_pos rfl]
    exact World.cell?_setCell_same _ _ _ h
  · rw [if_neg e, World.cell?_setCell_other _ _ _ _ e]
    exact h
theorem TailAt.drew {w wr : World} {A j : Nat} {bs : List UInt8} (h : TailAt w wr A j bs) : TailAt w wr.drew A j bs := ⟨h.below.drew, h.n, h.cz, h.cd, h.z, h.lt, h.ge⟩
theorem TailAt.step {w wr : World} {A j : Nat} {bs : List UInt8} (h : TailAt w wr A j bs) (hj : j < 65) (b : UInt8) : TailAt w (wr.setCell ⟨A, 64 - j, none⟩ (.int .u8 (b.toNat : Int))) A (j + 1) (b :: bs) where
  below := h.below.setCell h.ge _
  n := by simp [h.n]
  cz := fun t ht => by
    rw [World.cell?_setCell_other _ _ _ _ (fun e => by injection e with _ e2; omega)]
    exact h.cz t (by omega)
  cd := fun t ht => by
    cases t with
    | zero =>
      have h0 := h.cz (64 - j) (by omega)
      rw [show 65 - (j + 1) + 0 = 64 - j from by omega]
      rw [show (b :: bs)[0] = b from rfl]
      have := cell_set (v := Value.int .u8 (b.toNat : Int)) (a := ⟨A, 64 - j, none⟩) h0
      simpa using this
    | succ t =>
      have ht' : t < bs.length := by simpa using ht
      rw [World.cell?_setCell_other _ _ _ _ (fun e => by injection e with _ e2; omega)]
      have := h.cd t ht'
      rw [show 65 - (j + 1) + (t + 1) = 65 - j + t from by omega]
      simpa using this
  z := fun o => by rw [World.frozen?_setCell]; exact h.z o
  lt := by simpa [World.setCell] using h.lt
  ge := h.ge
theorem TailAt.text {w wr : World} {A j : Nat} {bs : List UInt8} (h : TailAt w wr A j bs) (W : World) (hW : ∀ p, W.cell? p = wr.cell? p) (hj : j ≤ 65) (cap : Nat) : (convert 169 9 (.slice (some ⟨A, 65 - j, none⟩) j cap)).run Tryz.prog W = .ok (.string ⟨bs.toArray⟩) W := by
  have := run_convert_bytes_back (P := Tryz.prog) W 169 9 5 ⟨A, 65 - j, none⟩ cap bs Tryz.underlying169 Tryz.underlying5 Tryz.underlying9 (fun t ht => by
    rw [hW]
    have := h.cd t ht
    rwa [show (⟨A, 65 - j, none⟩ : Addr).add t = ⟨A, 65 - j + t, none⟩ from by unfold Addr.add; split <;> simp_all])
  rwa [h.n] at this
theorem and15 (v : Nat) (h : v < 18446744073709551616) : bits BinOp.and .u64 (v : Int) 15 = ((v % 16 : Nat) : Int) := by
  have h1 := bits_and_u64_nat v 15 h (by decide)
  rw [show (15 : Nat) = 2 ^ 4 - 1 from by decide, Nat.and_two_pow_sub_one_eq_mod] at h1
  exact h1
theorem zero65 (t : Nat) (h : t < 65) : (Tryz.zeroCells221)[t]? = some (.int .u8 0) := by
  have e : Tryz.zeroCells221 = Array.replicate 65 (.int .u8 0) := by kernel_rfl
  rw [e, Array.getElem?_replicate, if_pos h]
theorem TailAt.start (w : World) : TailAt w (w.alloc (.cells Tryz.zeroCells221 221)) w.heap.size 0 [] where
  below := (Below.refl _ _).alloc (Nat.le_refl _) _
  n := rfl
  cz := fun t ht => by
    have := zero65 t (by omega)
    simpa using this
  cd := fun t ht => by simp at ht
  z := fun o => by simp
  lt := by simp
  ge := Nat.le_refl _
theorem cut65 (A q j : Nat) (h : q + j = 64) (W : World) : (Instr.sliceAt 221 (.pointer (some ⟨A, 0, none⟩)) (some (.int .i64 (q : Int))) none none).run Tryz.prog W = .ok (.slice (some ⟨A, q, none⟩) (j + 1) (j + 1)) W := by
  have ha : Program.arrayLen Tryz.prog 221 = 65 := by kernel_rfl
  have he : Program.elem Tryz.prog 221 = 5 := by kernel_rfl
  have hs := run_sliceAt_array_l (P := Tryz.prog) W 221 ⟨A, 0, none⟩ (by rw [ha, he]; exact Tryz.underlying221) .i64 (q : Int) (by omega) (by rw [ha]; omega)
  rw [hs, ha, he]
  have h1 : (sizeOf 5).run Tryz.prog W = .ok 1 W := Tryz.sizeOf5 W
  rw [h1]
  simp only [Result.andThen, slicedAt, Int.toNat_natCast]
  rw [if_neg (by omega), show 65 - q = j + 1 from by omega]
  by_cases e : q = 0
  · subst e; rfl
  · simp [Addr.add, e]
set_option maxHeartbeats 4000000 in
set_option maxRecDepth 100000 in
theorem bits16 (w : World) (hl : Laid w) (u : Nat) (hu : u < 18446744073709551616) :
    Calls Tryz.prog 161 #[.slice none 0 0, .int .u64 (u : Int), .int .i64 16, .bool false, .bool false] w fun e w' =>
      ∃ k, 1 ≤ k ∧ k ≤ 16 ∧ u < 16 ^ k ∧ e = .returned (.tuple #[.slice none 0 0, .string ⟨(hexN k u).toArray⟩]) ∧ Below w.heap.size w w' := by
  have Hl := Lib.hid hl; clear hl
  go_enter Tryz.func161, Tryz.ntmps161
  go_wp2_with fail
  refine (pow2_16 _).mono ?_
  rintro e w1 ⟨rfl, rfl⟩
  go_wp2_with fail
  have hb0 := (TailAt.start w).below
  refine (tz_16 _ (Hl.out.below hb0)).mono ?_
  rintro e w1 ⟨rfl, rfl⟩
  have Hs := Lib.hid (TailAt.start w)
  clear hb0
  go_wp2_with fail
  go_loopg [1, 13] u (fun m x i wr => ∃ (j v q : Nat), j ≤ 15 ∧ q + j = 64 ∧ m = v ∧ v = u / 16 ^ j ∧ x = .int .u64 (v : Int) ∧ i = .int .i64 ((q : Int) + 1) ∧ TailAt w wr w.heap.size j (hexN j u))
  case atStart => exact ⟨0, u, 64, by omega, by omega, rfl, by simp, rfl, rfl, Hs.out⟩
  case round =>
    obtain ⟨j, v, q, hj, hq, hm, hv, rfl, rfl, ht⟩ := hrel
    have Hm := Lib.hid hm; clear hm Hs
    have hvu : v ≤ u := by rw [hv]; exact Nat.div_le_self _ _
    have Hv := Lib.hid hv; clear hv
    obtain ⟨d, hd1, hd2⟩ : ∃ d : Nat, d < 16 ∧ d = v % 16 := ⟨v % 16, Nat.mod_lt _ (by decide), rfl⟩
    have h15 : bits BinOp.and .u64 (v : Int) 15 = (d : Int) := by rw [hd2]; exact and15 v (by omega)
    have hsz : d < digits36.size := by rw [digits_size]; omega
    have hc := ht.cz q (by omega)
    have hz := ht.z q
    have hlt := ht.lt
    have hdig : dig d = dig (u / 16 ^ j % 16) := by rw [hd2, Hv.out]
    have hs := ht.step (by omega) (digits36[d])
    have hlist : digits36[d] :: hexN j u = hexN (j + 1) u := by rw [digit_at d hd1, hdig]; rfl
    rw [show 64 - j = q from by omega, hlist] at hs
    have Hs := Lib.hid hs
    have Hd := Lib.hid hd2
    clear hs hd2 hdig hlist
    by_cases hge : 16 ≤ v
    · have hj2 : j + 1 ≤ 15 := by
        have h1 := Hv.out
        by_cases e : j = 15
        · subst e
          have : u / 16 ^ 15 < 16 := Nat.div_lt_of_lt_mul (by omega)
          omega
        · omega
      clear ht
      go_wp2_with fail
      go_roundg (v / 16)
      case measure => have := Hm.out; omega
      case rel => exact ⟨j + 1, v / 16, q - 1, hj2, by omega, rfl, by rw [Hv.out, Nat.div_div_eq_div_mul, ← Nat.pow_succ], by go_num, by go_num, Hs.out⟩
    · clear ht
      obtain rfl : d = v := by rw [Hd.out]; exact Nat.mod_eq_of_lt (by omega)
      have hsl := cut65 w.heap.size q j hq
      have hcv := Hs.out.text _ (fun p => rfl) (by omega) (j + 1)
      rw [show 65 - (j + 1) = q from by omega] at hcv
      go_wp2_with fail
      go_ret2
      refine ⟨j + 1, by omega, by omega, ?_, rfl, Hs.out.below⟩
      have h1 := Hv.out
      have h2 : u / 16 ^ j < 16 := by omega
      have hp : 0 < 16 ^ j := Nat.pow_pos (by decide)
      have h3 := (Nat.div_lt_iff_lt_mul hp).1 h2
      rw [Nat.pow_succ, Nat.mul_comm]
      exact h3
theorem formatuint_any (w : World) (hl : Laid w) (u : Nat) (hu : u < 18446744073709551616) :
    Calls Tryz.prog 131 #[.int .u64 (u : Int), .int .i64 16] w fun e w' =>
      ∃ k, 1 ≤ k ∧ k ≤ 16 ∧ u < 16 ^ k ∧ e = .returned (.string ⟨(hexN k u).toArray⟩) ∧ Below w.heap.size w w' := by
  have Hl := Lib.hid hl; clear hl
  have inner : Calls Tryz.prog 147 #[.int .u64 (u : Int), .int .i64 16] w fun e w' =>
      ∃ k, 1 ≤ k ∧ k ≤ 16 ∧ u < 16 ^ k ∧ e = .returned (.string ⟨(hexN k u).toArray⟩) ∧ Below w.heap.size w w' := by
    go_enter Tryz.func147, Tryz.ntmps147
    go_wp2_with fail
    refine (bits16 w Hl.out u hu).mono ?_
    rintro e w' ⟨k, h1, h2, h3, rfl, hb⟩
    have H3 := Lib.hid h3; clear h3
    go_wp2_with fail
    go_ret
    exact ⟨k, h1, h2, H3.out, rfl, hb⟩
  have Hi := Lib.hid inner; clear inner
  go_enter Tryz.func131, Tryz.ntmps131
  go_wp2_with fail
  refine Hi.out.mono ?_
  rintro e w' ⟨k, h1, h2, h3, rfl, hb⟩
  have H3 := Lib.hid h3; clear h3
  go_wp2_with fail
  go_ret
  exact ⟨k, h1, h2, H3.out, rfl, hb⟩
end Go.Proofs.YtfkghfmgeholeaaGreatDoor
namespace Go.Proofs.YtfkghfmgeholeaaGreatDoor
open Go.RowKit Go.Sort Go.Lib

theorem hexN_pad (c k u : Nat) (h : u < 16 ^ k) : hexN (k + c) u = List.replicate c 48 ++ hexN k u := by
  induction c with
  | zero => rfl
  | succ c ih =>
    have h2 : u < 16 ^ (k + c) := Nat.lt_of_lt_of_le h (Nat.pow_le_pow_right (by decide) (by omega))
    show dig (u / 16 ^ (k + c) % 16) :: hexN (k + c) u = _
    rw [Nat.div_eq_of_lt h2, ih, List.replicate_succ]
    rfl
theorem repeat_one (c : Nat) (b : UInt8) : Lib.repeatL [b] c = List.replicate c b := by
  induction c with
  | zero => rfl
  | succ c ih => show [b] ++ Lib.repeatL [b] c = _; rw [ih]; rfl
theorem decDigits_length (u : Nat) : (Lib.decDigits u).length ≤ u + 1 := by
  induction u using Nat.strongRecOn with
  | _ u ih =>
    rw [Lib.decDigits]
    split
    · simp
    · have := ih (u / 10) (by omega)
      simp only [List.length_append, List.length_singleton]
      omega
theorem itoa_length (n : Int) : (Lib.itoa n).length ≤ n.natAbs + 2 := by
  unfold Lib.itoa
  split
  · have := decDigits_length n.natAbs
    simp only [List.length_cons]; omega
  · have := decDigits_length n.toNat
    omega
/-- the text of a float -/
def printL (u : Nat) : List UInt8 :=
  if nanW u then [110, 97, 110] else if infW false u then [105, 110, 102] else if infW true u then [45, 105, 110, 102]
  else if wholeW u then (if negW u && wholeV u == 0 then [45, 48, 46] else Lib.itoa (wholeV u) ++ [46]) else [48, 120] ++ hexN 16 u
theorem grow_below (w : World) (k : Nat) (os : Array Obj) : Below w.heap.size w (grow (w.drewN k) os) :=
  ⟨rfl, rfl, rfl, by show w.heap.size ≤ (w.heap ++ os).size; rw [Array.size_append]; omega, fun j hj => by have := Go.Sort.heap_grow_old (w.drewN k) os hj; exact this⟩
theorem wholeV_le (u : Nat) : (wholeV u).natAbs ≤ 9007199254740992 := by
  unfold wholeV
  split
  · rename_i h
    unfold wholeW at h
    rw [Bool.and_eq_true] at h
    have := intW_le (of_decide_eq_true h.1)
    split <;> omega
  · simp

theorem itoa_any (w : World) (hl : Laid w) (n : Int) (hn : n.natAbs ≤ 9007199254740992) : Calls Tryz.prog 114 #[.int .i64 n] w fun e w' => e = .returned (.string ⟨(Lib.itoa n).toArray⟩) ∧ Below w.heap.size w w' := by
  refine (Tryz.strconv_Itoa n (by omega) (by omega) w hl.tab).mono ?_
  rintro e w' ⟨rfl, k, os, rfl⟩
  exact ⟨rfl, grow_below w k os⟩
theorem add_lists (x y : List UInt8) (h : x.length + y.length ≤ 9223372036854775807) (W : World) : (Op.stringOp .add ⟨x.toArray⟩ ⟨y.toArray⟩).run Tryz.prog W = .ok (.string ⟨(x ++ y).toArray⟩) W := by
  rw [run_string_add_sum W _ _ (by simpa [ByteArray.size] using h), ByteArray.mk_append_mk]
set_option maxHeartbeats 4000000 in
set_option maxRecDepth 100000 in
theorem print_any (w : World) (hl : Laid w) (u : Int) (h0 : 0 ≤ u) (h1 : u < 18446744073709551616) :
    Calls Tryz.prog 117 #[.int .u64 u] w fun e w' => e = .returned (.string ⟨(printL u.toNat).toArray⟩) ∧ Below w.heap.size w w' := by
  have Hl := Lib.hid hl; clear hl
  go_enter Tryz.func117, Tryz.ntmps117
  go_wp2_with fail
  refine (canon_any w u).mono ?_
  rintro e w' ⟨rfl, rfl⟩
  obtain ⟨c0, c1⟩ := canon_range h0 h1
  have hcn : nanW u.toNat = false → canonF u = u := fun h => by unfold canonF; rw [if_neg (by simp [h])]
  have hcy : nanW u.toNat = true → canonF u = 9221120237041090560 := fun h => by unfold canonF; rw [if_pos h]
  have Hcn := Lib.hid hcn; have Hcy := Lib.hid hcy; clear hcn hcy
  generalize hc : canonF u = c at c0 c1 Hcn Hcy ⊢
  have hfb := from_bits c
  go_wp2_with fail
  refine (toint_any w c).mono ?_
  rintro e w' ⟨rfl, rfl⟩
  cases hn : nanW u.toNat with
  | true =>
    obtain rfl : c = 9221120237041090560 := Hcy.out hn
    have Hp := Lib.hid (show printL u.toNat = [110, 97, 110] by unfold printL; rw [if_pos hn])
    clear hn hc
    go_wp2_with fail
    go_ret
    exact ⟨by rw [Hp.out]; rfl, Below.refl _ _⟩
  | false =>
    obtain rfl : u = c := (Hcn.out hn).symm
    have hne : (u == 9221120237041090560) = false := by
      rw [beq_eq_false_iff_ne]
      intro e
      subst e
      exact absurd hn (by decide)
    have hpr : printL u.toNat = if infW false u.toNat then [105, 110, 102] else if infW true u.toNat then [45, 105, 110, 102]
      else if wholeW u.toNat then (if negW u.toNat && wholeV u.toNat == 0 then [45, 48, 46] else Lib.itoa (wholeV u.toNat) ++ [46]) else [48, 120] ++ hexN 16 u.toNat := by unfold printL; rw [if_neg (by simp [hn])]
    clear hn hc
    have Hpr := Lib.hid hpr; clear hpr
    go_wp2_with fail
    refine (isinf_pos w u.toNat).mono ?_
    rintro e w' ⟨rfl, rfl⟩
    cases hi : infW false u.toNat with
    | true =>
      have Hp := Lib.hid (show printL u.toNat = [105, 110, 102] by rw [Hpr.out, if_pos hi])
      clear hi
      go_wp2_with fail
      go_ret
      exact ⟨by rw [Hp.out]; rfl, Below.refl _ _⟩
    | false =>
      have Hpr2 := Lib.hid (show printL u.toNat = _ by rw [Hpr.out, if_neg (by simp [hi])])
      clear hi Hpr
      go_wp2_with fail
      refine (isinf_neg w u.toNat).mono ?_
      rintro e w' ⟨rfl, rfl⟩
      cases hi : infW true u.toNat with
      | true =>
        have Hp := Lib.hid (show printL u.toNat = [45, 105, 110, 102] by rw [Hpr2.out, if_pos hi])
        clear hi
        go_wp2_with fail
        go_ret
        exact ⟨by rw [Hp.out]; rfl, Below.refl _ _⟩
      | false =>
        have Hpr3 := Lib.hid (show printL u.toNat = _ by rw [Hpr2.out, if_neg (by simp [hi])])
        clear hi Hpr2
        cases hw : wholeW u.toNat with
        | true =>
          have Hpr4 := Lib.hid (show printL u.toNat = _ by rw [Hpr3.out, if_pos hw])
          clear hw Hpr3
          have hv := wholeV_le u.toNat
          by_cases hz : wholeV u.toNat = 0
          · rw [hz] at hv ⊢
            go_wp2_with fail
            refine (signbit_any w u.toNat (by omega)).mono ?_
            rintro e w' ⟨rfl, rfl⟩
            cases hs : negW u.toNat with
            | true =>
              have Hp := Lib.hid (show printL u.toNat = [45, 48, 46] by rw [Hpr4.out, hs, hz]; rfl)
              clear hs hz
              go_wp2_with fail
              go_ret
              exact ⟨by rw [Hp.out]; rfl, Below.refl _ _⟩
            | false =>
              have Hp := Lib.hid (show printL u.toNat = [48, 46] by rw [Hpr4.out, hs, hz]; decide +kernel)
              clear hs hz
              go_wp2_with fail
              refine (itoa_any w Hl.out 0 (by decide)).mono ?_
              rintro e w1 ⟨rfl, hb⟩
              rw [show Lib.itoa 0 = [48] by decide +kernel]
              go_wp2_with fail
              go_ret
              exact ⟨by rw [Hp.out]; rfl, hb⟩
          · have hz' : (wholeV u.toNat == 0) = false := by simpa using hz
            have Hp := Lib.hid (show printL u.toNat = Lib.itoa (wholeV u.toNat) ++ [46] by rw [Hpr4.out, hz', Bool.and_false]; rfl)
            have Hv := Lib.hid hv
            have hadd := add_lists (Lib.itoa (wholeV u.toNat)) [46] (by have := itoa_length (wholeV u.toNat); simp only [List.length_singleton]; omega)
            generalize wholeV u.toNat = n at hz' Hp Hv hadd ⊢
            clear hz hv Hpr4
            go_wp2_with fail
            refine (itoa_any w Hl.out n Hv.out).mono ?_
            rintro e w1 ⟨rfl, hb⟩
            go_wp2_with fail
            go_ret
            exact ⟨by rw [Hp.out]; rfl, hb⟩
        | false =>
          have Hp := Lib.hid (show printL u.toNat = [48, 120] ++ hexN 16 u.toNat by rw [Hpr3.out, if_neg (by simp [hw])])
          obtain ⟨n, rfl⟩ := Int.eq_ofNat_of_zero_le h0
          clear hw Hpr3 hfb
          go_wp2_with fail
          refine (formatuint_any w Hl.out n (by omega)).mono ?_
          rintro e w1 ⟨k, hk1, hk2, hk3, rfl, hb⟩
          obtain ⟨c, hc⟩ : ∃ c, k + c = 16 := ⟨16 - k, by omega⟩
          have Hk3 := Lib.hid hk3
          have hsz : (ByteArray.size ⟨(hexN k n).toArray⟩ : Int) = 16 - (c : Int) := by simp [ByteArray.size, hexN_length]; omega
          have hsz2 : ByteArray.size ⟨(hexN k n).toArray⟩ ≤ 16 := by simp [ByteArray.size, hexN_length]; omega
          clear hk3
          generalize hS : (⟨(hexN k n).toArray⟩ : ByteArray) = S at hsz hsz2 ⊢
          have HS := Lib.hid hS
          clear hS
          go_wp2_with fail
          rw [show (16 : Int) - (16 - (c : Int)) = (c : Int) from by omega]
          refine (Tryz.strings_Repeat ⟨#[48]⟩ c w1 (by omega) (by show 1 * c ≤ _; omega)).mono ?_
          rintro e w2 ⟨rfl, hb2⟩
          have hbb := hb.trans (hb2.mono hb.size)
          have hr : Lib.repeatL (ByteArray.mk #[48]).data.toList c = List.replicate c 48 := repeat_one c 48
          rw [hr]
          have ha1 := add_lists [48, 120] (List.replicate c 48) (by simp; omega)
          have ha2 : ∀ W : World, (Op.stringOp .add ⟨(([48, 120] : List UInt8) ++ List.replicate c 48).toArray⟩ S).run Tryz.prog W = .ok (.string ⟨(([48, 120] : List UInt8) ++ List.replicate c 48 ++ hexN k n).toArray⟩) W := fun W => by
            rw [← HS.out]
            exact add_lists _ _ (by simp [hexN_length]; omega) W
          generalize hR : (⟨(List.replicate c 48).toArray⟩ : ByteArray) = R at ha1 ⊢
          generalize hT : (⟨(([48, 120] : List UInt8) ++ List.replicate c 48).toArray⟩ : ByteArray) = T at ha1 ha2
          have HT := Lib.hid hT
          clear hR hT hr hb hb2
          go_wp2_with fail
          go_ret
          refine ⟨?_, hbb⟩
          rw [Hp.out]
          have := hexN_pad c k n Hk3.out
          rw [hc] at this
          rw [show (n : Int).toNat = n from rfl, this]
          simp [← HT.out, ← HS.out, ByteArray.mk_append_mk]
end Go.Proofs.YtfkghfmgeholeaaGreatDoor
namespace Go.Proofs.YtfkghfmgeholeaaGreatDoor
open Go.RowKit

def lowOf (c : UInt8) : Int := bits .or .u8 (c.toNat : Int) 32
def hexd (c : UInt8) : Option Nat := if 48 ≤ c.toNat ∧ c.toNat ≤ 57 then some (c.toNat - 48) else if 97 ≤ lowOf c ∧ lowOf c ≤ 102 then some (lowOf c - 87).toNat else none
/-- the value and how it ended: 0 well, 1 out of range, 2 no number -/
def pu16 : Nat → List UInt8 → Nat × Nat
  | acc, [] => (acc, 0)
  | acc, c :: cs => match hexd c with
    | none => (0, 2)
    | some d => if 1152921504606846976 ≤ acc then (18446744073709551615, 1) else pu16 (acc * 16 + d) cs
def puErr (k : Nat) : Value := if k = 0 then .nilIface else if k = 1 then .iface 185 (.int .i64 1) else .iface 185 (.int .i64 2)
theorem hexd_lt {c : UInt8} {d : Nat} (h : hexd c = some d) : d < 16 := by
  unfold hexd at h
  split at h
  · cases h; omega
  · split at h
    · cases h; omega
    · cases h
theorem pu16_lt (cs : List UInt8) : ∀ acc, acc < 18446744073709551616 → (pu16 acc cs).1 < 18446744073709551616 := by
  induction cs with
  | nil => intro acc h; exact h
  | cons c cs ih =>
    intro acc h
    unfold pu16
    split
    · decide
    · rename_i d hd
      have := hexd_lt hd
      split
      · decide
      · exact ih _ (by omega)

theorem lower_at (c : UInt8) (l : Int) (h : lowOf c = l) (w : World) : Calls Tryz.prog 168 #[.int .u8 (c.toNat : Int)] w fun e w' => e = .returned (.int .u8 l) ∧ w = w' := by
  refine (Tryz.internal_strconv_lower (c.toNat : Int) w).mono ?_
  rintro e w' ⟨rfl, rfl⟩
  exact ⟨by rw [← h]; rfl, rfl⟩
theorem lower95 (w : World) : Calls Tryz.prog 168 #[.int .u8 95] w fun e w' => e = .returned (.int .u8 127) ∧ w = w' :=
  lower_at 95 127 (by decide) w
set_option maxHeartbeats 32000000 in
set_option maxRecDepth 100000 in
theorem parse16 (s : ByteArray) (hne : s.size ≠ 0) (hmax : s.size ≤ 9223372036854775806) (w : World) :
    Calls Tryz.prog 154 #[.string s, .int .i64 16, .int .i64 64] w fun e w' => e = .returned (.tuple #[.int .u64 ((pu16 0 s.data.toList).1 : Int), puErr (pu16 0 s.data.toList).2]) ∧ Below w.heap.size w w' := by
  have hemp : s.toList.isEmpty = false := by
    rw [← decide_eq_emptyBytes]
    exact decide_eq_false (fun h => hne (by rw [h]; rfl))
  have hcv := Lib.run_convert_string_bytes (P := Tryz.prog) w 9 169 5 s (u := .string) Tryz.underlying9 Tryz.underlying169 Tryz.underlying5
  have hB : ∀ j, j < s.size → (Lib.bytesWorld w 5 s).cell? ⟨w.heap.size, j, none⟩ = some (.int .u8 (s.data.toList.getD j 0).toNat) := fun j hj => Lib.bytesWorld_cell w 5 s j hj
  have hbel : Below w.heap.size w (Lib.bytesWorld w 5 s) := by
    exact Lib.bytesWorld_below w 5 s
  generalize Lib.bytesWorld w 5 s = W1 at hcv hB hbel
  obtain ⟨bs, hL⟩ : ∃ bs, bs = s.data.toList := ⟨_, rfl⟩
  have hLn : bs.length = s.size := by rw [hL, Lib.size_eq]
  rw [← hL] at hB ⊢
  clear hL
  have hmv : IntKind.u64.wrap (IntKind.u64.wrap 18446744073709551616 - 1) = 18446744073709551615 := by
    rw [IntKind.wrap_u64, IntKind.wrap_u64]
    decide
  have HB := Lib.hid hB; clear hB
  have Hbel := Lib.hid hbel; clear hbel
  have HLn := Lib.hid hLn; clear hLn
  generalize hN : s.size = N at hne hmax HB HLn hcv
  have HN := Lib.hid hN
  go_enter Tryz.func154, Tryz.ntmps154
  go_wp2_with fail
  clear hcv hN
  go_loopg [12, 13, 101] N (fun m vu vn vi wr => ∃ (k acc : Nat) (a : Int), vu = .bool false ∧ vn = .int .u64 a ∧ vi = .int .i64 (k : Int) ∧ m = N - k ∧ k ≤ N ∧ Hid (a = (acc : Int) ∧ acc < 18446744073709551616 ∧ pu16 0 bs = pu16 acc (bs.drop k)) ∧ wr = W1)
  case atStart => exact ⟨0, 0, 0, rfl, rfl, rfl, by omega, by omega, ⟨rfl, by omega, rfl⟩, rfl⟩
  case round =>
    obtain ⟨k, acc, a, rfl, rfl, rfl, hm, hk, hh, rfl⟩ := hrel
    have Hm := Lib.hid hm; clear hm
    obtain ⟨ha, hacc, hdec⟩ := hh.out
    clear hh
    have a0 : 0 ≤ a := by omega
    have a1 : a < 18446744073709551616 := by omega
    by_cases hkn : k < N
    · have hc := HB.out k hkn
      have hlen : k < bs.length := by have := HLn.out; omega
      have hdrop : bs.drop k = bs[k] :: bs.drop (k + 1) := List.drop_eq_getElem_cons hlen
      have hget : bs.getD k 0 = bs[k] := by simp [List.getD, List.getElem?_eq_getElem hlen]
      rw [hdrop] at hdec
      rw [hget] at hc
      generalize bs[k] = c at hc hdec
      have hc256 : c.toNat < 256 := c.toNat_lt
      clear hdrop hget
      have hstep : pu16 acc (c :: bs.drop (k + 1)) = match hexd c with | none => (0, 2) | some d => if 1152921504606846976 ≤ acc then (18446744073709551615, 1) else pu16 (acc * 16 + d) (bs.drop (k + 1)) := rfl
      by_cases hdig : 48 ≤ c.toNat ∧ c.toNat ≤ 57
      · have hx : hexd c = some (c.toNat - 48) := by unfold hexd; rw [if_pos hdig]
        rw [hx] at hstep
        simp only at hstep
        obtain ⟨hd0, hd1⟩ := hdig
        by_cases hcut : 1152921504606846976 ≤ acc
        · have icut : 1152921504606846976 ≤ a := by omega
          rw [if_pos hcut] at hstep
          rw [hstep] at hdec
          have Hd := Lib.hid hdec
          clear hdec hstep hx ha hacc hcut
          go_wp2_with fail
          go_ret2
          exact ⟨by rw [Hd.out]; rfl, Hbel.out⟩
        · have icut : a < 1152921504606846976 := by omega
          rw [if_neg hcut] at hstep
          rw [hstep] at hdec
          have HH : Hid (a * 16 + ((c.toNat : Int) - 48) = ((acc * 16 + (c.toNat - 48) : Nat) : Int) ∧ acc * 16 + (c.toNat - 48) < 18446744073709551616 ∧ pu16 0 bs = pu16 (acc * 16 + (c.toNat - 48)) (bs.drop (k + 1))) := ⟨by omega, by omega, hdec⟩
          clear hdec hstep hx ha hacc hcut
          go_wp2_with fail
          go_roundg (N - (k + 1))
          case measure => have := Hm.out; omega
          case rel => exact ⟨k + 1, _, _, rfl, by go_num, by go_num, rfl, by omega, HH, rfl⟩
      · have hl0 : 0 ≤ lowOf c := bits_lo_u8 .or (c.toNat : Int) 32
        have hl1 : lowOf c ≤ 255 := bits_hi_u8 .or (c.toNat : Int) 32
        have hxd : hexd c = if 97 ≤ lowOf c ∧ lowOf c ≤ 102 then some (lowOf c - 87).toNat else none := by unfold hexd; rw [if_neg hdig]
        have hnd : ((c.toNat : Int) < 48) ∨ (57 < (c.toNat : Int)) := by omega
        generalize hl : lowOf c = l at hl0 hl1 hxd
        have Hl := Lib.hid hl; clear hl
        have Hxd := Lib.hid hxd; clear hxd
        have Hnd := Lib.hid hnd; clear hnd hdig
        by_cases h95 : c.toNat = 95
        · have hc95 : c = 95 := UInt8.toNat_inj.1 h95
          subst hc95
          have hx : hexd 95 = none := by decide
          rw [hx] at hstep
          simp only at hstep
          rw [hstep] at hdec
          have Hd := Lib.hid hdec
          clear hdec hstep hx ha hacc h95
          go_wp2_with fail
          refine (lower95 _).mono ?_
          rintro e w' ⟨rfl, rfl⟩
          go_wp2_with fail
          refine (lower95 _).mono ?_
          rintro e w' ⟨rfl, rfl⟩
          go_wp2_with fail
          go_ret2
          exact ⟨by rw [Hd.out]; rfl, Hbel.out⟩
        · have hn95 : ((c.toNat : Int) == 95) = false := by rw [beq_eq_false_iff_ne]; omega
          clear h95
          rcases Hnd.out with hnd | hnd
          all_goals (
            by_cases hA : 97 ≤ l
            · by_cases hB : l ≤ 102
              · have hx : hexd c = some (l - 87).toNat := by rw [Hxd.out, if_pos ⟨hA, hB⟩]
                rw [hx] at hstep
                simp only at hstep
                by_cases hcut : 1152921504606846976 ≤ acc
                · have icut : 1152921504606846976 ≤ a := by omega
                  rw [if_pos hcut] at hstep
                  rw [hstep] at hdec
                  have Hd := Lib.hid hdec
                  clear hdec hstep hx ha hacc hcut
                  go_wp2_with fail
                  refine (lower_at c l Hl.out _).mono ?_
                  rintro e w' ⟨rfl, rfl⟩
                  go_wp2_with fail
                  refine (lower_at c l Hl.out _).mono ?_
                  rintro e w' ⟨rfl, rfl⟩
                  go_wp2_with fail
                  refine (lower_at c l Hl.out _).mono ?_
                  rintro e w' ⟨rfl, rfl⟩
                  go_wp2_with fail
                  go_ret2
                  exact ⟨by rw [Hd.out]; rfl, Hbel.out⟩
                · have icut : a < 1152921504606846976 := by omega
                  rw [if_neg hcut] at hstep
                  rw [hstep] at hdec
                  have HH : Hid (a * 16 + (l - 97 + 10) = ((acc * 16 + (l - 87).toNat : Nat) : Int) ∧ acc * 16 + (l - 87).toNat < 18446744073709551616 ∧ pu16 0 bs = pu16 (acc * 16 + (l - 87).toNat) (bs.drop (k + 1))) := ⟨by omega, by omega, hdec⟩
                  clear hdec hstep hx ha hacc hcut
                  go_wp2_with fail
                  refine (lower_at c l Hl.out _).mono ?_
                  rintro e w' ⟨rfl, rfl⟩
                  go_wp2_with fail
                  refine (lower_at c l Hl.out _).mono ?_
                  rintro e w' ⟨rfl, rfl⟩
                  go_wp2_with fail
                  refine (lower_at c l Hl.out _).mono ?_
                  rintro e w' ⟨rfl, rfl⟩
                  go_wp2_with fail
                  go_roundg (N - (k + 1))
                  case measure => have := Hm.out; omega
                  case rel => exact ⟨k + 1, _, _, rfl, by go_num, by go_num, rfl, by omega, HH, rfl⟩
              · have hx : hexd c = none := by rw [Hxd.out, if_neg (by omega)]
                rw [hx] at hstep
                simp only at hstep
                rw [hstep] at hdec
                have Hd := Lib.hid hdec
                clear hdec hstep hx ha hacc
                by_cases hC : l ≤ 122
                · go_wp2_with fail
                  refine (lower_at c l Hl.out _).mono ?_
                  rintro e w' ⟨rfl, rfl⟩
                  go_wp2_with fail
                  refine (lower_at c l Hl.out _).mono ?_
                  rintro e w' ⟨rfl, rfl⟩
                  go_wp2_with fail
                  refine (lower_at c l Hl.out _).mono ?_
                  rintro e w' ⟨rfl, rfl⟩
                  go_wp2_with fail
                  go_ret2
                  exact ⟨by rw [Hd.out]; rfl, Hbel.out⟩
                · go_wp2_with fail
                  refine (lower_at c l Hl.out _).mono ?_
                  rintro e w' ⟨rfl, rfl⟩
                  go_wp2_with fail
                  refine (lower_at c l Hl.out _).mono ?_
                  rintro e w' ⟨rfl, rfl⟩
                  go_wp2_with fail
                  go_ret2
                  exact ⟨by rw [Hd.out]; rfl, Hbel.out⟩
            · have hx : hexd c = none := by rw [Hxd.out, if_neg (by omega)]
              rw [hx] at hstep
              simp only at hstep
              rw [hstep] at hdec
              have Hd := Lib.hid hdec
              clear hdec hstep hx ha hacc
              go_wp2_with fail
              refine (lower_at c l Hl.out _).mono ?_
              rintro e w' ⟨rfl, rfl⟩
              go_wp2_with fail
              go_ret2
              exact ⟨by rw [Hd.out]; rfl, Hbel.out⟩)
    · have hkk : k = N := by omega
      have hF : pu16 acc (bs.drop k) = (acc, 0) := by rw [List.drop_eq_nil_of_le (by have := HLn.out; omega)]; rfl
      rw [hF] at hdec
      have Hd := Lib.hid hdec
      have Ha := Lib.hid ha
      clear hdec hF ha hacc
      go_wp2_with fail
      go_ret2
      exact ⟨by rw [Hd.out, Ha.out]; rfl, Hbel.out⟩
end Go.Proofs.YtfkghfmgeholeaaGreatDoor
namespace Go.Proofs.YtfkghfmgeholeaaGreatDoor
open Go.RowKit

theorem cell_of_var {w : World} {name : String} {v : Value} {g : Nat} (hg : Program.globalNamed Tryz.prog name = some g) (h : w.var? Tryz.prog name = some #[v]) : w.cell? ⟨g, 0, none⟩ = some v := by
  unfold World.var? at h
  rw [hg] at h
  simp only [Option.bind_some] at h
  split at h
  · rename_i cs t f hh
    injection h with h
    subst h
    simp [World.cell?, hh]
  · cases h
theorem es_cell {w : World} (h : Laid w) : ∃ ev, w.cell? ⟨4, 0, none⟩ = some ev ∧ (ev = .nilIface ∨ ∃ te pe, ev = .iface te pe) := by
  obtain ⟨tp, p, e⟩ := h.es
  exact ⟨_, cell_of_var (by kernel_rfl) e, .inr ⟨_, _, rfl⟩⟩
theorem er_cell {w : World} (h : Laid w) : ∃ ev, w.cell? ⟨5, 0, none⟩ = some ev ∧ (ev = .nilIface ∨ ∃ te pe, ev = .iface te pe) := by
  obtain ⟨tp, p, e⟩ := h.er
  exact ⟨_, cell_of_var (by kernel_rfl) e, .inr ⟨_, _, rfl⟩⟩

/-- how it answers -/
def PuEnds (w w' : World) (e : Ending) (v : Int) : Prop := ∃ ev, e = .returned (.tuple #[.int .u64 v, ev]) ∧ Below w.heap.size w w'
theorem parseuint_any (w : World) (hl : Laid w) (s : ByteArray) (hs : s.size ≤ 281474976710656) :
    Calls Tryz.prog 136 #[.string s, .int .i64 16, .int .i64 64] w fun e w' => PuEnds w w' e ((pu16 0 s.data.toList).1 : Int) := by
  have Hl := Lib.hid hl; clear hl
  by_cases he : s.size = 0
  · have hse : s = ⟨#[]⟩ := ByteArray.ext (Array.eq_empty_of_size_eq_zero he)
    subst hse
    clear he
    go_enter Tryz.func136, Tryz.ntmps136
    go_wp2_with fail
    refine (Tryz.internal_strconv_ParseUint_empty 16 64 w).mono ?_
    rintro e w' ⟨rfl, rfl⟩
    go_wp2_with fail
    obtain ⟨ev, hev, hev2⟩ := es_cell Hl.out
    refine (Tryz.strconv_toError_syntax _ ⟨#[]⟩ 16 64 ev w' (by decide) hev hev2).mono ?_
    rintro e w2 ⟨N, rfl, _, _, hb⟩
    go_wp2_with fail
    go_ret2
    exact ⟨_, rfl, hb⟩
  · go_enter Tryz.func136, Tryz.ntmps136
    go_wp2_with fail
    refine (parse16 s he (by omega) w).mono ?_
    rintro e w1 ⟨rfl, hb⟩
    generalize hp : pu16 0 s.data.toList = p
    obtain ⟨v, k⟩ := p
    have Hp := Lib.hid hp
    clear hp
    have Hb := Lib.hid hb; clear hb
    unfold puErr
    by_cases hk0 : k = 0
    · rw [if_pos hk0]
      clear hk0
      go_wp2_with fail
      go_ret2
      exact ⟨_, by rw [Hp.out]; rfl, Hb.out⟩
    · rw [if_neg hk0]
      by_cases hk1 : k = 1
      · rw [if_pos hk1]
        clear hk0 hk1
        go_wp2_with fail
        obtain ⟨ev, hev, hev2⟩ := er_cell (Hl.out.below Hb.out)
        refine (Tryz.strconv_toError_range _ s 16 64 ev w1 hs hev hev2).mono ?_
        rintro e w2 ⟨N, rfl, _, _, hb⟩
        have hbb := Hb.out.trans (hb.mono Hb.out.size)
        clear hb hev hev2
        go_wp2_with fail
        go_ret2
        exact ⟨_, by rw [Hp.out]; rfl, hbb⟩
      · rw [if_neg hk1]
        clear hk0 hk1
        go_wp2_with fail
        obtain ⟨ev, hev, hev2⟩ := es_cell (Hl.out.below Hb.out)
        refine (Tryz.strconv_toError_syntax _ s 16 64 ev w1 hs hev hev2).mono ?_
        rintro e w2 ⟨N, rfl, _, _, hb⟩
        have hbb := Hb.out.trans (hb.mono Hb.out.size)
        clear hb hev hev2
        go_wp2_with fail
        go_ret2
        exact ⟨_, by rw [Hp.out]; rfl, hbb⟩
def atoiV (l : List UInt8) : Int := match Lib.atoiAll l with
  | .ok v => v
  | .range => Lib.atoiSat l
  | _ => 0
def AtEnds (w w' : World) (e : Ending) (v : Int) : Prop := ∃ ev, e = .returned (.tuple #[.int .i64 v, ev]) ∧ Below w.heap.size w w'
theorem atoi_any (w : World) (hl : Laid w) (s : ByteArray) (hs : s.size ≤ 281474976710656) :
    Calls Tryz.prog 113 #[.string s] w fun e w' => AtEnds w w' e (atoiV s.data.toList) := by
  unfold atoiV
  cases h : Lib.atoiAll s.data.toList with
  | ok v =>
    refine (Tryz.strconv_Atoi_ok s (by omega) v h w).mono ?_
    rintro e w' ⟨rfl, rfl | ⟨t, rfl⟩⟩
    · exact ⟨_, rfl, Below.refl _ _⟩
    · exact ⟨_, rfl, Lib.bytesWorld_below w 5 t⟩
  | range =>
    obtain ⟨ev, hev, hev2⟩ := er_cell hl
    refine (Tryz.strconv_Atoi_range s hs h ev w hev hev2).mono ?_
    rintro e w2 ⟨N, rfl, _, _, hb⟩
    exact ⟨_, rfl, hb⟩
  | _ =>
    obtain ⟨ev, hev, hev2⟩ := es_cell hl
    refine (Any.strconv_Atoi_syntax Tryz.laysC172 s hs h ev w hev hev2).mono ?_
    rintro e w2 ⟨N, rfl, _, _, hb⟩
    exact ⟨_, rfl, hb⟩
theorem inf_any (w : World) : (Calls Tryz.prog 135 #[.int .i64 1] w fun e w' => e = .returned (.float .f64 9218868437227405312) ∧ w = w') ∧ (Calls Tryz.prog 135 #[.int .i64 (-1)] w fun e w' => e = .returned (.float .f64 18442240474082181120) ∧ w = w') := by
  have h1 := from_bits 9218868437227405312
  have h2 := from_bits 18442240474082181120
  constructor
  · go_enter Tryz.func135, Tryz.ntmps135
    go_wp2_with fail
    go_ret
    exact ⟨rfl, rfl⟩
  · go_enter Tryz.func135, Tryz.ntmps135
    go_wp2_with fail
    go_ret
    exact ⟨rfl, rfl⟩

/-- the float that a text may be -/
def candV (l : List UInt8) : Int :=
  if l = [110, 97, 110] then 9221120237041090560 else if l = [105, 110, 102] then 9218868437227405312 else if l = [45, 105, 110, 102] then 18442240474082181120
  else if l = [45, 48, 46] then 9223372036854775808 else if Lib.hasPrefix l [48, 120] then ((pu16 0 (Lib.trimPrefix l [48, 120])).1 : Int) else fromV (atoiV (Lib.trimSuffix l [46]))
theorem bytes_ne {s : ByteArray} {l : List UInt8} (h : ¬ s.data.toList = l) : (s.toList == l) = false := by
  rw [ByteArray.toList_eq, beq_eq_false_iff_ne]
  exact h
theorem bytes_eq {s : ByteArray} {l : List UInt8} (h : s.data.toList = l) : s = ⟨l.toArray⟩ := by
  apply ByteArray.ext
  rw [← h]
theorem candidate_any (w : World) (hl : Laid w) (s : ByteArray) (hs : s.size ≤ 281474976710656) :
    Calls Tryz.prog 123 #[.string s] w fun e w' => e = .returned (.int .u64 (candV s.data.toList)) ∧ Below w.heap.size w w' := by
  have Hl := Lib.hid hl; clear hl
  have hb1 := bits_of 9218868437227405312
  have hb2 := bits_of 18442240474082181120
  by_cases h1 : s.data.toList = [110, 97, 110]
  · have hc : candV s.data.toList = 9221120237041090560 := by unfold candV; rw [if_pos h1]
    rw [hc]
    have := bytes_eq h1
    subst this
    clear h1 hc
    go_enter Tryz.func123, Tryz.ntmps123
    go_wp2_with fail
    go_ret
    exact ⟨rfl, Below.refl _ _⟩
  by_cases h2 : s.data.toList = [105, 110, 102]
  · have hc : candV s.data.toList = 9218868437227405312 := by unfold candV; rw [if_neg h1, if_pos h2]
    rw [hc]
    have := bytes_eq h2
    subst this
    clear h1 h2 hc
    go_enter Tryz.func123, Tryz.ntmps123
    go_wp2_with fail
    refine (inf_any w).1.mono ?_
    rintro e w' ⟨rfl, rfl⟩
    go_wp2_with fail
    go_ret
    exact ⟨rfl, Below.refl _ _⟩
  by_cases h3 : s.data.toList = [45, 105, 110, 102]
  · have hc : candV s.data.toList = 18442240474082181120 := by unfold candV; rw [if_neg h1, if_neg h2, if_pos h3]
    rw [hc]
    have := bytes_eq h3
    subst this
    clear h1 h2 h3 hc
    go_enter Tryz.func123, Tryz.ntmps123
    go_wp2_with fail
    refine (inf_any w).2.mono ?_
    rintro e w' ⟨rfl, rfl⟩
    go_wp2_with fail
    go_ret
    exact ⟨rfl, Below.refl _ _⟩
  by_cases h4 : s.data.toList = [45, 48, 46]
  · have hc : candV s.data.toList = 9223372036854775808 := by unfold candV; rw [if_neg h1, if_neg h2, if_neg h3, if_pos h4]
    rw [hc]
    have := bytes_eq h4
    subst this
    clear h1 h2 h3 h4 hc
    go_enter Tryz.func123, Tryz.ntmps123
    go_wp2_with fail
    go_ret
    exact ⟨rfl, Below.refl _ _⟩
  have n1 := bytes_ne h1
  have n2 := bytes_ne h2
  have n3 := bytes_ne h3
  have n4 := bytes_ne h4
  have hcv : candV s.data.toList = if Lib.hasPrefix s.data.toList [48, 120] then ((pu16 0 (Lib.trimPrefix s.data.toList [48, 120])).1 : Int) else fromV (atoiV (Lib.trimSuffix s.data.toList [46])) := by
    unfold candV; rw [if_neg h1, if_neg h2, if_neg h3, if_neg h4]
  have Hcv := Lib.hid hcv
  clear hcv h1 h2 h3 h4 hb1 hb2
  go_enter Tryz.func123, Tryz.ntmps123
  go_wp2_with fail
  refine (Tryz.strings_CutPrefix s _ w).mono ?_
  rintro e w' ⟨rfl, rfl⟩
  have hsl : s.data.toList.length ≤ 281474976710656 := by rw [← Lib.size_eq]; exact hs
  cases hpf : Lib.hasPrefix s.data.toList [48, 120] with
  | true =>
    have Hc := Lib.hid (show candV s.data.toList = ((pu16 0 (Lib.trimPrefix s.data.toList [48, 120])).1 : Int) by rw [Hcv.out, if_pos hpf])
    have hlen : (Lib.trimPrefix s.data.toList [48, 120]).length ≤ s.data.toList.length := by
      unfold Lib.trimPrefix; split <;> simp
    generalize hT : Lib.trimPrefix s.data.toList [48, 120] = T at Hc hlen
    clear hT hpf n1 n2 n3 n4 Hcv
    go_wp2_with fail
    refine (parseuint_any w' Hl.out ⟨T.toArray⟩ (by simp [ByteArray.size]; omega)).mono ?_
    rintro e w1 ⟨ev, rfl, hb⟩
    have Hb := Lib.hid hb; clear hb
    go_wp2_with fail
    go_ret
    exact ⟨by rw [Hc.out]; rfl, Hb.out⟩
  | false =>
    have Hc := Lib.hid (show candV s.data.toList = fromV (atoiV (Lib.trimSuffix s.data.toList [46])) by rw [Hcv.out, if_neg (by simp [hpf])])
    have hlen : (Lib.trimSuffix s.data.toList [46]).length ≤ s.data.toList.length := by
      unfold Lib.trimSuffix; split <;> simp
    generalize hT : Lib.trimSuffix s.data.toList [46] = T at Hc hlen
    have HT := Lib.hid hT
    generalize Lib.trimPrefix s.data.toList [48, 120] = T0
    clear hT hpf n1 n2 n3 n4 Hcv
    go_wp2_with fail
    refine (Tryz.strings_TrimSuffix s _ w' (by omega)).mono ?_
    rintro e w1 ⟨rfl, rfl⟩
    generalize hT' : Lib.trimSuffix s.data.toList [46] = T'
    obtain rfl : T = T' := by rw [← hT', HT.out]
    clear hT'
    go_wp2_with fail
    refine (atoi_any w1 Hl.out ⟨T.toArray⟩ (by simp [ByteArray.size]; omega)).mono ?_
    rintro e w2 ⟨ev, rfl, hb⟩
    have Hb := Lib.hid hb; clear hb
    go_wp2_with fail
    refine (fromint_any w2 _).mono ?_
    rintro e w3 ⟨rfl, rfl⟩
    go_wp2_with fail
    go_ret
    exact ⟨by rw [Hc.out]; rfl, Hb.out⟩
end Go.Proofs.YtfkghfmgeholeaaGreatDoor
namespace Go.Proofs.YtfkghfmgeholeaaGreatDoor
open Go.RowKit

theorem word_range (s : Bool) (r : Nat) (h : r < B63) : Ieee.double.word s r < 18446744073709551616 := by
  have hs : Ieee.double.signWeight = B63 := by decide
  unfold Ieee.Format.word
  rw [hs]
  unfold B63 at *
  split <;> omega
/-- the word of a whole number -/
theorem fromW_spec (n : Int) (h : n.natAbs ≤ 9007199254740992) : ∃ r, fromW n = Ieee.double.word (decide (n < 0)) r ∧ mag r = n.natAbs * U ∧ r ≤ R53 := by
  have hf : fromW n = Ieee.double.nearest (decide (n < 0)) n.natAbs 0 := rfl
  by_cases h0 : n.natAbs = 0
  · exact ⟨0, by rw [hf, h0]; exact near_zero _ _, by rw [h0, mag_low (by decide), Nat.zero_mul], by decide⟩
  · obtain ⟨r, h1, h2, h3⟩ := near_exact (decide (n < 0)) n.natAbs (by omega) h
    exact ⟨r, by rw [hf, h1], h2, h3⟩
theorem inR_abs {n : Int} (h : inR n = true) : n.natAbs ≤ 9007199254740992 := by
  unfold inR at h
  simp only [Bool.and_eq_true, decide_eq_true_eq] at h
  omega
theorem fromV_range (n : Int) : 0 ≤ fromV n ∧ fromV n < 18446744073709551616 := by
  unfold fromV
  split
  · rename_i h
    obtain ⟨r, h1, _, h3⟩ := fromW_spec n (inR_abs h)
    have := word_range (decide (n < 0)) r (Nat.lt_of_le_of_lt h3 (by decide))
    rw [h1]
    omega
  · omega
theorem candV_range (l : List UInt8) : 0 ≤ candV l ∧ candV l < 18446744073709551616 := by
  unfold candV
  split
  · omega
  · split
    · omega
    · split
      · omega
      · split
        · omega
        · split
          · have := pu16_lt (Lib.trimPrefix l [48, 120]) 0 (by omega)
            omega
          · exact fromV_range _
def parseOk (l : List UInt8) : Bool := (printL (candV l).toNat == l) && (canonF (candV l) == candV l)
def parseV (l : List UInt8) : Int := if parseOk l then candV l else 0
theorem parse_any (w : World) (hl : Laid w) (s : ByteArray) (hs : s.size ≤ 281474976710656) :
    Calls Tryz.prog 112 #[.string s] w fun e w' => e = .returned (.tuple #[.int .u64 (parseV s.data.toList), .bool (parseOk s.data.toList)]) ∧ Below w.heap.size w w' := by
  have Hl := Lib.hid hl; clear hl
  obtain ⟨c0, c1⟩ := candV_range s.data.toList
  have hok : parseOk s.data.toList = ((printL (candV s.data.toList).toNat == s.data.toList) && (canonF (candV s.data.toList) == candV s.data.toList)) := rfl
  have hv : parseV s.data.toList = if parseOk s.data.toList then candV s.data.toList else 0 := rfl
  go_enter Tryz.func112, Tryz.ntmps112
  go_wp2_with fail
  refine (candidate_any w Hl.out s hs).mono ?_
  rintro e w1 ⟨rfl, hb⟩
  generalize hc : candV s.data.toList = c at c0 c1 hok hv ⊢
  have Hb := Lib.hid hb; clear hb
  by_cases hp : printL c.toNat = s.data.toList
  · have hse : s = ⟨(printL c.toNat).toArray⟩ := bytes_eq hp.symm
    have hlist : (printL c.toNat == s.data.toList) = true := by rw [beq_iff_eq]; exact hp
    rw [hlist, Bool.true_and] at hok
    cases hcn : canonF c == c with
    | true =>
      rw [hcn] at hok
      rw [hok, if_pos rfl] at hv
      have Hok := Lib.hid hok; have Hv := Lib.hid hv
      clear hok hv hlist hp hc
      subst hse
      go_wp2_with fail
      refine (print_any w1 (Hl.out.below Hb.out) c c0 c1).mono ?_
      rintro e w2 ⟨rfl, hb2⟩
      have Hbb := Lib.hid (Hb.out.trans (hb2.mono Hb.out.size)); clear hb2
      go_wp2_with fail
      refine (canon_any w2 c).mono ?_
      rintro e w3 ⟨rfl, rfl⟩
      go_wp2_with fail
      go_ret2
      exact ⟨by rw [Hok.out, Hv.out]; rfl, Hbb.out⟩
    | false =>
      have hcn' : (canonF c != c) = true := by rw [bne, hcn]; rfl
      rw [hcn] at hok
      rw [hok] at hv
      have Hok := Lib.hid hok; have Hv := Lib.hid hv
      clear hok hv hlist hp hc hcn
      subst hse
      go_wp2_with fail
      refine (print_any w1 (Hl.out.below Hb.out) c c0 c1).mono ?_
      rintro e w2 ⟨rfl, hb2⟩
      have Hbb := Lib.hid (Hb.out.trans (hb2.mono Hb.out.size)); clear hb2
      go_wp2_with fail
      refine (canon_any w2 c).mono ?_
      rintro e w3 ⟨rfl, rfl⟩
      go_wp2_with fail
      go_ret2
      exact ⟨by rw [Hok.out, Hv.out]; rfl, Hbb.out⟩
  · have hlist : (printL c.toNat == s.data.toList) = false := by rw [beq_eq_false_iff_ne]; exact hp
    rw [hlist, Bool.false_and] at hok
    rw [hok] at hv
    have Hok := Lib.hid hok; have Hv := Lib.hid hv
    have hne : (ByteArray.toList ⟨(printL c.toNat).toArray⟩ == s.toList) = false := by
      rw [ByteArray.toList_eq, ByteArray.toList_eq, beq_eq_false_iff_ne]; exact hp
    have hne2 : (ByteArray.toList ⟨(printL c.toNat).toArray⟩ != s.toList) = true := by rw [bne, hne]; rfl
    have Hpr := Lib.hid (show (ByteArray.mk (printL c.toNat).toArray) = ⟨(printL c.toNat).toArray⟩ from rfl)
    clear hok hv hlist hp hc
    generalize hS : (ByteArray.mk (printL c.toNat).toArray) = S at hne hne2
    have HS := Lib.hid hS
    clear hS Hpr
    go_wp2_with fail
    refine (print_any w1 (Hl.out.below Hb.out) c c0 c1).mono ?_
    rintro e w2 ⟨rfl, hb2⟩
    have Hbb := Lib.hid (Hb.out.trans (hb2.mono Hb.out.size)); clear hb2
    rw [HS.out]
    go_wp2_with fail
    go_ret2
    exact ⟨by rw [Hok.out, Hv.out]; rfl, Hbb.out⟩
end Go.Proofs.YtfkghfmgeholeaaGreatDoor
namespace Go.Proofs.YtfkghfmgeholeaaGreatDoor
open Go.RowKit

structure IsInt (w : Nat) (a : Int) : Prop where
  neg : negW w = decide (a < 0)
  mg : mag (rungW w) = a.natAbs * U
  le : rungW w ≤ R53
  lt : w < 18446744073709551616
theorem fromW_int {a : Int} (h : a.natAbs ≤ 9007199254740992) : IsInt (fromW a) a := by
  obtain ⟨r, h1, h2, h3⟩ := fromW_spec a h
  have hr : r < B63 := Nat.lt_of_le_of_lt h3 (by decide)
  obtain ⟨n1, n2⟩ := word_neg (decide (a < 0)) r hr
  rw [h1]
  exact ⟨n1, by rw [n2]; exact h2, by rw [n2]; exact h3, word_range _ r hr⟩
theorem IsInt.nan {w : Nat} {a : Int} (h : IsInt w a) : nanW w = false := by
  have hRI : (R53 : Nat) < Inf := by decide
  have := h.le
  unfold nanW
  exact decide_eq_false (by omega)
theorem IsInt.sm {w : Nat} {a : Int} (h : IsInt w a) : sm w = a * (U : Int) := by
  unfold YtfkghfmgeholeaaGreatDoor.sm
  rw [h.neg, h.mg]
  by_cases e : a < 0
  · rw [decide_eq_true e]
    simp only [if_true]
    rw [Int.natCast_mul, ← Int.neg_mul]
    congr 1
    omega
  · rw [decide_eq_false e]
    simp only [Bool.false_eq_true, if_false]
    rw [Int.natCast_mul]
    congr 1
    omega
theorem IsInt.cmp {v w : Nat} {a b : Int} (h : IsInt v a) (k : IsInt w b) : (sv v < sv w ↔ a < b) ∧ (sv v = sv w ↔ a = b) := by
  have hU : (0 : Int) < (U : Int) := by have := U_pos; omega
  rw [← sm_lt, ← sm_eq, h.sm, k.sm]
  exact ⟨⟨fun x => Int.lt_of_mul_lt_mul_right x (Int.le_of_lt hU), fun x => Int.mul_lt_mul_of_pos_right x hU⟩, ⟨fun x => Int.eq_of_mul_eq_mul_right (by omega) x, fun x => by rw [x]⟩⟩
theorem IsInt.cmpF {v w : Nat} {a b : Int} (h : IsInt v a) (k : IsInt w b) : YtfkghfmgeholeaaGreatDoor.cmpF v w = cmp3 a b := by
  obtain ⟨h1, h2⟩ := h.cmp k
  obtain ⟨h3, h4⟩ := k.cmp h
  unfold YtfkghfmgeholeaaGreatDoor.cmpF cmp3
  rw [h.nan, k.nan]
  simp only [Bool.or_self, Bool.false_eq_true, if_false, h1, h3]
theorem IsInt.whole {w : Nat} {a : Int} (h : IsInt w a) : wholeW w = true ∧ wholeV w = a := by
  have hi : intW w = a.natAbs := by unfold intW; rw [h.mg, Nat.mul_div_cancel _ U_pos]
  have hw : wholeW w = true := by
    unfold wholeW
    rw [decide_eq_true h.le, h.mg, Nat.mul_mod_left]
    rfl
  refine ⟨hw, ?_⟩
  unfold wholeV
  rw [if_pos hw, hi, h.neg]
  by_cases e : a < 0
  · rw [decide_eq_true e]; simp only [if_true]; omega
  · rw [decide_eq_false e]; simp only [Bool.false_eq_true, if_false]; omega
theorem IsInt.print {w : Nat} {a : Int} (h : IsInt w a) : printL w = Lib.itoa a ++ [46] := by
  have hRI : (R53 : Nat) < Inf := by decide
  have hl := h.le
  have hinf : ∀ s, infW s w = false := fun s => by
    unfold infW
    rw [show (rungW w == Inf) = false from by rw [beq_eq_false_iff_ne]; omega, Bool.and_false]
  obtain ⟨hw, hv⟩ := h.whole
  unfold printL
  rw [h.nan, hinf, hinf, hw, hv, h.neg]
  simp only [Bool.false_eq_true, if_false, if_true]
  rw [if_neg]
  intro e
  rw [Bool.and_eq_true, decide_eq_true_iff, beq_iff_eq] at e
  omega
end Go.Proofs.YtfkghfmgeholeaaGreatDoor
namespace Go.Proofs.YtfkghfmgeholeaaGreatDoor
open Go.RowKit

theorem parts_any (w : World) (u : Int) (h0 : 0 ≤ u) (h1 : u < 18446744073709551616) :
    Calls Tryz.prog 89 #[.int .u64 u] w fun e w' => e = .returned (.tuple #[.int .u64 (u / 9223372036854775808), .int .i64 (u / 4503599627370496 % 2048), .int .u64 (u % 4503599627370496)]) ∧ w = w' := by
  go_enter Tryz.func89, Tryz.ntmps89
  go_wp2_with fail
  exact bodyPost_ret (v := .tuple #[.int .u64 (u / 9223372036854775808), .int .i64 (u / 4503599627370496 % 2048), .int .u64 (u % 4503599627370496)]) (by simp [results, Tryz.results89, go_sem]) rfl ⟨rfl, rfl⟩
theorem mag_any (w : World) (u : Int) (h0 : 0 ≤ u) :
    Calls Tryz.prog 108 #[.int .u64 u] w fun e w' => e = .returned (.int .u64 (u % 9223372036854775808)) ∧ w = w' := by
  go_enter Tryz.func108, Tryz.ntmps108
  go_wp2_with fail
  go_ret
  exact ⟨rfl, rfl⟩
theorem isnanR_any (w : World) (u : Int) (h0 : 0 ≤ u) (h1 : u < 18446744073709551616) :
    Calls Tryz.prog 75 #[.int .u64 u] w fun e w' => e = .returned (.bool (nanW u.toNat)) ∧ w = w' := by
  have hn : nanW u.toNat = decide (u / 4503599627370496 % 2048 = 2047 ∧ 0 < u % 4503599627370496) := by
    unfold nanW rungW Inf B63
    congr 1
    rw [eq_iff_iff]
    omega
  have Hp := Lib.hid (parts_any w u h0 h1)
  generalize he : u / 4503599627370496 % 2048 = x at hn Hp
  generalize hm : u % 4503599627370496 = m at hn Hp
  generalize u / 9223372036854775808 = s at Hp
  clear he hm
  by_cases h2 : x = 2047
  · by_cases h3 : 0 < m
    · rw [decide_eq_true ⟨h2, h3⟩] at hn
      rw [hn]
      subst h2
      clear hn
      go_enter Tryz.func75, Tryz.ntmps75
      go_wp2_with fail
      refine Hp.out.mono ?_
      rintro e w' ⟨rfl, rfl⟩
      go_wp2_with fail
      go_ret
      exact ⟨rfl, rfl⟩
    · rw [decide_eq_false (fun h => h3 h.2)] at hn
      rw [hn]
      subst h2
      have h4 : decide (0 < m) = false := by simpa using h3
      clear hn
      go_enter Tryz.func75, Tryz.ntmps75
      go_wp2_with fail
      refine Hp.out.mono ?_
      rintro e w' ⟨rfl, rfl⟩
      go_wp2_with fail
      go_ret
      exact ⟨by simp [h3], rfl⟩
  · rw [decide_eq_false (fun h => h2 h.1)] at hn
    rw [hn]
    have h4 : (x == 2047) = false := by simpa using h2
    clear hn
    go_enter Tryz.func75, Tryz.ntmps75
    go_wp2_with fail
    refine Hp.out.mono ?_
    rintro e w' ⟨rfl, rfl⟩
    go_wp2_with fail
    go_ret
    exact ⟨rfl, rfl⟩
theorem canonR_any (w : World) (u : Int) (h0 : 0 ≤ u) (h1 : u < 18446744073709551616) : Calls Tryz.prog 56 #[.int .u64 u] w fun e w' => e = .returned (.int .u64 (canonF u)) ∧ w = w' := by
  go_enter Tryz.func56, Tryz.ntmps56
  go_wp2_with fail
  refine (isnanR_any w u h0 h1).mono ?_
  rintro e w' ⟨rfl, rfl⟩
  cases hn : nanW u.toNat with
  | true =>
    have Hc := Lib.hid (show canonF u = 9221120237041090560 by unfold canonF; rw [if_pos hn])
    clear hn
    go_wp2_with fail
    go_ret
    exact ⟨by rw [Hc.out]; rfl, rfl⟩
  | false =>
    have Hc := Lib.hid (show canonF u = u by unfold canonF; rw [if_neg (by simp [hn])])
    clear hn
    go_wp2_with fail
    go_ret
    exact ⟨by rw [Hc.out]; rfl, rfl⟩
theorem sv_parts {u s x : Int} (h0 : 0 ≤ u) (h1 : u < 18446744073709551616) (hs : u / 9223372036854775808 = s) (hx : u % 9223372036854775808 = x) : (s = 0 ∨ s = 1) ∧ 0 ≤ x ∧ x < 9223372036854775808 ∧ u = s * 9223372036854775808 + x ∧ sv u.toNat = if s = 1 then -x else x := by
  refine ⟨by omega, by omega, by omega, by omega, ?_⟩
  have hr : (rungW u.toNat : Int) = x := by unfold rungW B63; omega
  have hn : negW u.toNat = decide (s = 1) := by
    rw [negW_lt (by omega)]
    congr 1
    rw [eq_iff_iff]
    unfold B63
    omega
  unfold sv
  rw [hr, hn]
  by_cases e : s = 1
  · rw [if_pos e, decide_eq_true e]; rfl
  · rw [if_neg e, decide_eq_false e]; rfl
theorem cmpF_ok {a b : Nat} (h : (nanW a || nanW b) = false) : cmpF a b = if sv a < sv b then -1 else if sv b < sv a then 1 else 0 := by unfold cmpF; rw [h]; rfl

set_option maxHeartbeats 4000000 in
theorem compareR_any (w : World) (a b : Int) (a0 : 0 ≤ a) (a1 : a < 18446744073709551616) (b0 : 0 ≤ b) (b1 : b < 18446744073709551616) :
    Calls Tryz.prog 96 #[.int .u64 a, .int .u64 b] w fun e w' => e = .returned (.tuple #[.int .i64 (cmpF a.toNat b.toNat), .bool (!(nanW a.toNat || nanW b.toNat))]) ∧ w = w' := by
  have Na := Lib.hid (isnanR_any w a a0 a1)
  have Nb := Lib.hid (isnanR_any w b b0 b1)
  cases hna : nanW a.toNat with
  | true =>
    have hc : cmpF a.toNat b.toNat = 0 := by unfold cmpF; rw [hna]; rfl
    rw [hc, Bool.true_or]
    rw [hna] at Na
    clear hc hna
    go_enter Tryz.func96, Tryz.ntmps96
    go_wp2_with fail
    refine Na.out.mono ?_
    rintro e w' ⟨rfl, rfl⟩
    go_wp2_with fail
    go_ret2
    exact ⟨rfl, rfl⟩
  | false =>
    rw [hna] at Na
    cases hnb : nanW b.toNat with
    | true =>
      have hc : cmpF a.toNat b.toNat = 0 := by unfold cmpF; rw [hna, hnb]; rfl
      rw [hc, Bool.false_or]
      rw [hnb] at Nb
      clear hc hna hnb
      go_enter Tryz.func96, Tryz.ntmps96
      go_wp2_with fail
      refine Na.out.mono ?_
      rintro e w' ⟨rfl, rfl⟩
      go_wp2_with fail
      refine Nb.out.mono ?_
      rintro e w' ⟨rfl, rfl⟩
      go_wp2_with fail
      go_ret2
      exact ⟨rfl, rfl⟩
    | false =>
      rw [hnb] at Nb
      have hc := cmpF_ok (a := a.toNat) (b := b.toNat) (by rw [hna, hnb]; rfl)
      have Ma := Lib.hid (mag_any w a a0)
      have Mb := Lib.hid (mag_any w b b0)
      generalize hx : a % 9223372036854775808 = x at Ma
      generalize hy : b % 9223372036854775808 = y at Mb
      obtain ⟨s, hs⟩ : ∃ s, a / 9223372036854775808 = s := ⟨_, rfl⟩
      obtain ⟨t, ht⟩ : ∃ t, b / 9223372036854775808 = t := ⟨_, rfl⟩
      obtain ⟨ks, kx0, kx1, ka, kv⟩ := sv_parts a0 a1 hs hx
      obtain ⟨kt, ky0, ky1, kb, kw⟩ := sv_parts b0 b1 ht hy
      rw [kv, kw] at hc
      have Hc := Lib.hid hc
      clear hc kv kw hx hy hna hnb a0 a1 b0 b1
      rcases ks with rfl | rfl <;> rcases kt with rfl | rfl
      · skip
        rcases Int.lt_trichotomy x y with h | h | h
        · by_cases hx : x = 0
          · have hr : cmpF a.toNat b.toNat = -1 := by rw [Hc.out]; simp only [show ¬ ((0 : Int) = 1) from by decide, if_false, if_true]; split <;> (try split) <;> omega
            have fl : 0 < y := by omega
            have fx : (x == 0) = true := by rw [beq_iff_eq]; omega
            have fy : (y == 0) = false := by rw [beq_eq_false_iff_ne]; omega
            have fe : (a == b) = false := by rw [beq_eq_false_iff_ne]; omega
            have Hr := Lib.hid hr
            clear Hc hr ka kb
            subst hx
            go_enter Tryz.func96, Tryz.ntmps96
            go_wp2_with fail
            refine Na.out.mono ?_
            rintro e w' ⟨rfl, rfl⟩
            go_wp2_with fail
            refine Nb.out.mono ?_
            rintro e w' ⟨rfl, rfl⟩
            go_wp2_with fail
            refine Ma.out.mono ?_
            rintro e w' ⟨rfl, rfl⟩
            go_wp2_with fail
            refine Mb.out.mono ?_
            rintro e w' ⟨rfl, rfl⟩
            go_wp2_with fail
            go_ret2
            exact ⟨by rw [Hr.out]; rfl, rfl⟩
          · have hr : cmpF a.toNat b.toNat = -1 := by rw [Hc.out]; simp only [show ¬ ((0 : Int) = 1) from by decide, if_false, if_true]; split <;> (try split) <;> omega
            have fx : (x == 0) = false := by rw [beq_eq_false_iff_ne]; omega
            have fe : (a == b) = false := by rw [beq_eq_false_iff_ne]; omega
            have Hr := Lib.hid hr
            clear Hc hr ka kb
            go_enter Tryz.func96, Tryz.ntmps96
            go_wp2_with fail
            refine Na.out.mono ?_
            rintro e w' ⟨rfl, rfl⟩
            go_wp2_with fail
            refine Nb.out.mono ?_
            rintro e w' ⟨rfl, rfl⟩
            go_wp2_with fail
            refine Ma.out.mono ?_
            rintro e w' ⟨rfl, rfl⟩
            go_wp2_with fail
            refine Mb.out.mono ?_
            rintro e w' ⟨rfl, rfl⟩
            go_wp2_with fail
            go_ret2
            exact ⟨by rw [Hr.out]; rfl, rfl⟩
        · by_cases hx : x = 0
          · have hr : cmpF a.toNat b.toNat = 0 := by rw [Hc.out]; simp only [show ¬ ((0 : Int) = 1) from by decide, if_false, if_true]; split <;> (try split) <;> omega
            have fx : (x == 0) = true := by rw [beq_iff_eq]; omega
            have fy : (y == 0) = true := by rw [beq_iff_eq]; omega
            have Hr := Lib.hid hr
            clear Hc hr ka kb
            go_enter Tryz.func96, Tryz.ntmps96
            go_wp2_with fail
            refine Na.out.mono ?_
            rintro e w' ⟨rfl, rfl⟩
            go_wp2_with fail
            refine Nb.out.mono ?_
            rintro e w' ⟨rfl, rfl⟩
            go_wp2_with fail
            refine Ma.out.mono ?_
            rintro e w' ⟨rfl, rfl⟩
            go_wp2_with fail
            refine Mb.out.mono ?_
            rintro e w' ⟨rfl, rfl⟩
            go_wp2_with fail
            go_ret2
            exact ⟨by rw [Hr.out]; rfl, rfl⟩
          · have hr : cmpF a.toNat b.toNat = 0 := by rw [Hc.out]; simp only [show ¬ ((0 : Int) = 1) from by decide, if_false, if_true]; split <;> (try split) <;> omega
            have fx : (x == 0) = false := by rw [beq_eq_false_iff_ne]; omega
            have fe : (a == b) = true := by rw [beq_iff_eq]; omega
            have Hr := Lib.hid hr
            clear Hc hr ka kb
            go_enter Tryz.func96, Tryz.ntmps96
            go_wp2_with fail
            refine Na.out.mono ?_
            rintro e w' ⟨rfl, rfl⟩
            go_wp2_with fail
            refine Nb.out.mono ?_
            rintro e w' ⟨rfl, rfl⟩
            go_wp2_with fail
            refine Ma.out.mono ?_
            rintro e w' ⟨rfl, rfl⟩
            go_wp2_with fail
            refine Mb.out.mono ?_
            rintro e w' ⟨rfl, rfl⟩
            go_wp2_with fail
            go_ret2
            exact ⟨by rw [Hr.out]; rfl, rfl⟩
        · have hr : cmpF a.toNat b.toNat = 1 := by rw [Hc.out]; simp only [show ¬ ((0 : Int) = 1) from by decide, if_false, if_true]; split <;> (try split) <;> omega
          have fx : (x == 0) = false := by rw [beq_eq_false_iff_ne]; omega
          have fe : (a == b) = false := by rw [beq_eq_false_iff_ne]; omega
          have fl : ¬ x < y := by omega
          have fd : decide (x < y) = false := decide_eq_false fl
          have Hr := Lib.hid hr
          clear Hc hr ka kb
          go_enter Tryz.func96, Tryz.ntmps96
          go_wp2_with fail
          refine Na.out.mono ?_
          rintro e w' ⟨rfl, rfl⟩
          go_wp2_with fail
          refine Nb.out.mono ?_
          rintro e w' ⟨rfl, rfl⟩
          go_wp2_with fail
          refine Ma.out.mono ?_
          rintro e w' ⟨rfl, rfl⟩
          go_wp2_with fail
          refine Mb.out.mono ?_
          rintro e w' ⟨rfl, rfl⟩
          go_wp2_with fail
          go_ret2
          exact ⟨by rw [Hr.out]; rfl, rfl⟩
      · skip
        by_cases hx : x = 0
        · by_cases hy : y = 0
          · have hr : cmpF a.toNat b.toNat = 0 := by rw [Hc.out]; simp only [show ¬ ((0 : Int) = 1) from by decide, if_false, if_true]; split <;> (try split) <;> omega
            have fx : (x == 0) = true := by rw [beq_iff_eq]; omega
            have fy : (y == 0) = true := by rw [beq_iff_eq]; omega
            have Hr := Lib.hid hr
            clear Hc hr ka kb
            go_enter Tryz.func96, Tryz.ntmps96
            go_wp2_with fail
            refine Na.out.mono ?_
            rintro e w' ⟨rfl, rfl⟩
            go_wp2_with fail
            refine Nb.out.mono ?_
            rintro e w' ⟨rfl, rfl⟩
            go_wp2_with fail
            refine Ma.out.mono ?_
            rintro e w' ⟨rfl, rfl⟩
            go_wp2_with fail
            refine Mb.out.mono ?_
            rintro e w' ⟨rfl, rfl⟩
            go_wp2_with fail
            go_ret2
            exact ⟨by rw [Hr.out]; rfl, rfl⟩
          · have hr : cmpF a.toNat b.toNat = 1 := by rw [Hc.out]; simp only [show ¬ ((0 : Int) = 1) from by decide, if_false, if_true]; split <;> (try split) <;> omega
            have fx : (x == 0) = true := by rw [beq_iff_eq]; omega
            have fy : (y == 0) = false := by rw [beq_eq_false_iff_ne]; omega
            have fe : (a == b) = false := by rw [beq_eq_false_iff_ne]; omega
            have Hr := Lib.hid hr
            clear Hc hr ka kb
            go_enter Tryz.func96, Tryz.ntmps96
            go_wp2_with fail
            refine Na.out.mono ?_
            rintro e w' ⟨rfl, rfl⟩
            go_wp2_with fail
            refine Nb.out.mono ?_
            rintro e w' ⟨rfl, rfl⟩
            go_wp2_with fail
            refine Ma.out.mono ?_
            rintro e w' ⟨rfl, rfl⟩
            go_wp2_with fail
            refine Mb.out.mono ?_
            rintro e w' ⟨rfl, rfl⟩
            go_wp2_with fail
            go_ret2
            exact ⟨by rw [Hr.out]; rfl, rfl⟩
        · have hr : cmpF a.toNat b.toNat = 1 := by rw [Hc.out]; simp only [show ¬ ((0 : Int) = 1) from by decide, if_false, if_true]; split <;> (try split) <;> omega
          have fx : (x == 0) = false := by rw [beq_eq_false_iff_ne]; omega
          have fe : (a == b) = false := by rw [beq_eq_false_iff_ne]; omega
          have Hr := Lib.hid hr
          clear Hc hr ka kb
          go_enter Tryz.func96, Tryz.ntmps96
          go_wp2_with fail
          refine Na.out.mono ?_
          rintro e w' ⟨rfl, rfl⟩
          go_wp2_with fail
          refine Nb.out.mono ?_
          rintro e w' ⟨rfl, rfl⟩
          go_wp2_with fail
          refine Ma.out.mono ?_
          rintro e w' ⟨rfl, rfl⟩
          go_wp2_with fail
          refine Mb.out.mono ?_
          rintro e w' ⟨rfl, rfl⟩
          go_wp2_with fail
          go_ret2
          exact ⟨by rw [Hr.out]; rfl, rfl⟩
      · skip
        by_cases hx : x = 0
        · by_cases hy : y = 0
          · have hr : cmpF a.toNat b.toNat = 0 := by rw [Hc.out]; simp only [show ¬ ((0 : Int) = 1) from by decide, if_false, if_true]; split <;> (try split) <;> omega
            have fx : (x == 0) = true := by rw [beq_iff_eq]; omega
            have fy : (y == 0) = true := by rw [beq_iff_eq]; omega
            have Hr := Lib.hid hr
            clear Hc hr ka kb
            go_enter Tryz.func96, Tryz.ntmps96
            go_wp2_with fail
            refine Na.out.mono ?_
            rintro e w' ⟨rfl, rfl⟩
            go_wp2_with fail
            refine Nb.out.mono ?_
            rintro e w' ⟨rfl, rfl⟩
            go_wp2_with fail
            refine Ma.out.mono ?_
            rintro e w' ⟨rfl, rfl⟩
            go_wp2_with fail
            refine Mb.out.mono ?_
            rintro e w' ⟨rfl, rfl⟩
            go_wp2_with fail
            go_ret2
            exact ⟨by rw [Hr.out]; rfl, rfl⟩
          · have hr : cmpF a.toNat b.toNat = -1 := by rw [Hc.out]; simp only [show ¬ ((0 : Int) = 1) from by decide, if_false, if_true]; split <;> (try split) <;> omega
            have fx : (x == 0) = true := by rw [beq_iff_eq]; omega
            have fy : (y == 0) = false := by rw [beq_eq_false_iff_ne]; omega
            have fe : (a == b) = false := by rw [beq_eq_false_iff_ne]; omega
            have Hr := Lib.hid hr
            clear Hc hr ka kb
            go_enter Tryz.func96, Tryz.ntmps96
            go_wp2_with fail
            refine Na.out.mono ?_
            rintro e w' ⟨rfl, rfl⟩
            go_wp2_with fail
            refine Nb.out.mono ?_
            rintro e w' ⟨rfl, rfl⟩
            go_wp2_with fail
            refine Ma.out.mono ?_
            rintro e w' ⟨rfl, rfl⟩
            go_wp2_with fail
            refine Mb.out.mono ?_
            rintro e w' ⟨rfl, rfl⟩
            go_wp2_with fail
            go_ret2
            exact ⟨by rw [Hr.out]; rfl, rfl⟩
        · have hr : cmpF a.toNat b.toNat = -1 := by rw [Hc.out]; simp only [show ¬ ((0 : Int) = 1) from by decide, if_false, if_true]; split <;> (try split) <;> omega
          have fx : (x == 0) = false := by rw [beq_eq_false_iff_ne]; omega
          have fe : (a == b) = false := by rw [beq_eq_false_iff_ne]; omega
          have Hr := Lib.hid hr
          clear Hc hr ka kb
          go_enter Tryz.func96, Tryz.ntmps96
          go_wp2_with fail
          refine Na.out.mono ?_
          rintro e w' ⟨rfl, rfl⟩
          go_wp2_with fail
          refine Nb.out.mono ?_
          rintro e w' ⟨rfl, rfl⟩
          go_wp2_with fail
          refine Ma.out.mono ?_
          rintro e w' ⟨rfl, rfl⟩
          go_wp2_with fail
          refine Mb.out.mono ?_
          rintro e w' ⟨rfl, rfl⟩
          go_wp2_with fail
          go_ret2
          exact ⟨by rw [Hr.out]; rfl, rfl⟩
      · skip
        rcases Int.lt_trichotomy x y with h | h | h
        · by_cases hx : x = 0
          · have hr : cmpF a.toNat b.toNat = 1 := by rw [Hc.out]; simp only [show ¬ ((0 : Int) = 1) from by decide, if_false, if_true]; split <;> (try split) <;> omega
            have fl : 0 < y := by omega
            have fx : (x == 0) = true := by rw [beq_iff_eq]; omega
            have fy : (y == 0) = false := by rw [beq_eq_false_iff_ne]; omega
            have fe : (a == b) = false := by rw [beq_eq_false_iff_ne]; omega
            have Hr := Lib.hid hr
            clear Hc hr ka kb
            subst hx
            go_enter Tryz.func96, Tryz.ntmps96
            go_wp2_with fail
            refine Na.out.mono ?_
            rintro e w' ⟨rfl, rfl⟩
            go_wp2_with fail
            refine Nb.out.mono ?_
            rintro e w' ⟨rfl, rfl⟩
            go_wp2_with fail
            refine Ma.out.mono ?_
            rintro e w' ⟨rfl, rfl⟩
            go_wp2_with fail
            refine Mb.out.mono ?_
            rintro e w' ⟨rfl, rfl⟩
            go_wp2_with fail
            go_ret2
            exact ⟨by rw [Hr.out]; rfl, rfl⟩
          · have hr : cmpF a.toNat b.toNat = 1 := by rw [Hc.out]; simp only [show ¬ ((0 : Int) = 1) from by decide, if_false, if_true]; split <;> (try split) <;> omega
            have fx : (x == 0) = false := by rw [beq_eq_false_iff_ne]; omega
            have fe : (a == b) = false := by rw [beq_eq_false_iff_ne]; omega
            have Hr := Lib.hid hr
            clear Hc hr ka kb
            go_enter Tryz.func96, Tryz.ntmps96
            go_wp2_with fail
            refine Na.out.mono ?_
            rintro e w' ⟨rfl, rfl⟩
            go_wp2_with fail
            refine Nb.out.mono ?_
            rintro e w' ⟨rfl, rfl⟩
            go_wp2_with fail
            refine Ma.out.mono ?_
            rintro e w' ⟨rfl, rfl⟩
            go_wp2_with fail
            refine Mb.out.mono ?_
            rintro e w' ⟨rfl, rfl⟩
            go_wp2_with fail
            go_ret2
            exact ⟨by rw [Hr.out]; rfl, rfl⟩
        · by_cases hx : x = 0
          · have hr : cmpF a.toNat b.toNat = 0 := by rw [Hc.out]; simp only [show ¬ ((0 : Int) = 1) from by decide, if_false, if_true]; split <;> (try split) <;> omega
            have fx : (x == 0) = true := by rw [beq_iff_eq]; omega
            have fy : (y == 0) = true := by rw [beq_iff_eq]; omega
            have Hr := Lib.hid hr
            clear Hc hr ka kb
            go_enter Tryz.func96, Tryz.ntmps96
            go_wp2_with fail
            refine Na.out.mono ?_
            rintro e w' ⟨rfl, rfl⟩
            go_wp2_with fail
            refine Nb.out.mono ?_
            rintro e w' ⟨rfl, rfl⟩
            go_wp2_with fail
            refine Ma.out.mono ?_
            rintro e w' ⟨rfl, rfl⟩
            go_wp2_with fail
            refine Mb.out.mono ?_
            rintro e w' ⟨rfl, rfl⟩
            go_wp2_with fail
            go_ret2
            exact ⟨by rw [Hr.out]; rfl, rfl⟩
          · have hr : cmpF a.toNat b.toNat = 0 := by rw [Hc.out]; simp only [show ¬ ((0 : Int) = 1) from by decide, if_false, if_true]; split <;> (try split) <;> omega
            have fx : (x == 0) = false := by rw [beq_eq_false_iff_ne]; omega
            have fe : (a == b) = true := by rw [beq_iff_eq]; omega
            have Hr := Lib.hid hr
            clear Hc hr ka kb
            go_enter Tryz.func96, Tryz.ntmps96
            go_wp2_with fail
            refine Na.out.mono ?_
            rintro e w' ⟨rfl, rfl⟩
            go_wp2_with fail
            refine Nb.out.mono ?_
            rintro e w' ⟨rfl, rfl⟩
            go_wp2_with fail
            refine Ma.out.mono ?_
            rintro e w' ⟨rfl, rfl⟩
            go_wp2_with fail
            refine Mb.out.mono ?_
            rintro e w' ⟨rfl, rfl⟩
            go_wp2_with fail
            go_ret2
            exact ⟨by rw [Hr.out]; rfl, rfl⟩
        · have hr : cmpF a.toNat b.toNat = -1 := by rw [Hc.out]; simp only [show ¬ ((0 : Int) = 1) from by decide, if_false, if_true]; split <;> (try split) <;> omega
          have fx : (x == 0) = false := by rw [beq_eq_false_iff_ne]; omega
          have fe : (a == b) = false := by rw [beq_eq_false_iff_ne]; omega
          have fl : ¬ x < y := by omega
          have fd : decide (x < y) = false := decide_eq_false fl
          have Hr := Lib.hid hr
          clear Hc hr ka kb
          go_enter Tryz.func96, Tryz.ntmps96
          go_wp2_with fail
          refine Na.out.mono ?_
          rintro e w' ⟨rfl, rfl⟩
          go_wp2_with fail
          refine Nb.out.mono ?_
          rintro e w' ⟨rfl, rfl⟩
          go_wp2_with fail
          refine Ma.out.mono ?_
          rintro e w' ⟨rfl, rfl⟩
          go_wp2_with fail
          refine Mb.out.mono ?_
          rintro e w' ⟨rfl, rfl⟩
          go_wp2_with fail
          go_ret2
          exact ⟨by rw [Hr.out]; rfl, rfl⟩
end Go.Proofs.YtfkghfmgeholeaaGreatDoor
namespace Go.Proofs.YtfkghfmgeholeaaGreatDoor
open Ieee

theorem mag_parts {r e m : Nat} (h1 : r = e * B52 + m) (h2 : m < B52) (h3 : 1 ≤ e) : mag r = (B52 + m) * 2 ^ (e - 1) := by
  have hd : r / B52 = e := by unfold B52 at *; omega
  have hm : r % B52 = m := by unfold B52 at *; omega
  rw [mag_ge (by unfold B52 at *; omega), hd, hm]
theorem mag_pos {r : Nat} (h : 0 < r) : 0 < mag r := by
  have := mag_mono h
  have h0 : mag 0 = 0 := mag_low (by decide)
  omega
theorem whole_zero {w : Nat} (h : rungW w = 0) : wholeW w = true ∧ wholeV w = 0 := by
  have h0 : mag 0 = 0 := mag_low (by decide)
  have hw : wholeW w = true := by
    unfold wholeW
    rw [h, h0, Nat.zero_mod]
    rfl
  refine ⟨hw, ?_⟩
  unfold wholeV
  rw [if_pos hw]
  have : intW w = 0 := by unfold intW; rw [h, h0, Nat.zero_div]
  rw [this]
  split <;> rfl
theorem whole_not {w : Nat} (h : wholeW w = false) : wholeV w = 0 := by unfold wholeV; rw [if_neg (by simp [h])]
theorem whole_small {w e m : Nat} (h1 : rungW w = e * B52 + m) (h2 : m < B52) (h3 : e < 1023) (h4 : 0 < rungW w) : wholeW w = false := by
  have hlt : rungW w < 1023 * B52 := by rw [h1]; unfold B52 at *; omega
  have hm := mag_mono hlt
  have hu : mag (1023 * B52) = U := by
    rw [mag_parts (r := 1023 * B52) (e := 1023) (m := 0) (Nat.add_zero _).symm (by decide) (by decide), U_split 1022 (by decide), Nat.add_zero, show 1023 - 1 = 1022 from rfl, show 1074 - 1022 = 52 from rfl, show B52 = 2 ^ 52 from by decide]
  have hp := mag_pos h4
  unfold wholeW
  rw [Bool.and_eq_false_iff]
  right
  rw [Nat.mod_eq_of_lt (by omega)]
  exact decide_eq_false (by omega)
theorem whole_big {w : Nat} (h : R53 < rungW w) : wholeW w = false := by
  unfold wholeW
  rw [decide_eq_false (by omega), Bool.false_and]
theorem whole_mid {w e m d : Nat} (h1 : rungW w = e * B52 + m) (h2 : m < B52) (h3 : e + d = 1075) (h4 : d ≤ 52) : wholeW w = decide ((B52 + m) % 2 ^ d = 0) ∧ intW w = (B52 + m) / 2 ^ d := by
  have hle : rungW w ≤ R53 := by rw [h1]; unfold R53 B52 at *; omega
  obtain ⟨Z, hp, hU, hm⟩ : ∃ Z, 0 < Z ∧ U = Z * 2 ^ d ∧ mag (rungW w) = (B52 + m) * Z := by
    have hm := mag_parts h1 h2 (by omega)
    have he : e - 1 = 1074 - d := by omega
    rw [he] at hm
    exact ⟨2 ^ (1074 - d), Nat.pow_pos (by decide), U_split d (by omega), hm⟩
  constructor
  · unfold wholeW
    rw [decide_eq_true hle, Bool.true_and, hm, hU, Nat.mul_comm (B52 + m), Nat.mul_mod_mul_left]
    rw [Bool.eq_iff_iff, decide_eq_true_iff, decide_eq_true_iff]
    constructor
    · intro h
      rcases Nat.mul_eq_zero.1 h with h | h
      · omega
      · exact h
    · intro h; rw [h, Nat.mul_zero]
  · unfold intW
    rw [hm, hU, Nat.mul_comm (B52 + m), Nat.mul_div_mul_left _ _ hp]
theorem whole_top {w : Nat} (h : rungW w = R53) : wholeW w = true ∧ intW w = 9007199254740992 := by
  constructor
  · unfold wholeW
    rw [h, mag53, Nat.mul_mod_left]
    decide
  · unfold intW
    rw [h, mag53, Nat.mul_div_cancel _ U_pos]
end Go.Proofs.YtfkghfmgeholeaaGreatDoor
namespace Go.Proofs.YtfkghfmgeholeaaGreatDoor
open Go.RowKit

theorem float_parts (u : Int) (h0 : 0 ≤ u) (h1 : u < 18446744073709551616) : ∃ (s e m : Nat), u / 9223372036854775808 = s ∧ u / 4503599627370496 % 2048 = e ∧ u % 4503599627370496 = m ∧ (s = 0 ∨ s = 1) ∧ e < 2048 ∧ m < 4503599627370496 ∧ rungW u.toNat = e * B52 + m ∧ negW u.toNat = decide (s = 1) := by
  refine ⟨(u / 9223372036854775808).toNat, (u / 4503599627370496 % 2048).toNat, (u % 4503599627370496).toNat, by omega, by omega, by omega, by omega, by omega, by omega, ?_, ?_⟩
  · unfold rungW B63 B52; omega
  · rw [negW_lt (by omega)]
    congr 1
    rw [eq_iff_iff]
    unfold B63
    omega
def WInv (T d j n mm : Nat) (K : Int) : Prop := j + mm = d ∧ T % 2 ^ j = 0 ∧ n = T / 2 ^ j ∧ K = (j : Int) - d
/-- the two states of the last loop -/
def Two (mm : Nat) (x k : Value) : Prop := (mm = 1 ∧ x = .int .u64 4503599627370496 ∧ k = .int .i64 1) ∨ (mm = 0 ∧ x = .int .u64 9007199254740992 ∧ k = .int .i64 0)
end Go.Proofs.YtfkghfmgeholeaaGreatDoor
