/- Joined texts: Va0; Va1; Va2; Va3; Va4; Vp0; Vb0; Vb1; Vc0; Vc1; Vc2; Vd0; Vd1; Ve0; Vr0; Vr1; Vr2; Vp1. -/
import Derived.Test.YtfkghfmgeholeaaGreatDoorGC
import Derived.Test.YtfkghfmgeholeaaGreatDoorGA
import Derived.Deep.RegionHeld3
import Derived.Deep.DeepCutAuto
import Derived.Deep.AppendLies
import Derived.Deep.RegionLaw
set_option linter.unusedVariables false
set_option linter.unusedSimpArgs false
namespace Go.Proofs.YtfkghfmgeholeaaGreatDoor
open Go.RowKit

structure Val where
  k : Int
  n : Int
  s : ByteArray
  f : Int
abbrev Val.v (x : Val) : Value := .agg #[.int .i64 x.k, .int .i64 x.n, .string x.s, .int .u64 x.f]
structure Val.Wf (x : Val) : Prop where
  k0 : -9223372036854775808 ≤ x.k
  k1 : x.k ≤ 9223372036854775807
  n0 : -9223372036854775808 ≤ x.n
  n1 : x.n ≤ 9223372036854775807
  f0 : 0 ≤ x.f
  f1 : x.f < 18446744073709551616
/-- is it a value -/
def rightB (x : Val) : Bool :=
  if x.k = 1 then decide (x.s.toList = []) && decide (x.f = 0)
  else if x.k = 2 then decide (x.s.toList = []) && decide (x.f = 0) && decide (x.n = 0 ∨ x.n = 1)
  else if x.k = 3 then decide (x.n = 0) && decide (x.f = 0) && decide (x.s.size ≤ 64)
  else if x.k = 4 then decide (x.n = 0) && decide (x.s.toList = []) && decide (canonF x.f = x.f)
  else decide (x.k = 0) && decide (x.n = 0) && decide (x.s.toList = []) && decide (x.f = 0)
theorem bits_one (n : Int) : bits BinOp.and .i64 n 1 = n % 2 := by
  show IntKind.i64.wrap ((BitVec.ofInt 64 n &&& BitVec.ofInt 64 1).toNat : Int) = n % 2
  rw [BitVec.toNat_and, show (BitVec.ofInt 64 1).toNat = 1 from by decide, Nat.and_one_is_mod, BitVec.toNat_ofInt, IntKind.wrap_i64]
  omega
theorem and_one (n : Int) : (n = bits BinOp.and .i64 n 1) ↔ (n = 0 ∨ n = 1) := by
  rw [bits_one]
  omega
set_option maxHeartbeats 8000000 in
set_option maxRecDepth 100000 in
theorem right_any (w : World) (x : Val) :
    Calls Tryz.prog 47 #[x.v] w fun e w' => e = .returned (.bool (rightB x)) ∧ Below w.heap.size w w' := by
  obtain ⟨k, n, s, f⟩ := x
  simp only [Val.v]
  by_cases h1 : k = 1
  · subst h1
    have hb : rightB ⟨1, n, s, f⟩ = (decide (s.toList = []) && decide (f = 0)) := by simp [rightB]
    rw [hb]
    clear hb
    go_enter Tryz.func47, Tryz.ntmps47
    go_wp2_with fail
    all_goals
      go_ret
      exact ⟨by simp [*], (Below.refl _ _).alloc (Nat.le_refl _) _⟩
  by_cases h2 : k = 2
  · subst h2
    have hb : rightB ⟨2, n, s, f⟩ = (decide (s.toList = []) && decide (f = 0) && decide (n = 0 ∨ n = 1)) := by simp [rightB]
    have ha := and_one n
    rw [hb]
    clear hb
    by_cases hn : n = 0 ∨ n = 1
    · rw [decide_eq_true hn]
      clear ha
      have z0 : bits BinOp.and .i64 0 1 = 0 := by decide
      have z1 : bits BinOp.and .i64 1 1 = 1 := by decide
      rcases hn with rfl | rfl
      all_goals
        go_enter Tryz.func47, Tryz.ntmps47
        go_wp2_with fail
        all_goals
          go_ret
          exact ⟨by simp [*], (Below.refl _ _).alloc (Nat.le_refl _) _⟩
    · have hn2 := fun h => hn (ha.1 h)
      rw [decide_eq_false hn]
      clear ha
      have Hn := Lib.hid hn; clear hn
      go_enter Tryz.func47, Tryz.ntmps47
      go_wp2_with fail
      all_goals
        go_ret
        exact ⟨by simp [*], (Below.refl _ _).alloc (Nat.le_refl _) _⟩
  by_cases h3 : k = 3
  · subst h3
    have hb : rightB ⟨3, n, s, f⟩ = (decide (n = 0) && decide (f = 0) && decide (s.size ≤ 64)) := by simp [rightB]
    rw [hb]
    clear hb
    by_cases hs : s.size ≤ 64
    · have hsi : (s.size : Int) ≤ 64 := by omega
      rw [decide_eq_true hs]
      go_enter Tryz.func47, Tryz.ntmps47
      go_wp2_with fail
      all_goals
        go_ret
        exact ⟨by simp [*], (Below.refl _ _).alloc (Nat.le_refl _) _⟩
    · have hsi : ¬ (s.size : Int) ≤ 64 := by omega
      rw [decide_eq_false hs]
      go_enter Tryz.func47, Tryz.ntmps47
      go_wp2_with fail
      all_goals
        go_ret
        exact ⟨by simp [*], (Below.refl _ _).alloc (Nat.le_refl _) _⟩
  by_cases h4 : k = 4
  · subst h4
    have hb : rightB ⟨4, n, s, f⟩ = (decide (n = 0) && decide (s.toList = []) && decide (canonF f = f)) := by simp [rightB]
    rw [hb]
    clear hb
    have Hc : Hid (∀ W : World, Calls Tryz.prog 65 #[.int .u64 f] W fun e w' => e = .returned (.int .u64 (canonF f)) ∧ W = w') := Lib.hid fun W => canon_any W f
    generalize canonF f = c at *
    by_cases hn : n = 0
    · subst hn
      by_cases hs : s.toList = []
      · by_cases hc : f = c
        · subst hc
          go_enter Tryz.func47, Tryz.ntmps47
          go_wp2_with fail
          go_quiet ((go_at_call 65; exact Calls.quiet_of_same ((Hc.out _).mono fun e w1 h => ⟨h.1, h.2.symm⟩)))
          go_wp2_with fail
          go_ret
          exact ⟨by simp [*], below_drewN ((Below.refl _ _).alloc (Nat.le_refl _) _) _⟩
        · have hc2 : ¬ c = f := fun e => hc e.symm
          go_enter Tryz.func47, Tryz.ntmps47
          go_wp2_with fail
          go_quiet ((go_at_call 65; exact Calls.quiet_of_same ((Hc.out _).mono fun e w1 h => ⟨h.1, h.2.symm⟩)))
          go_wp2_with fail
          go_ret
          exact ⟨by simp [*], below_drewN ((Below.refl _ _).alloc (Nat.le_refl _) _) _⟩
      · go_enter Tryz.func47, Tryz.ntmps47
        go_wp2_with fail
        go_quiet ((go_at_call 65; exact Calls.quiet_of_same ((Hc.out _).mono fun e w1 h => ⟨h.1, h.2.symm⟩)))
        go_wp2_with fail
        go_ret
        exact ⟨by simp [*], below_drewN ((Below.refl _ _).alloc (Nat.le_refl _) _) _⟩
    · go_enter Tryz.func47, Tryz.ntmps47
      go_wp2_with fail
      go_quiet ((go_at_call 65; exact Calls.quiet_of_same ((Hc.out _).mono fun e w1 h => ⟨h.1, h.2.symm⟩)))
      go_wp2_with fail
      go_ret
      exact ⟨by simp [*], below_drewN ((Below.refl _ _).alloc (Nat.le_refl _) _) _⟩
  · have hb : rightB ⟨k, n, s, f⟩ = (decide (k = 0) && decide (n = 0) && decide (s.toList = []) && decide (f = 0)) := by simp [rightB, h1, h2, h3, h4]
    rw [hb]
    clear hb
    have e1 : (k == 1) = false := by rw [beq_eq_false_iff_ne]; exact h1
    have e2 : (k == 2) = false := by rw [beq_eq_false_iff_ne]; exact h2
    have e3 : (k == 3) = false := by rw [beq_eq_false_iff_ne]; exact h3
    have e4 : (k == 4) = false := by rw [beq_eq_false_iff_ne]; exact h4
    go_enter Tryz.func47, Tryz.ntmps47
    go_wp2_with fail
    all_goals
      go_ret
      exact ⟨by simp [*], (Below.refl _ _).alloc (Nat.le_refl _) _⟩
end Go.Proofs.YtfkghfmgeholeaaGreatDoor
namespace Go.Proofs.YtfkghfmgeholeaaGreatDoor
open Go.RowKit

def zeroVal : Val := ⟨0, 0, ⟨#[]⟩, 0⟩
def rightOf (x : Val) : Val := if rightB x then x else zeroVal
/-- a value lies in a block of its own -/
structure At (w : World) (b : Nat) (k n : Int) (s : ByteArray) (f : Int) : Prop where
  c0 : w.cell? ⟨b, 0, none⟩ = some (.int .i64 k)
  c1 : w.cell? ⟨b, 1, none⟩ = some (.int .i64 n)
  c2 : w.cell? ⟨b, 2, none⟩ = some (.string s)
  c3 : w.cell? ⟨b, 3, none⟩ = some (.int .u64 f)
  z : ∀ o, w.frozen? ⟨b, o, none⟩ = false
  lt : b < w.heap.size
theorem At.new (w : World) (k n : Int) (s : ByteArray) (f : Int) (t : TypeId) : At (w.alloc (.cells #[.int .i64 k, .int .i64 n, .string s, .int .u64 f] t)) w.heap.size k n s f where
  c0 := by simp
  c1 := by simp
  c2 := by simp
  c3 := by simp
  z := fun o => by simp
  lt := by simp
theorem At.below {w w' : World} {b B : Nat} {k n : Int} {s : ByteArray} {f : Int} (h : At w b k n s f) (hb : Below B w w') (hB : b < B) : At w' b k n s f where
  c0 := (hb.cell hB).trans h.c0
  c1 := (hb.cell hB).trans h.c1
  c2 := (hb.cell hB).trans h.c2
  c3 := (hb.cell hB).trans h.c3
  z := fun o => (hb.frozen hB).trans (h.z o)
  lt := Nat.lt_of_lt_of_le h.lt hb.size
theorem At.alloc {w : World} {b : Nat} {k n : Int} {s : ByteArray} {f : Int} (h : At w b k n s f) (o : Obj) : At (w.alloc o) b k n s f :=
  h.below ((Below.refl w.heap.size w).alloc (Nat.le_refl _) o) h.lt
set_option maxHeartbeats 8000000 in
set_option maxRecDepth 100000 in
theorem rightof_any (w : World) (x : Val) :
    Calls Tryz.prog 90 #[x.v] w fun e w' => e = .returned (rightOf x).v ∧ Below w.heap.size w w' := by
  have Hr : Hid (∀ W : World, Calls Tryz.prog 47 #[x.v] W fun e w' => e = .returned (.bool (rightB x)) ∧ Below W.heap.size W w') := Lib.hid fun W => right_any W x
  unfold rightOf
  obtain ⟨k, n, s, f⟩ := x
  simp only [Val.v] at Hr ⊢
  have a1 := (At.new w k n s f 26).alloc (Obj.cells #[.int .i64 0, .int .i64 0, .string ⟨#[]⟩, .int .u64 0] 26)
  have a2 := At.new (w.alloc (.cells #[.int .i64 k, .int .i64 n, .string s, .int .u64 f] 26)) 0 0 ⟨#[]⟩ 0 26
  have hsz : ((w.alloc (.cells #[.int .i64 k, .int .i64 n, .string s, .int .u64 f] 26)).heap.size) = w.heap.size + 1 := by simp
  rw [hsz] at a2
  have hbl : Below w.heap.size w ((w.alloc (.cells #[.int .i64 k, .int .i64 n, .string s, .int .u64 f] 26)).alloc (.cells #[.int .i64 0, .int .i64 0, .string ⟨#[]⟩, .int .u64 0] 26)) :=
    ((Below.refl _ _).alloc (Nat.le_refl _) _).alloc (by simp) _
  have A1 := Lib.hid a1; have A2 := Lib.hid a2; have Hbl := Lib.hid hbl
  clear a1 a2 hbl hsz
  cases hb : rightB ⟨k, n, s, f⟩ with
  | true =>
    rw [hb] at Hr
    simp only [if_true]
    clear hb
    go_enter Tryz.func90, Tryz.ntmps90
    go_wp2_with fail
    refine (Hr.out _).mono ?_
    rintro e w1 ⟨rfl, hb⟩
    have b1 := A1.out.below hb A1.out.lt
    have b2 := A2.out.below hb A2.out.lt
    have hbb := Hbl.out.trans (hb.mono Hbl.out.size)
    have Hbb := Lib.hid hbb
    obtain ⟨e0, e1, e2, e3, e5, e4⟩ := b1
    obtain ⟨d0, d1, d2, d3, d5, d4⟩ := b2
    have z0 := d5 0; have z1 := d5 1; have z2 := d5 2; have z3 := d5 3
    clear hb hbb A1 A2 Hbl d5 e5
    go_wp2_with fail
    exact bodyPost_ret (v := .agg #[.int .i64 k, .int .i64 n, .string s, .int .u64 f]) (by simp [results, Tryz.results90, go_sem, d0, d1, d2, d3]) rfl ⟨rfl, (((Hbb.out.setCell (by simp) _).setCell (by simp) _).setCell (by simp) _).setCell (by simp) _⟩
  | false =>
    rw [hb] at Hr
    simp only [Bool.false_eq_true, if_false, zeroVal]
    clear hb
    go_enter Tryz.func90, Tryz.ntmps90
    go_wp2_with fail
    refine (Hr.out _).mono ?_
    rintro e w1 ⟨rfl, hb⟩
    have b1 := A1.out.below hb A1.out.lt
    have b2 := A2.out.below hb A2.out.lt
    have hbb := Hbl.out.trans (hb.mono Hbl.out.size)
    have Hbb := Lib.hid hbb
    obtain ⟨e0, e1, e2, e3, e5, e4⟩ := b1
    obtain ⟨d0, d1, d2, d3, d5, d4⟩ := b2
    have z0 := d5 0; have z1 := d5 1; have z2 := d5 2; have z3 := d5 3
    clear hb hbb A1 A2 Hbl d5 e5
    go_wp2_with fail
    exact bodyPost_ret (v := .agg #[.int .i64 0, .int .i64 0, .string ⟨#[]⟩, .int .u64 0]) (by simp [results, Tryz.results90, go_sem, d0, d1, d2, d3]) rfl ⟨rfl, (((Hbb.out.setCell (by simp) _).setCell (by simp) _).setCell (by simp) _).setCell (by simp) _⟩
/-- two values lie in two blocks of the call's own -/
structure Duo (w W : World) (A : Nat) (a b : Val) : Prop where
  one : At W A a.k a.n a.s a.f
  two : At W (A + 1) b.k b.n b.s b.f
  bel : Below A w W
theorem Duo.below {w W W' : World} {A : Nat} {a b : Val} (h : Duo w W A a b) (hb : Below W.heap.size W W') : Duo w W' A a b :=
  ⟨h.one.below hb h.one.lt, h.two.below hb h.two.lt, h.bel.trans (hb.mono (Nat.le_of_lt h.one.lt))⟩
theorem Duo.drew {w W : World} {A : Nat} {a b : Val} (h : Duo w W A a b) : Duo w W.drew A a b := h.below (Below.refl _ _).drew
theorem Duo.new (w : World) (a b : Val) : Duo w ((w.alloc (.cells #[.int .i64 a.k, .int .i64 a.n, .string a.s, .int .u64 a.f] 26)).alloc (.cells #[.int .i64 b.k, .int .i64 b.n, .string b.s, .int .u64 b.f] 26)) w.heap.size a b where
  one := (At.new w a.k a.n a.s a.f 26).alloc _
  two := by
    have := At.new (w.alloc (.cells #[.int .i64 a.k, .int .i64 a.n, .string a.s, .int .u64 a.f] 26)) b.k b.n b.s b.f 26
    rwa [show (w.alloc (.cells #[.int .i64 a.k, .int .i64 a.n, .string a.s, .int .u64 a.f] 26)).heap.size = w.heap.size + 1 from by simp] at this
  bel := ((Below.refl _ _).alloc (Nat.le_refl _) _).alloc (by simp) _
/-- a value stored over a block -/
def storeV (W : World) (b : Nat) (x : Val) : World := (((W.setCell ⟨b, 0, none⟩ (.int .i64 x.k)).setCell ⟨b, 1, none⟩ (.int .i64 x.n)).setCell ⟨b, 2, none⟩ (.string x.s)).setCell ⟨b, 3, none⟩ (.int .u64 x.f)
theorem cell_at {w : World} {p q : Addr} {v u : Value} (h : w.cell? q = some u) (e : p = q) : (w.setCell p v).cell? q = some v := by
  subst e
  exact World.cell?_setCell_same _ _ _ h
theorem cell_off {w : World} {p q : Addr} {v u : Value} (h : w.cell? q = some u) (e : p ≠ q) : (w.setCell p v).cell? q = some u := by
  rw [World.cell?_setCell_other _ _ _ _ e]
  exact h
theorem At.store {W : World} {b : Nat} {k n : Int} {s : ByteArray} {f : Int} (h : At W b k n s f) (x : Val) : At (storeV W b x) b x.k x.n x.s x.f := by
  obtain ⟨h0, h1, h2, h3, hz, hl⟩ := h
  have ne : ∀ i j : Nat, i ≠ j → (⟨b, i, none⟩ : Addr) ≠ ⟨b, j, none⟩ := fun i j e h => by injection h with _ h; exact e h
  refine ⟨?_, ?_, ?_, ?_, ?_, ?_⟩
  · exact cell_off (cell_off (cell_off (cell_at h0 rfl) (ne 1 0 (by decide))) (ne 2 0 (by decide))) (ne 3 0 (by decide))
  · exact cell_off (cell_off (cell_at (cell_off h1 (ne 0 1 (by decide))) rfl) (ne 2 1 (by decide))) (ne 3 1 (by decide))
  · exact cell_off (cell_at (cell_off (cell_off h2 (ne 0 2 (by decide))) (ne 1 2 (by decide))) rfl) (ne 3 2 (by decide))
  · exact cell_at (cell_off (cell_off (cell_off h3 (ne 0 3 (by decide))) (ne 1 3 (by decide))) (ne 2 3 (by decide))) rfl
  · intro o
    unfold storeV
    rw [World.frozen?_setCell, World.frozen?_setCell, World.frozen?_setCell, World.frozen?_setCell]
    exact hz o
  · simpa [storeV, World.setCell] using hl
theorem At.other {W : World} {b c : Nat} {k n : Int} {s : ByteArray} {f : Int} (h : At W c k n s f) (hbc : b ≠ c) (x : Val) : At (storeV W b x) c k n s f := by
  obtain ⟨h0, h1, h2, h3, hz, hl⟩ := h
  have ne : ∀ i j : Nat, (⟨b, i, none⟩ : Addr) ≠ ⟨c, j, none⟩ := fun i j h => by injection h with h _; exact hbc h
  refine ⟨?_, ?_, ?_, ?_, ?_, ?_⟩
  · exact cell_off (cell_off (cell_off (cell_off h0 (ne _ _)) (ne _ _)) (ne _ _)) (ne _ _)
  · exact cell_off (cell_off (cell_off (cell_off h1 (ne _ _)) (ne _ _)) (ne _ _)) (ne _ _)
  · exact cell_off (cell_off (cell_off (cell_off h2 (ne _ _)) (ne _ _)) (ne _ _)) (ne _ _)
  · exact cell_off (cell_off (cell_off (cell_off h3 (ne _ _)) (ne _ _)) (ne _ _)) (ne _ _)
  · intro o
    unfold storeV
    rw [World.frozen?_setCell, World.frozen?_setCell, World.frozen?_setCell, World.frozen?_setCell]
    exact hz o
  · simpa [storeV, World.setCell] using hl
theorem below_store {B : Nat} {w W : World} {b : Nat} (h : Below B w W) (hb : B ≤ b) (x : Val) : Below B w (storeV W b x) :=
  (((h.setCell hb _).setCell hb _).setCell hb _).setCell hb _
theorem Duo.store {w W : World} {A : Nat} {a b : Val} (h : Duo w W A a b) (x y : Val) : Duo w (storeV (storeV W A x) (A + 1) y) A x y where
  one := (h.one.store x).other (by omega) y
  two := (h.two.other (by omega) x).store y
  bel := below_store (below_store h.bel (Nat.le_refl _) x) (by omega) y
end Go.Proofs.YtfkghfmgeholeaaGreatDoor
namespace Go.Proofs.YtfkghfmgeholeaaGreatDoor
open Go.RowKit

/-- the first that is not nought -/
def orL : List Int → Int
  | [] => 0
  | c :: cs => if c = 0 then orL cs else c
set_option maxRecDepth 100000 in
theorem or_any (W : World) (B : Nat) (l : List Int) (N : Nat) (hN : l.length = N) (hN2 : N ≤ 100) (hc : ∀ t v, l[t]? = some v → W.cell? ⟨B, t, none⟩ = some (.int .i64 v)) :
    Calls Tryz.prog 92 #[.slice (some ⟨B, 0, none⟩) N N] W fun e w' => e = .returned (.int .i64 (orL l)) ∧ w' = W := by
  have Hc := Lib.hid hc; clear hc
  have HN := Lib.hid hN; clear hN
  go_enter Tryz.func92, Tryz.ntmps92
  go_wp2_with fail
  go_loopg [8] N (fun mm i wr => ∃ (t : Nat) (I : Int), t + mm = N ∧ Hid (I = (t : Int) ∧ orL l = orL (l.drop t)) ∧ i = .int .i64 I ∧ wr = W)
  case atStart => exact ⟨0, 0, by omega, Lib.hid ⟨rfl, rfl⟩, rfl, rfl⟩
  case round =>
    obtain ⟨t, I, ht, HI, rfl, hw⟩ := hrel
    have hI0 : 0 ≤ I := by have := HI.out.1; omega
    by_cases hm : gk = 0
    · have hI1 : ¬ I < (N : Int) := by have := HI.out.1; omega
      have hz : orL l = 0 := by
        rw [HI.out.2, List.drop_eq_nil_of_le (by rw [HN.out]; omega)]; rfl
      have Hz := Lib.hid hz
      clear hm ht hz
      subst hw
      go_wp2_with fail
      go_ret
      exact ⟨by rw [Hz.out]; rfl, rfl⟩
    · have hI1 : I < (N : Int) := by have := HI.out.1; omega
      have htl : t < l.length := by rw [HN.out]; omega
      have hcell := Hc.out t l[t] (List.getElem?_eq_getElem htl)
      have hIt : I.toNat = t := by have := HI.out.1; omega
      have hdr : orL l = if l[t] = 0 then orL (l.drop (t + 1)) else l[t] := by
        rw [HI.out.2, List.drop_eq_getElem_cons htl]; rfl
      generalize l[t] = c at *
      have Hdr := Lib.hid hdr
      have Ht := Lib.hid ht; have Hm := Lib.hid hm
      subst hw
      clear hdr ht hm htl
      by_cases h0 : c = 0
      · subst h0
        have Hd2 := Lib.hid (show orL l = orL (l.drop (t + 1)) from by rw [Hdr.out, if_pos rfl])
        clear Hdr
        go_wp2_with fail
        go_roundg (N - (t + 1))
        case measure => have := Ht.out; have := Hm.out; omega
        case rel => exact ⟨t + 1, I + 1, by have := Ht.out; have := Hm.out; omega, Lib.hid ⟨by have := HI.out.1; omega, Hd2.out⟩, by go_num, rfl⟩
      · have Hd2 := Lib.hid (show orL l = c from by rw [Hdr.out, if_neg h0])
        have hne : (c != 0) = true := by rw [bne_iff_ne]; exact h0
        clear Hdr
        go_wp2_with fail
        go_ret
        exact ⟨by rw [Hd2.out]; rfl, rfl⟩
end Go.Proofs.YtfkghfmgeholeaaGreatDoor
namespace Go.Proofs.YtfkghfmgeholeaaGreatDoor
open Go.RowKit

def cmpXi (x y : Val) : Int := if x.k ≠ y.k ∨ x.k = 0 then 0 else if x.k = 4 then cmpF x.f.toNat y.f.toNat else orL [Lib.compareInt x.n y.n, Lib.compareBytes x.s.data.toList y.s.data.toList]
def cmpXb (x y : Val) : Bool := if x.k ≠ y.k ∨ x.k = 0 then false else if x.k = 4 then !(nanW x.f.toNat || nanW y.f.toNat) else true
set_option maxHeartbeats 8000000 in
set_option maxRecDepth 100000 in
theorem compareV_any (w : World) (a b : Val) :
    Calls Tryz.prog 76 #[a.v, b.v] w fun e w' => e = .returned (.tuple #[.int .i64 (cmpXi (rightOf a) (rightOf b)), .bool (cmpXb (rightOf a) (rightOf b))]) ∧ Below w.heap.size w w' := by
  have ht := Duo.new w a b
  have HA : Hid (∀ W, Duo w W w.heap.size a b → Calls Tryz.prog 90 #[a.v] W fun e w' => e = .returned (rightOf a).v ∧ Duo w w' w.heap.size a b) := Lib.hid fun W h => (rightof_any W a).mono fun e w' q => ⟨q.1, h.below q.2⟩
  have HB : Hid (∀ W, Duo w W w.heap.size a b → Calls Tryz.prog 90 #[b.v] W fun e w' => e = .returned (rightOf b).v ∧ Duo w w' w.heap.size a b) := Lib.hid fun W h => (rightof_any W b).mono fun e w' q => ⟨q.1, h.below q.2⟩
  generalize rightOf a = x at *
  generalize rightOf b = y at *
  obtain ⟨ak, an, sa, af⟩ := a
  obtain ⟨bk, bn, sb, bf⟩ := b
  obtain ⟨xk, xn, sx, xf⟩ := x
  obtain ⟨yk, yn, sy, yf⟩ := y
  simp only [Val.v] at HA HB ht ⊢
  have Ht := Lib.hid ht; clear ht
  have hi : cmpXi ⟨xk, xn, sx, xf⟩ ⟨yk, yn, sy, yf⟩ = if xk ≠ yk ∨ xk = 0 then 0 else if xk = 4 then cmpF xf.toNat yf.toNat else orL [Lib.compareInt xn yn, Lib.compareBytes sx.data.toList sy.data.toList] := rfl
  have hb : cmpXb ⟨xk, xn, sx, xf⟩ ⟨yk, yn, sy, yf⟩ = if xk ≠ yk ∨ xk = 0 then false else if xk = 4 then !(nanW xf.toNat || nanW yf.toNat) else true := rfl
  have Hi := Lib.hid hi; have Hb := Lib.hid hb
  clear hi hb
  generalize cmpXi ⟨xk, xn, sx, xf⟩ ⟨yk, yn, sy, yf⟩ = ri at *
  generalize cmpXb ⟨xk, xn, sx, xf⟩ ⟨yk, yn, sy, yf⟩ = rb at *
  go_enter Tryz.func76, Tryz.ntmps76
  go_wp2_with fail
  generalize (w.alloc _).alloc _ = W0 at Ht ⊢
  generalize hA : w.heap.size = A at *
  have Hd := Lib.hid Ht.out.drew
  go_cut [] (fun wx => Duo w wx A ⟨xk, xn, sx, xf⟩ ⟨yk, yn, sy, yf⟩)
  case first =>
    have hd := Ht.out
    obtain ⟨⟨e0, e1, e2, e3, e5, e4⟩, ⟨d0, d1, d2, d3, d5, d4⟩, hbl⟩ := hd
    have y0 := e5 0; have y1 := e5 1; have y2 := e5 2; have y3 := e5 3
    have z0 := d5 0; have z1 := d5 1; have z2 := d5 2; have z3 := d5 3
    clear e5 d5 hbl
    go_region_with (first
    | (go_at_call_of 90 (Value.agg #[.int .i64 ak, .int .i64 an, .string sa, .int .u64 af])
       refine (HA.out _ (by first | exact Ht.out | exact Hd.out | assumption)).mono ?_
       rintro e w1 ⟨rfl, hh⟩
       have h1 := hh
       obtain ⟨⟨e0, e1, e2, e3, e5, e4⟩, ⟨d0, d1, d2, d3, d5, d4⟩, hbl⟩ := h1
       have y0 := e5 0; have y1 := e5 1; have y2 := e5 2; have y3 := e5 3
       have z0 := d5 0; have z1 := d5 1; have z2 := d5 2; have z3 := d5 3
       clear e5 d5 hbl)
    | (go_at_call_of 90 (Value.agg #[.int .i64 bk, .int .i64 bn, .string sb, .int .u64 bf])
       refine (HB.out _ (by first | exact Ht.out | exact Hd.out | assumption)).mono ?_
       rintro e w1 ⟨rfl, hh⟩
       have h1 := hh
       obtain ⟨⟨e0, e1, e2, e3, e5, e4⟩, ⟨d0, d1, d2, d3, d5, d4⟩, hbl⟩ := h1
       have y0 := e5 0; have y1 := e5 1; have y2 := e5 2; have y3 := e5 3
       have z0 := d5 0; have z1 := d5 1; have z2 := d5 2; have z3 := d5 3
       clear e5 d5 hbl))
    all_goals
      go_wp2_with fail
      go_meet
      exact Duo.store (by assumption) ⟨xk, xn, sx, xf⟩ ⟨yk, yn, sy, yf⟩
  case rest =>
    obtain ⟨⟨e0, e1, e2, e3, e5, e4⟩, ⟨d0, d1, d2, d3, d5, d4⟩, hbl⟩ := hcut
    have Hbl := Lib.hid hbl
    rw [← hA] at Hbl
    have HwA := Lib.hid hA
    clear e5 d5 hbl hA HA HB Ht Hd
    simp only at e0 e1 e2 e3 d0 d1 d2 d3
    by_cases h1 : xk = yk
    · subst h1
      by_cases h0 : xk = 0
      · have hi2 : ri = 0 := by rw [Hi.out, if_pos (.inr h0)]
        have hb2 : rb = false := by rw [Hb.out, if_pos (.inr h0)]
        subst h0
        subst hi2
        subst hb2
        clear Hi Hb
        go_wp2_with fail
        go_ret2
        exact ⟨rfl, Hbl.out⟩
      · have hi2 := Hi.out
        have hb2 := Hb.out
        rw [if_neg (by simp [h0])] at hi2 hb2
        have k0 : (xk == 0) = false := by rw [beq_eq_false_iff_ne]; exact h0
        by_cases h4 : xk = 4
        · rw [if_pos h4] at hi2 hb2
          subst h4
          have Hi2 := Lib.hid hi2
          have Hb2 := Lib.hid hb2
          have Hc : Hid (∀ W : World, Calls Tryz.prog 91 #[.int .u64 xf, .int .u64 yf] W fun e w' => e = .returned (.tuple #[.int .i64 (cmpF xf.toNat yf.toNat), .bool (!(nanW xf.toNat || nanW yf.toNat))]) ∧ W = w') := Lib.hid fun W => compare_any W xf yf
          clear Hi Hb hi2 hb2
          generalize cmpF xf.toNat yf.toNat = c at *
          generalize (!(nanW xf.toNat || nanW yf.toNat)) = ok at *
          go_wp2_with fail
          refine (Hc.out wc).mono ?_
          rintro e w2 ⟨rfl, rfl⟩
          go_wp2_with fail
          go_ret2
          exact ⟨by rw [Hi2.out, Hb2.out]; rfl, Hbl.out⟩
        · rw [if_neg h4] at hi2 hb2
          subst hb2
          have k4 : (xk == 4) = false := by rw [beq_eq_false_iff_ne]; exact h4
          have Hi2 := Lib.hid hi2
          have Hc1 : Hid (∀ W : World, Calls Tryz.prog 93 #[.int .i64 xn, .int .i64 yn] W fun e w' => e = .returned (.int .i64 (Lib.compareInt xn yn)) ∧ w' = W) := Lib.hid fun W => Tryz.cmp_Compare_int xn yn W
          have Hc2 : Hid (∀ W : World, Calls Tryz.prog 94 #[.string sx, .string sy] W fun e w' => e = .returned (.int .i64 (Lib.compareBytes sx.data.toList sy.data.toList)) ∧ w' = W) := Lib.hid fun W => Tryz.strings_Compare sx sy W
          clear Hi Hb hi2
          generalize Lib.compareInt xn yn = c1 at *
          generalize Lib.compareBytes sx.data.toList sy.data.toList = c2 at *
          go_wp2_with fail
          go_region_held3 (fun w' => w'.cell? ⟨A, 1, none⟩ = some (.int .i64 xn) ∧ w'.cell? ⟨A, 2, none⟩ = some (.string sx) ∧ w'.cell? ⟨A + 1, 1, none⟩ = some (.int .i64 yn) ∧ w'.cell? ⟨A + 1, 2, none⟩ = some (.string sy)) (go_keep)
            (first
              | (go_at_call 93; refine (Hc1.out _).mono ?_; rintro e w' ⟨rfl, rfl⟩)
              | (go_at_call 94; refine (Hc2.out _).mono ?_; rintro e w' ⟨rfl, rfl⟩)
              | (go_at_call 92; refine (or_any _ _ [c1, c2] 2 rfl (by decide) ?_).mono ?_; (intro t v hv; rcases t with _ | _ | t <;> simp_all); rintro e w' ⟨rfl, rfl⟩))
          all_goals
            go_wp2_with fail
            go_ret2
            exact ⟨by rw [Hi2.out]; rfl, (Hbl.out.alloc Hbl.out.size _).drew⟩
    · have hi2 : ri = 0 := by rw [Hi.out, if_pos (.inl h1)]
      have hb2 : rb = false := by rw [Hb.out, if_pos (.inl h1)]
      have k1 : (xk != yk) = true := by rw [bne_iff_ne]; exact h1
      subst hi2
      subst hb2
      clear Hi Hb
      go_wp2_with fail
      go_ret2
      exact ⟨rfl, Hbl.out⟩
end Go.Proofs.YtfkghfmgeholeaaGreatDoor
namespace Go.Proofs.YtfkghfmgeholeaaGreatDoor
open Go.RowKit

theorem right_f (x : Val) (h0 : 0 ≤ x.f) (h1 : x.f < 18446744073709551616) : 0 ≤ (rightOf x).f ∧ (rightOf x).f < 18446744073709551616 := by
  unfold rightOf
  split
  · exact ⟨h0, h1⟩
  · exact ⟨by decide, by decide⟩
def ordX (x y : Val) : Int := orL [cmp3 x.k y.k, Lib.compareInt x.n y.n, Lib.compareBytes x.s.data.toList y.s.data.toList, ordF x.f y.f]
end Go.Proofs.YtfkghfmgeholeaaGreatDoor
namespace Go.Proofs.YtfkghfmgeholeaaGreatDoor
open Go.RowKit

inductive RightC (x : Val) : Prop where
  | null (k : x.k = 0) (n : x.n = 0) (s : x.s = ⟨#[]⟩) (f : x.f = 0)
  | int (k : x.k = 1) (s : x.s = ⟨#[]⟩) (f : x.f = 0)
  | bool (k : x.k = 2) (s : x.s = ⟨#[]⟩) (f : x.f = 0) (n : x.n = 0 ∨ x.n = 1)
  | bytes (k : x.k = 3) (n : x.n = 0) (f : x.f = 0) (s : x.s.size ≤ 64)
  | float (k : x.k = 4) (n : x.n = 0) (s : x.s = ⟨#[]⟩) (f : canonF x.f = x.f)
theorem empty_of {s : ByteArray} (h : s.toList = []) : s = ⟨#[]⟩ := by
  rw [ByteArray.toList_eq] at h
  exact bytes_eq h
theorem right_cases {x : Val} (h : rightB x = true) : RightC x := by
  unfold rightB at h
  by_cases h1 : x.k = 1
  · rw [if_pos h1] at h
    simp only [Bool.and_eq_true, decide_eq_true_eq] at h
    exact .int h1 (empty_of h.1) h.2
  rw [if_neg h1] at h
  by_cases h2 : x.k = 2
  · rw [if_pos h2] at h
    simp only [Bool.and_eq_true, decide_eq_true_eq] at h
    exact .bool h2 (empty_of h.1.1) h.1.2 h.2
  rw [if_neg h2] at h
  by_cases h3 : x.k = 3
  · rw [if_pos h3] at h
    simp only [Bool.and_eq_true, decide_eq_true_eq] at h
    exact .bytes h3 h.1.1 h.1.2 h.2
  rw [if_neg h3] at h
  by_cases h4 : x.k = 4
  · rw [if_pos h4] at h
    simp only [Bool.and_eq_true, decide_eq_true_eq] at h
    exact .float h4 h.1.1 (empty_of h.1.2) h.2
  rw [if_neg h4] at h
  simp only [Bool.and_eq_true, decide_eq_true_eq] at h
  exact .null h.1.1.1 h.1.1.2 (empty_of h.1.2) h.2
theorem right_right (x : Val) : rightB (rightOf x) = true := by
  unfold rightOf
  split
  · assumption
  · decide +kernel
theorem right_self {x : Val} (h : rightB x = true) : rightOf x = x := by unfold rightOf; rw [if_pos h]
theorem rightC (x : Val) : RightC (rightOf x) := right_cases (right_right x)
theorem compareInt_eq (a b : Int) : Lib.compareInt a b = cmp3 a b := rfl
theorem cmp3_self (a : Int) : cmp3 a a = 0 := by unfold cmp3; rw [if_neg (by omega), if_neg (by omega)]
theorem cmp3_ne {a b : Int} (h : a ≠ b) : cmp3 a b ≠ 0 := by unfold cmp3; split <;> (try split) <;> omega
theorem cmpB_nil : Lib.compareBytes [] [] = 0 := rfl
theorem ordF_self (a : Int) : ordF a a = 0 := cmp3_self _
theorem orL_last (a : Int) : orL [a] = a := by unfold orL; split <;> simp_all [orL]
theorem orL_zero (l : List Int) : orL (0 :: l) = orL l := by simp [orL]
theorem orL_pos {a : Int} (h : a ≠ 0) (l : List Int) : orL (a :: l) = a := by simp [orL, h]
theorem orL_zeros (a : Int) : orL [a, 0] = a := by
  by_cases h : a = 0
  · subst h; rfl
  · exact orL_pos h _
theorem orL_zeros2 (a : Int) : orL [a, 0, 0] = a := by
  by_cases h : a = 0
  · subst h; rfl
  · exact orL_pos h _
def cmpRi (x y : Val) : Int := if x.k = 0 ∨ x.k ≠ y.k then 0 else if x.k = 4 then cmpF x.f.toNat y.f.toNat else if x.k = 3 then Lib.compareBytes x.s.data.toList y.s.data.toList else cmp3 x.n y.n
theorem cmpX_eq {x y : Val} (hx : RightC x) (hy : RightC y) : cmpXi x y = cmpRi x y := by
  unfold cmpXi cmpRi
  by_cases h : x.k ≠ y.k ∨ x.k = 0
  · rw [if_pos h, if_pos h.symm]
  · rw [if_neg h, if_neg (fun e : x.k = 0 ∨ x.k ≠ y.k => h e.symm)]
    have hk : x.k = y.k := by omega
    by_cases h4 : x.k = 4
    · rw [if_pos h4, if_pos h4]
    · rw [if_neg h4, if_neg h4, compareInt_eq]
      by_cases h3 : x.k = 3
      · rw [if_pos h3]
        have hxn : x.n = 0 := by rcases hx with ⟨k, n, s, f⟩ | ⟨k, s, f⟩ | ⟨k, s, f, n⟩ | ⟨k, n, f, s⟩ | ⟨k, n, s, f⟩ <;> first | exact n | omega
        have hyn : y.n = 0 := by rcases hy with ⟨k, n, s, f⟩ | ⟨k, s, f⟩ | ⟨k, s, f, n⟩ | ⟨k, n, f, s⟩ | ⟨k, n, s, f⟩ <;> first | exact n | omega
        rw [hxn, hyn, cmp3_self, orL_zero, orL_last]
      · rw [if_neg h3]
        have hxs : x.s = ⟨#[]⟩ := by rcases hx with ⟨k, n, s, f⟩ | ⟨k, s, f⟩ | ⟨k, s, f, n⟩ | ⟨k, n, f, s⟩ | ⟨k, n, s, f⟩ <;> first | exact s | omega
        have hys : y.s = ⟨#[]⟩ := by rcases hy with ⟨k, n, s, f⟩ | ⟨k, s, f⟩ | ⟨k, s, f, n⟩ | ⟨k, n, f, s⟩ | ⟨k, n, s, f⟩ <;> first | exact s | omega
        rw [hxs, hys, cmpB_nil, orL_zeros]
def ordRi (x y : Val) : Int := if x.k ≠ y.k then cmp3 x.k y.k else if x.k = 4 then ordF x.f y.f else cmpRi x y
theorem ordX_eq {x y : Val} (hx : RightC x) (hy : RightC y) : ordX x y = ordRi x y := by
  unfold ordX ordRi
  by_cases hk : x.k = y.k
  · rw [if_neg (by simp [hk]), hk, cmp3_self, orL_zero, compareInt_eq]
    have hz : ∀ z : Val, RightC z → z.k ≠ 3 → z.s = ⟨#[]⟩ := by
      intro z hz h3
      rcases hz with ⟨k, n, s, f⟩ | ⟨k, s, f⟩ | ⟨k, s, f, n⟩ | ⟨k, n, f, s⟩ | ⟨k, n, s, f⟩ <;> first | exact s | omega
    have hn : ∀ z : Val, RightC z → z.k ≠ 1 → z.k ≠ 2 → z.n = 0 := by
      intro z hz h1 h2
      rcases hz with ⟨k, n, s, f⟩ | ⟨k, s, f⟩ | ⟨k, s, f, n⟩ | ⟨k, n, f, s⟩ | ⟨k, n, s, f⟩ <;> first | exact n | omega
    have hf : ∀ z : Val, RightC z → z.k ≠ 4 → z.f = 0 := by
      intro z hz h4
      rcases hz with ⟨k, n, s, f⟩ | ⟨k, s, f⟩ | ⟨k, s, f, n⟩ | ⟨k, n, f, s⟩ | ⟨k, n, s, f⟩ <;> first | exact f | omega
    by_cases h4 : y.k = 4
    · rw [if_pos h4, hn x hx (by omega) (by omega), hn y hy (by omega) (by omega), hz x hx (by omega), hz y hy (by omega), cmp3_self, orL_zero, cmpB_nil, orL_zero, orL_last]
    · rw [if_neg h4, hf x hx (by omega), hf y hy h4, ordF_self]
      unfold cmpRi
      rw [hk]
      by_cases h0 : y.k = 0
      · rw [if_pos (.inl h0), hn x hx (by omega) (by omega), hn y hy (by omega) (by omega), hz x hx (by omega), hz y hy (by omega), cmp3_self]
        rfl
      · rw [if_neg (by simp [h0]), if_neg h4]
        by_cases h3 : y.k = 3
        · rw [if_pos h3, hn x hx (by omega) (by omega), hn y hy (by omega) (by omega), cmp3_self, orL_zero, orL_zeros]
        · rw [if_neg h3, hz x hx (by omega), hz y hy h3, cmpB_nil, orL_zeros2]
  · rw [if_pos hk, orL_pos (cmp3_ne hk)]
end Go.Proofs.YtfkghfmgeholeaaGreatDoor
namespace Go.Proofs.YtfkghfmgeholeaaGreatDoor
open Go.RowKit

abbrev encB (l : List UInt8) : List Value := l.map fun b => .int .u8 (b.toNat : Int)
/-- a slice of bytes that the call owns -/
structure Buf (w wr : World) (v : Value) (l : List UInt8) : Prop where
  below : Below w.heap.size w wr
  own : wr.ownsRow w.heap.size 5 1 v l.length (encB l)
theorem Buf.start (w : World) : Buf w w (.slice none 0 0) [] := ⟨Below.refl _ _, rfl, .inl ⟨rfl, rfl⟩⟩
theorem own_later {W w1 : World} {base : Nat} {e : TypeId} {size : Nat} {v : Value} {n : Nat} {xs : List Value} (h : W.ownsRow base e size v n xs) (hb : Below W.heap.size W w1) : w1.ownsRow base e size v n xs :=
  h.kept ⟨hb.os, hb.tape, hb.output, hb.size, fun k hk _ => hb.block k hk⟩ (row := none) (by cases v.ownBlock <;> simp)
theorem Buf.later {w wr W : World} {v : Value} {l : List UInt8} (h : Buf w wr v l) (hb : Below wr.heap.size wr W) : Buf w W v l :=
  ⟨h.below.trans (hb.mono h.below.size), own_later h.own hb⟩
theorem infoU8 : (Tryz.prog.info? 5).map (fun i => (i.zero, i.size, i.bytes)) = some (some (.int .u8 0), 1, 1) := by kernel_rfl
theorem info_parts {t : TypeId} {z : Value} {s b : Nat} (h : (Tryz.prog.info? t).map (fun i => (i.zero, i.size, i.bytes)) = some (some z, s, b)) : ∃ i, Tryz.prog.info? t = some i ∧ i.zero = some z ∧ i.size = s ∧ i.bytes = b := by
  cases hi : Tryz.prog.info? t with
  | none => rw [hi] at h; cases h
  | some i =>
    rw [hi] at h
    simp at h
    exact ⟨i, rfl, h.1, h.2.1, h.2.2⟩
theorem encB_get (bs : List UInt8) (j : Nat) (u : Value) (h : (encB bs)[j]? = some u) : u.oneCell' = true := by
  unfold encB at h
  rw [List.getElem?_map] at h
  cases hb : bs[j]? with
  | none => rw [hb] at h; cases h
  | some b => rw [hb] at h; simp at h; subst h; rfl
theorem buf_appended {w wr W w1 : World} {v : Value} {l bs : List UInt8} {g cap : Nat} (hB : Buf w wr v l) (hb : Below wr.heap.size wr W) (h1 : w1.ownsRow w.heap.size 5 1 (.slice (some ⟨g, 0, none⟩) (l.length + bs.length) cap) (l.length + bs.length) (encB l ++ encB bs)) (h2 : W.grownBy w1 v.ownBlock) : Buf w w1 (.slice (some ⟨g, 0, none⟩) (l.length + bs.length) cap) (l ++ bs) := by
  refine ⟨?_, ?_⟩
  · refine (hB.below.trans (hb.mono hB.below.size)).grown h2 (Nat.le_trans hB.below.size hb.size) ?_
    intro k hk
    exact (hB.own.lt k hk).1
  · rw [List.length_append, show encB (l ++ bs) = encB l ++ encB bs from List.map_append]
    exact h1
theorem step_bytes {ops : Array Oper} {o : Oper} {a : Act} {K : Act → World → Prop} {Q : Exit → Act → World → Prop} {E : Prop} {W : World} (hgd : o.guard = none) (s x : Operand)
    (ho : o.op = .call { callee := .builtin .append, args := #[s, x], argTypes := #[169, 169] })
    (w wr : World) (v : Value) (l bs : List UInt8) (B m : Nat) (hB : Buf w wr v l) (hm : bs.length = m) (hpos : 0 < m) (hlen : l.length + m ≤ 1000000)
    (hb : Below wr.heap.size wr W) (hc : ∀ j u, (encB bs)[j]? = some u → W.cell? ((⟨B, 0, none⟩ : Addr).add j) = some u)
    (hs : a.eval s = v) (hx : a.eval x = .slice (some ⟨B, 0, none⟩) m m)
    (h : ∀ g cap w1, Buf w w1 (.slice (some ⟨g, 0, none⟩) (l.length + m) cap) (l ++ bs) → K (a.put o.dst (.slice (some ⟨g, 0, none⟩) (l.length + m) cap)) w1) :
    if Region.wanted o (yielded ops a.tmps) = true then Oper.wp Tryz.prog o a W K Q else E := by
  subst hm
  obtain ⟨i0, hi0, hz0, hz1, hz2⟩ := info_parts infoU8
  refine step_append_lies (P := Tryz.prog) W hgd s x 169 ho w.heap.size 5 i0 _ 1 1 Tryz.underlying169 hi0 hz0 hz1 hz2 rfl (by decide) v l.length (encB l) hs (own_later hB.own hb)
    ⟨B, 0, none⟩ bs.length bs.length (encB bs) hx (by simp [encB]) hc ?_ hpos (by unfold maxLen; omega) (by omega) (Nat.le_trans hB.below.size hb.size) W.heap.size rfl ?_
  · intro u hu
    obtain ⟨j, hj⟩ := List.getElem?_of_mem hu
    exact encB_get bs j u hj
  · intro g cap w1 h1 h2 h3 h4
    exact h g cap w1 (buf_appended hB hb h1 h2)
theorem wpList_bytes {ops : Array Oper} {rest : List Oper} {o : Oper} {a : Act} {Q : Exit → Act → World → Prop} {W : World} (hgd : o.guard = none) (s x : Operand)
    (ho : o.op = .call { callee := .builtin .append, args := #[s, x], argTypes := #[169, 169] })
    (w wr : World) (v : Value) (l bs : List UInt8) (B m : Nat) (hB : Buf w wr v l) (hm : bs.length = m) (hpos : 0 < m) (hlen : l.length + m ≤ 1000000)
    (hb : Below wr.heap.size wr W) (hc : ∀ j u, (encB bs)[j]? = some u → W.cell? ((⟨B, 0, none⟩ : Addr).add j) = some u)
    (hs : a.eval s = v) (hx : a.eval x = .slice (some ⟨B, 0, none⟩) m m)
    (h : ∀ g cap w1, Buf w w1 (.slice (some ⟨g, 0, none⟩) (l.length + m) cap) (l ++ bs) → wpList Tryz.prog ops Q rest (a.put o.dst (.slice (some ⟨g, 0, none⟩) (l.length + m) cap)) w1) : wpList Tryz.prog ops Q (o :: rest) a W := by
  subst hm
  obtain ⟨i0, hi0, hz0, hz1, hz2⟩ := info_parts infoU8
  refine wpList_append_lies (P := Tryz.prog) W hgd s x 169 ho w.heap.size 5 i0 _ 1 1 Tryz.underlying169 hi0 hz0 hz1 hz2 rfl (by decide) v l.length (encB l) hs (own_later hB.own hb)
    ⟨B, 0, none⟩ bs.length bs.length (encB bs) hx (by simp [encB]) hc ?_ hpos (by unfold maxLen; omega) (by omega) (Nat.le_trans hB.below.size hb.size) W.heap.size rfl ?_
  · intro u hu
    obtain ⟨j, hj⟩ := List.getElem?_of_mem hu
    exact encB_get bs j u hj
  · intro g cap w1 h1 h2 h3 h4
    exact h g cap w1 (buf_appended hB hb h1 h2)
theorem Buf.text {w wr : World} {v : Value} {l : List UInt8} (h : Buf w wr v l) : (convert 169 9 v).run Tryz.prog wr = .ok (.string ⟨l.toArray⟩) wr := by
  have ho := h.own
  rcases h.own.2 with ⟨hv, hn⟩ | ⟨g, cap, cur, hv, _⟩
  · have : l = [] := List.eq_nil_of_length_eq_zero hn
    subst this
    subst hv
    rw [run_convert_bytes_string wr 169 9 5 none 0 0 Tryz.underlying169 Tryz.underlying5 Tryz.underlying9]
    rfl
  · subst hv
    refine run_convert_bytes_back (P := Tryz.prog) wr 169 9 5 ⟨g, 0, none⟩ cap l Tryz.underlying169 Tryz.underlying5 Tryz.underlying9 ?_
    intro j hj
    refine ho.cells rfl j _ ?_
    unfold encB
    rw [List.getElem?_map, List.getElem?_eq_getElem hj]
    rfl
theorem Buf.form {w wr : World} {v : Value} {l : List UInt8} (h : Buf w wr v l) : ∃ g cap, v = .slice g l.length cap := by
  rcases h.own.2 with ⟨hv, hn⟩ | ⟨g, cap, cur, hv, _⟩
  · exact ⟨none, 0, by rw [hv, hn]⟩
  · exact ⟨_, _, hv⟩
theorem alloc_cells (W : World) (bs : List UInt8) (arr : Array Value) (t : TypeId) (h : arr.toList = encB bs) : ∀ j u, (encB bs)[j]? = some u → (W.alloc (.cells arr t)).cell? ((⟨W.heap.size, 0, none⟩ : Addr).add j) = some u := by
  intro j u hj
  have : (⟨W.heap.size, 0, none⟩ : Addr).add j = ⟨W.heap.size, j, none⟩ := by
    unfold Addr.add; split <;> simp_all
  rw [this, World.cell?_alloc_at _ _ _ _ rfl]
  rw [← h] at hj
  simpa using hj
end Go.Proofs.YtfkghfmgeholeaaGreatDoor
namespace Go.Proofs.YtfkghfmgeholeaaGreatDoor
open Go.RowKit

/-- two digits a byte -/
def hexL : List UInt8 → List UInt8
  | [] => []
  | c :: cs => dig (c.toNat / 16) :: dig (c.toNat % 16) :: hexL cs
theorem hexL_append (a b : List UInt8) : hexL (a ++ b) = hexL a ++ hexL b := by
  induction a with
  | nil => rfl
  | cons c cs ih => show _ :: _ :: hexL (cs ++ b) = _; rw [ih]; rfl
theorem hexL_length (a : List UInt8) : (hexL a).length = 2 * a.length := by
  induction a with
  | nil => rfl
  | cons c cs ih => show (hexL cs).length + 1 + 1 = 2 * (cs.length + 1); omega
theorem take_snoc {l : List UInt8} {j : Nat} {c : UInt8} (h : l[j]? = some c) : l.take (j + 1) = l.take j ++ [c] := by
  rw [List.take_add_one, h]; rfl
theorem byte_at (s : ByteArray) (j : Nat) (h : j < s.size) : s.data.toList[j]? = some s[j] := by
  rw [List.getElem?_eq_getElem (by rw [← Lib.size_eq]; exact h)]
  rfl
theorem and15b (c : UInt8) : bits BinOp.and .u8 (c.toNat : Int) 15 = ((c.toNat % 16 : Nat) : Int) := by
  have h := (bits_nat .u8 8 (by decide) wraps_u8 c.toNat 15 c.toNat_lt (by decide)).1
  rw [show (15 : Nat) = 2 ^ 4 - 1 from by decide, Nat.and_two_pow_sub_one_eq_mod] at h
  exact h
set_option maxHeartbeats 8000000 in
set_option maxRecDepth 100000 in
theorem hex_any (w : World) (s : ByteArray) (hs : s.size ≤ 100000) :
    Calls Tryz.prog 116 #[.string s] w fun e w' => e = .returned (.string ⟨(hexL s.data.toList).toArray⟩) ∧ Below w.heap.size w w' := by
  obtain ⟨N, hN⟩ : ∃ N, s.size = N := ⟨_, rfl⟩
  obtain ⟨l, hl⟩ : ∃ l, l = s.data.toList := ⟨_, rfl⟩
  have hlN : l.length = N := by rw [hl, ← hN, Lib.size_eq]
  rw [← hl]
  have Hl := Lib.hid hl; have HlN := Lib.hid hlN
  clear hl hlN
  have hN2 : N ≤ 100000 := by omega
  have HN2 := Lib.hid hN2
  clear hs hN2
  have hNi : (N : Int) ≤ 100000 := by have := HN2.out; omega
  go_enter Tryz.func116, Tryz.ntmps116
  go_wp2_with fail
  go_loopg [3, 7] N (fun mm v i wr => ∃ (j : Nat) (I : Int), j + mm = N ∧ Hid (I = (j : Int)) ∧ i = .int .i64 I ∧ Buf w wr v (hexL (l.take j)))
  case atStart => exact ⟨0, 0, by omega, Lib.hid rfl, rfl, Buf.start w⟩
  case round =>
    obtain ⟨j, I, hj, HI, rfl, hb⟩ := hrel
    have hI0 : 0 ≤ I := by have := HI.out; omega
    have Hb := Lib.hid hb; clear hb
    obtain ⟨g, cap, hv⟩ := Hb.out.form
    by_cases hm : gk = 0
    · have hjN : j = N := by omega
      have hI1 : ¬ I < (N : Int) := by have := HI.out; omega
      have ht := Hb.out.text
      have hall : hexL (l.take j) = hexL l := by rw [List.take_of_length_le (by rw [HlN.out, hjN]; exact Nat.le_refl _)]
      rw [hall] at ht
      clear hm hj hjN hall hv
      go_wp2_with fail
      go_ret
      exact ⟨rfl, Hb.out.below⟩
    · have hjN : j < N := by omega
      have hI1 : I < (N : Int) := by have := HI.out; omega
      have hIj : I.toNat = j := by have := HI.out; omega
      have hjs : j < s.size := by omega
      obtain ⟨c, hc⟩ : ∃ c, s[j] = c := ⟨_, rfl⟩
      have hlc : l[j]? = some c := by rw [Hl.out, byte_at s j hjs, hc]
      obtain ⟨hi, hhi⟩ : ∃ hi, c.toNat / 16 = hi := ⟨_, rfl⟩
      obtain ⟨lo, hlo⟩ : ∃ lo, c.toNat % 16 = lo := ⟨_, rfl⟩
      have hc256 := c.toNat_lt
      have hhi16 : hi < 16 := by omega
      have hlo16 : lo < 16 := by omega
      have hhs : hi < digits16.size := by rw [digits16_size]; exact hhi16
      have hls : lo < digits16.size := by rw [digits16_size]; exact hlo16
      have a1 := digit16_at hi hhi16 hhs
      have a2 := digit16_at lo hlo16 hls
      have hand := and15b c
      rw [hlo] at hand
      have hdiv : (c.toNat : Int) / 16 = (hi : Int) := by omega
      have hi3 : (hi : Int) < 16 := by omega
      have lo3 : (lo : Int) < 16 := by omega
      have hstep : hexL (l.take j) ++ [dig hi, dig lo] = hexL (l.take (j + 1)) := by
        rw [take_snoc hlc, hexL_append, ← hhi, ← hlo]; rfl
      have Hstep := Lib.hid hstep
      have hlen : (hexL (l.take j)).length + 2 ≤ 1000000 := by
        have := HN2.out
        rw [hexL_length, List.length_take]; omega
      have Hlen := Lib.hid hlen
      have Hj := Lib.hid hj; have Hm := Lib.hid hm
      clear hstep hlen hj hm hlc hhi hlo hv
      go_wp2_with fail
      go_region_law (refine step_bytes rfl (.tmp 10) (.tmp 21) rfl w wr _ _ [dig hi, dig lo] wr.heap.size 2 Hb.out rfl (by decide) Hlen.out (((Below.refl _ _).drew).alloc (Nat.le_refl _) _) (alloc_cells wr.drew [dig hi, dig lo] _ _ rfl) rfl rfl ?_; intro g2 cap2 w1 hb1; have Hb1 := Lib.hid hb1; clear hb1)
      all_goals
        go_wp2_with fail
        go_roundg (N - (j + 1))
        case measure => have := Hj.out; have := Hm.out; omega
        case rel => exact ⟨j + 1, I + 1, by have := Hj.out; have := Hm.out; omega, Lib.hid (by have := HI.out; omega), by go_num, by rw [← Hstep.out]; exact Hb1.out⟩

/-- the value of a digit, or -1 -/
def nibV (c : UInt8) : Int := Lib.indexByte [48, 49, 50, 51, 52, 53, 54, 55, 56, 57, 97, 98, 99, 100, 101, 102] c
/-- what pairs of digits say, up to the first that is none -/
def unhexL : List UInt8 → List UInt8
  | a :: b :: r => if nibV a < 0 ∨ nibV b < 0 then [] else UInt8.ofNat ((nibV a).toNat * 16 + (nibV b).toNat) :: unhexL r
  | _ => []
theorem index_lt (l : List UInt8) (c : UInt8) : Lib.indexByte l c < l.length := by
  induction l with
  | nil => simp [Lib.indexByte]
  | cons b l ih =>
    unfold Lib.indexByte
    simp only [List.length_cons]
    split
    · omega
    · split
      · omega
      · omega
theorem nibV_range (c : UInt8) : -1 ≤ nibV c ∧ nibV c < 16 := ⟨Lib.indexByte_ge _ _, by have := index_lt [48, 49, 50, 51, 52, 53, 54, 55, 56, 57, 97, 98, 99, 100, 101, 102] c; simpa [nibV] using this⟩
theorem or16 (a b : Nat) (ha : a < 16) (hb : b < 16) : bits BinOp.or .i64 ((a : Int) * 16) (b : Int) = ((a * 16 + b : Nat) : Int) := by
  have h := (bits_nat .i64 62 (by decide) (fun n h0 h1 => by rw [IntKind.wrap_i64]; omega) (a * 16) b (by omega) (by omega)).2
  have h2 : a * 16 ||| b = a * 16 + b := by
    have := Nat.shiftLeft_add_eq_or_of_lt (i := 4) (b := b) (by omega) a
    rw [Nat.shiftLeft_eq] at this
    exact this.symm
  rw [h2] at h
  rw [← h]
  congr 1
set_option maxHeartbeats 8000000 in
set_option maxRecDepth 100000 in
theorem unhex_any (w : World) (s : ByteArray) (hs : s.size ≤ 100000) :
    Calls Tryz.prog 111 #[.string s] w fun e w' => e = .returned (.string ⟨(unhexL s.data.toList).toArray⟩) ∧ Below w.heap.size w w' := by
  obtain ⟨N, hN⟩ : ∃ N, s.size = N := ⟨_, rfl⟩
  obtain ⟨l, hl⟩ : ∃ l, l = s.data.toList := ⟨_, rfl⟩
  have hlN : l.length = N := by rw [hl, ← hN, Lib.size_eq]
  rw [← hl]
  have Hl := Lib.hid hl; have HlN := Lib.hid hlN
  clear hl hlN
  have hN2 : N ≤ 100000 := by omega
  have HN2 := Lib.hid hN2
  clear hs hN2
  have hNi : (N : Int) ≤ 100000 := by have := HN2.out; omega
  go_enter Tryz.func111, Tryz.ntmps111
  go_wp2_with fail
  go_loopg [3, 4] (N + 1) (fun mm v i wr => ∃ (j : Nat) (I : Int) (acc : List UInt8), j + mm = N + 1 ∧ Hid (I = (j : Int) ∧ acc ++ unhexL (l.drop j) = unhexL l ∧ acc.length ≤ j) ∧ i = .int .i64 I ∧ Buf w wr v acc)
  case atStart => exact ⟨0, 0, [], by omega, Lib.hid ⟨rfl, rfl, Nat.le_refl _⟩, rfl, Buf.start w⟩
  case round =>
    obtain ⟨j, I, acc, hj, HI, rfl, hb⟩ := hrel
    have hI0 : 0 ≤ I := by have := HI.out.1; omega
    have hI9 : I ≤ 100001 := by have := HI.out.1; have := HN2.out; omega
    have Hb := Lib.hid hb; clear hb
    by_cases hm : N ≤ j + 1
    · have hI1 : ¬ I + 1 < (N : Int) := by have := HI.out.1; omega
      have hz : unhexL (l.drop j) = [] := by
        have hlen : (l.drop j).length ≤ 1 := by rw [List.length_drop, HlN.out]; omega
        match l.drop j, hlen with
        | [], _ => rfl
        | [_], _ => rfl
      have hall : acc = unhexL l := by rw [← HI.out.2.1, hz, List.append_nil]
      have ht := Hb.out.text
      rw [hall] at ht
      clear hm hj hz hall
      go_wp2_with fail
      go_ret
      exact ⟨rfl, Hb.out.below⟩
    · have hI1 : I + 1 < (N : Int) := by have := HI.out.1; omega
      have hIa : I < (N : Int) := by omega
      have hIj : I.toNat = j := by have := HI.out.1; omega
      have hIj2 : (I + 1).toNat = j + 1 := by have := HI.out.1; omega
      have hjs : j < s.size := by omega
      have hjs2 : j + 1 < s.size := by omega
      obtain ⟨a, ha⟩ : ∃ a, s[j] = a := ⟨_, rfl⟩
      obtain ⟨b, hb⟩ : ∃ b, s[j + 1] = b := ⟨_, rfl⟩
      have hla : l[j]? = some a := by rw [Hl.out, byte_at s j hjs, ha]
      have hlb : l[j + 1]? = some b := by rw [Hl.out, byte_at s (j + 1) hjs2, hb]
      have hdrop : l.drop j = a :: b :: l.drop (j + 2) := by
        have l1 : j < l.length := by rw [HlN.out]; omega
        have l2 : j + 1 < l.length := by rw [HlN.out]; omega
        rw [List.getElem?_eq_getElem l1] at hla
        rw [List.getElem?_eq_getElem l2] at hlb
        rw [List.drop_eq_getElem_cons l1, List.drop_eq_getElem_cons l2, Option.some.inj hla, Option.some.inj hlb]
      have hun : unhexL (l.drop j) = if nibV a < 0 ∨ nibV b < 0 then [] else UInt8.ofNat ((nibV a).toNat * 16 + (nibV b).toNat) :: unhexL (l.drop (j + 2)) := by rw [hdrop]; rfl
      have Hun := Lib.hid hun
      have ra := nibV_range a
      have rb := nibV_range b
      have Na : Hid (∀ W : World, Calls Tryz.prog 122 #[.string ⟨#[48, 49, 50, 51, 52, 53, 54, 55, 56, 57, 97, 98, 99, 100, 101, 102]⟩, .int .u8 (a.toNat : Int)] W fun e w' => e = .returned (.int .i64 (nibV a)) ∧ w' = W) := Lib.hid fun W => by
        have := Tryz.strings_IndexByte ⟨#[48, 49, 50, 51, 52, 53, 54, 55, 56, 57, 97, 98, 99, 100, 101, 102]⟩ (a.toNat : Int) W
        rwa [show ((a.toNat : Int).toNat.toUInt8) = a from by rw [Int.toNat_natCast]; exact UInt8.ofNat_toNat] at this
      have Nb : Hid (∀ W : World, Calls Tryz.prog 122 #[.string ⟨#[48, 49, 50, 51, 52, 53, 54, 55, 56, 57, 97, 98, 99, 100, 101, 102]⟩, .int .u8 (b.toNat : Int)] W fun e w' => e = .returned (.int .i64 (nibV b)) ∧ w' = W) := Lib.hid fun W => by
        have := Tryz.strings_IndexByte ⟨#[48, 49, 50, 51, 52, 53, 54, 55, 56, 57, 97, 98, 99, 100, 101, 102]⟩ (b.toNat : Int) W
        rwa [show ((b.toNat : Int).toNat.toUInt8) = b from by rw [Int.toNat_natCast]; exact UInt8.ofNat_toNat] at this
      clear hun hdrop hla hlb
      generalize nibV a = x at *
      generalize nibV b = y at *
      have Hj := Lib.hid hj; have Hm := Lib.hid hm
      have hwr : IntKind.i64.wrap (I + 1) = I + 1 := by rw [IntKind.wrap_i64]; omega
      clear hj hm
      by_cases hneg : x < 0 ∨ y < 0
      · have hall : acc = unhexL l := by rw [← HI.out.2.1, Hun.out, if_pos hneg, List.append_nil]
        have ht : ∀ q, (convert 169 9 u3).run Tryz.prog (wr.drewN q) = .ok (.string ⟨(unhexL l).toArray⟩) (wr.drewN q) := by
          intro q
          have := (Hb.out.later (below_drewN (Below.refl _ _) q)).text
          rwa [hall] at this
        clear hall
        by_cases hx : x < 0
        · clear hneg
          go_wp2_with fail
          go_quiet ((first | (go_at_call_of 122 (Value.int .u8 (a.toNat : Int)); exact Calls.quiet_of_same (Na.out _)) | (go_at_call 122; exact Calls.quiet_of_same (Nb.out _)) | (go_at_call 122; exact Calls.quiet_of_same (Na.out _))))
          go_wp2_with fail
          go_ret
          exact ⟨rfl, below_drewN Hb.out.below nq⟩
        · have hx0 : 0 ≤ x := by omega
          have hy : y < 0 := by omega
          clear hneg
          go_wp2_with fail
          go_quiet ((first | (go_at_call_of 122 (Value.int .u8 (a.toNat : Int)); exact Calls.quiet_of_same (Na.out _)) | (go_at_call 122; exact Calls.quiet_of_same (Nb.out _)) | (go_at_call 122; exact Calls.quiet_of_same (Na.out _))))
          go_wp2_with fail
          go_ret
          exact ⟨rfl, below_drewN Hb.out.below nq⟩
      · have hx0 : 0 ≤ x := by omega
        have hy0 : 0 ≤ y := by omega
        have hun2 := Hun.out
        rw [if_neg hneg] at hun2
        have hst := HI.out.2.1
        rw [hun2] at hst
        obtain ⟨p, hp⟩ : ∃ p : Nat, x = p := ⟨x.toNat, by omega⟩
        obtain ⟨q, hq⟩ : ∃ q : Nat, y = q := ⟨y.toNat, by omega⟩
        have hor := or16 p q (by omega) (by omega)
        rw [← hp, ← hq] at hor
        obtain ⟨z, hz⟩ : ∃ z : UInt8, z = UInt8.ofNat (x.toNat * 16 + y.toNat) := ⟨_, rfl⟩
        have hzn : (z.toNat : Int) = ((p * 16 + q : Nat) : Int) := by
          rw [hz, UInt8.toNat_ofNat', hp, hq, Int.toNat_natCast, Int.toNat_natCast]
          omega
        rw [← hz] at hst
        rw [← hzn] at hor
        have hz0 : 0 ≤ (z.toNat : Int) := by omega
        have hz1 : (z.toNat : Int) < 256 := by have := z.toNat_lt; omega
        have hst2 : acc ++ [z] ++ unhexL (l.drop (j + 2)) = unhexL l := by rw [List.append_assoc]; exact hst
        have Hst := Lib.hid hst2
        have hal : acc.length + 1 ≤ 1000000 := by have := HI.out.2.2; have := HN2.out; omega
        have Hal := Lib.hid hal
        clear hst hst2 hal hun2 hp hq hz hzn hneg Hun
        have hx16 := ra.2
        have hy16 := rb.2
        generalize hZ : (z.toNat : Int) = Z at *
        have HZ := Lib.hid hZ
        clear hZ
        go_wp2_with fail
        go_quiet ((first | (go_at_call_of 122 (Value.int .u8 (a.toNat : Int)); exact Calls.quiet_of_same (Na.out _)) | (go_at_call 122; exact Calls.quiet_of_same (Nb.out _)) | (go_at_call 122; exact Calls.quiet_of_same (Na.out _))))
        go_wp2_with (at_builtin; refine wpList_bytes rfl (.tmp 29) (.tmp 35) rfl w wr _ _ [z] wr.heap.size 1 Hb.out rfl (by decide) Hal.out ((below_drewN (Below.refl _ _) nq).alloc (Nat.le_refl _) _) (alloc_cells (wr.drewN nq) [z] _ _ (by simp [encB, HZ.out])) rfl rfl ?_; intro g2 cap2 w1 hb1; have Hb1 := Lib.hid hb1; clear hb1)
        go_roundg (N - (j + 1))
        case measure => have := Hj.out; have := Hm.out; omega
        case rel => exact ⟨j + 2, I + 2, acc ++ [z], by have := Hj.out; have := Hm.out; omega, Lib.hid ⟨by have := HI.out.1; omega, Hst.out, by rw [List.length_append]; have := HI.out.2.2; simp; omega⟩, by go_num, Hb1.out⟩
end Go.Proofs.YtfkghfmgeholeaaGreatDoor
namespace Go.Proofs.YtfkghfmgeholeaaGreatDoor
open Go.RowKit

abbrev tTrue : List UInt8 := [116, 114, 117, 101]
abbrev tFalse : List UInt8 := [102, 97, 108, 115, 101]
abbrev tNull : List UInt8 := [110, 117, 108, 108]
/-- the text of a value that is right -/
def printVL (v : Val) : List UInt8 :=
  if v.k = 1 then Lib.itoa v.n else if v.k = 2 then (if v.n = 1 then tTrue else tFalse) else if v.k = 3 then 120 :: hexL v.s.data.toList else if v.k = 4 then printL v.f.toNat else tNull
theorem itoaFull_any (w : World) (hl : Laid w) (n : Int) (h0 : -9223372036854775808 ≤ n) (h1 : n ≤ 9223372036854775807) : Calls Tryz.prog 114 #[.int .i64 n] w fun e w' => e = .returned (.string ⟨(Lib.itoa n).toArray⟩) ∧ Below w.heap.size w w' := by
  refine (Tryz.strconv_Itoa n h0 h1 w hl.tab).mono ?_
  rintro e w' ⟨rfl, k, os, rfl⟩
  exact ⟨rfl, grow_below w k os⟩
theorem formatBool_any (w : World) (b : Bool) : Calls Tryz.prog 115 #[.bool b] w fun e w' => e = .returned (.string ⟨(if b then tTrue else tFalse).toArray⟩) ∧ w' = w := by
  have h := Tryz.strconv_FormatBool b w
  have hf : Lib.formatBool b = if b then tTrue else tFalse := by cases b <;> rfl
  rwa [hf] at h
theorem right_s (x : Val) (h : (rightOf x).k = 3) : (rightOf x).s.size ≤ 64 := by
  unfold rightOf at *
  by_cases hr : rightB x = true
  · rw [if_pos hr] at h ⊢
    unfold rightB at hr
    rw [if_neg (by omega), if_neg (by omega), if_pos h] at hr
    simp only [Bool.and_eq_true, decide_eq_true_eq] at hr
    exact hr.2
  · rw [if_neg hr] at h
    cases h
theorem right_wf (x : Val) (h : x.Wf) : (rightOf x).Wf := by
  unfold rightOf
  split
  · exact h
  · exact ⟨by decide, by decide, by decide, by decide, by decide, by decide⟩
set_option maxHeartbeats 8000000 in
set_option maxRecDepth 100000 in
theorem printV_any (w : World) (hl : Laid w) (x : Val) (hw : x.Wf) :
    Calls Tryz.prog 103 #[x.v] w fun e w' => e = .returned (.string ⟨(printVL (rightOf x)).toArray⟩) ∧ Below w.heap.size w w' := by
  have Hl := Lib.hid hl; clear hl
  have Hr : Hid (∀ W : World, Calls Tryz.prog 90 #[x.v] W fun e w' => e = .returned (rightOf x).v ∧ Below W.heap.size W w') := Lib.hid fun W => rightof_any W x
  have hw2 := right_wf x hw
  have hs3 := right_s x
  have hat := At.new w x.k x.n x.s x.f 26
  have hbw : Below w.heap.size w (w.alloc (.cells #[.int .i64 x.k, .int .i64 x.n, .string x.s, .int .u64 x.f] 26)) := (Below.refl _ _).alloc (Nat.le_refl _) _
  generalize rightOf x = y at *
  obtain ⟨xk, xn, sx, xf⟩ := x
  obtain ⟨k, n, s, f⟩ := y
  obtain ⟨-, -, n0, n1, f0, f1⟩ := hw2
  have hp : printVL ⟨k, n, s, f⟩ = if k = 1 then Lib.itoa n else if k = 2 then (if n = 1 then tTrue else tFalse) else if k = 3 then 120 :: hexL s.data.toList else if k = 4 then printL f.toNat else tNull := rfl
  have HX := Lib.hid hp
  generalize printVL ⟨k, n, s, f⟩ = Z at *
  clear hp hw
  simp only [Val.v] at *
  have Hat := Lib.hid hat; have Hbw := Lib.hid hbw
  clear hat hbw
  go_enter Tryz.func103, Tryz.ntmps103
  go_wp2_with fail
  generalize (w.alloc _) = W0 at Hat Hbw ⊢
  generalize hA : w.heap.size = A at *
  refine (Hr.out W0).mono ?_
  rintro e w1 ⟨rfl, hb⟩
  have a1 := Hat.out.below hb Hat.out.lt
  have a2 := a1.store ⟨k, n, s, f⟩
  have b2 : Below A w (storeV w1 A ⟨k, n, s, f⟩) := below_store (Hbw.out.trans (hb.mono (Nat.le_of_lt Hat.out.lt))) (Nat.le_refl _) _
  have z0 := a1.z 0; have z1 := a1.z 1; have z2 := a1.z 2; have z3 := a1.z 3
  obtain ⟨e0, e1, e2, e3, -, -⟩ := a1
  unfold storeV at a2 b2
  have Ha2 := Lib.hid a2; have Hb2 := Lib.hid b2
  clear a2 b2 hb
  go_upto_region 2 with fail
  generalize World.setCell (World.setCell (World.setCell (World.setCell _ _ _) _ _) _ _) _ _ = W2 at Ha2 Hb2 ⊢
  clear z0 z1 z2 z3 e0 e1 e2 e3 Hat Hbw Hr
  obtain ⟨e0, e1, e2, e3, -, -⟩ := Ha2.out
  have Hb3 := Hb2
  rw [← hA] at Hb3
  have HL2 := Lib.hid (Hl.out.below Hb3.out)
  clear Hb2 Ha2 hA
  by_cases h1 : k = 1
  · subst h1
    have hx := HX.out
    rw [if_pos rfl] at hx
    have HZ := Lib.hid hx
    clear hx HX
    have Hc := Lib.hid (itoaFull_any W2 HL2.out n n0 n1)
    clear hs3 n0 n1 f0 f1
    generalize Lib.itoa n = X at *
    go_wp2_with fail
    refine Hc.out.mono ?_
    rintro e w3 ⟨rfl, hb⟩
    have hbb := Hb3.out.trans (hb.mono Hb3.out.size)
    go_wp2_with fail
    go_ret
    exact ⟨by rw [HZ.out]; rfl, hbb⟩
  have k1 : (k == 1) = false := by rw [beq_eq_false_iff_ne]; exact h1
  have hx := HX.out
  rw [if_neg h1] at hx
  by_cases h2 : k = 2
  · subst h2
    rw [if_pos rfl] at hx
    by_cases hn : n = 1
    · subst hn
      rw [if_pos rfl] at hx
      have HZ := Lib.hid hx
      clear hx HX
      have Hc := Lib.hid (formatBool_any W2 true)
      clear hs3 n0 n1 f0 f1 k1 h1
      go_wp2_with fail
      refine Hc.out.mono ?_
      rintro e w3 ⟨rfl, rfl⟩
      go_wp2_with fail
      go_ret
      exact ⟨by rw [HZ.out]; rfl, Hb3.out⟩
    · rw [if_neg hn] at hx
      have HZ := Lib.hid hx
      clear hx HX
      have hn2 : (n == 1) = false := by rw [beq_eq_false_iff_ne]; exact hn
      have Hc := Lib.hid (formatBool_any W2 false)
      clear hs3 n0 n1 f0 f1 k1 h1 hn
      go_wp2_with fail
      refine Hc.out.mono ?_
      rintro e w3 ⟨rfl, rfl⟩
      go_wp2_with fail
      go_ret
      exact ⟨by rw [HZ.out]; rfl, Hb3.out⟩
  have k2 : (k == 2) = false := by rw [beq_eq_false_iff_ne]; exact h2
  rw [if_neg h2] at hx
  by_cases h3 : k = 3
  · subst h3
    rw [if_pos rfl] at hx
    have HZ := Lib.hid hx
    clear hx HX
    have hs := hs3 rfl
    have Hc := Lib.hid (hex_any W2 s (by omega))
    have hadd := add_lists [120] (hexL s.data.toList) (by rw [hexL_length, ← Lib.size_eq]; simp; omega)
    generalize hexL s.data.toList = X at *
    clear hs3 n0 n1 f0 f1 k1 h1 k2 h2 hs
    go_wp2_with fail
    refine Hc.out.mono ?_
    rintro e w3 ⟨rfl, hb⟩
    have hbb := Hb3.out.trans (hb.mono Hb3.out.size)
    go_wp2_with fail
    go_ret
    exact ⟨by rw [HZ.out]; rfl, hbb⟩
  have k3 : (k == 3) = false := by rw [beq_eq_false_iff_ne]; exact h3
  rw [if_neg h3] at hx
  by_cases h4 : k = 4
  · subst h4
    rw [if_pos rfl] at hx
    have HZ := Lib.hid hx
    clear hx HX
    have Hc := Lib.hid (print_any W2 HL2.out f f0 f1)
    generalize printL f.toNat = X at *
    clear hs3 n0 n1 f0 f1 k1 h1 k2 h2 k3 h3
    go_wp2_with fail
    refine Hc.out.mono ?_
    rintro e w3 ⟨rfl, hb⟩
    have hbb := Hb3.out.trans (hb.mono Hb3.out.size)
    go_wp2_with fail
    go_ret
    exact ⟨by rw [HZ.out]; rfl, hbb⟩
  have k4 : (k == 4) = false := by rw [beq_eq_false_iff_ne]; exact h4
  rw [if_neg h4] at hx
  have HZ := Lib.hid hx
  clear hx HX
  clear hs3 n0 n1 f0 f1
  go_wp2_with fail
  go_ret
  exact ⟨by rw [HZ.out]; rfl, Hb3.out⟩

/-! ### a text read -/
def ErrEnds (w w' : World) (e : Ending) : Prop := ∃ (n : Int) (tp : TypeId) (p : Value), e = .returned (.tuple #[.int .i64 n, .iface tp p]) ∧ Below w.heap.size w w'
theorem atoi_some (w : World) (s : ByteArray) (hs : s.size ≤ 281474976710656) (v : Int) (h : Lib.atoiAll s.data.toList = .ok v) :
    Calls Tryz.prog 113 #[.string s] w fun e w' => e = .returned (.tuple #[.int .i64 v, .nilIface]) ∧ Below w.heap.size w w' := by
  refine (Tryz.strconv_Atoi_ok s (by omega) v h w).mono ?_
  rintro e w' ⟨rfl, rfl | ⟨t, rfl⟩⟩
  · exact ⟨rfl, Below.refl _ _⟩
  · exact ⟨rfl, Lib.bytesWorld_below w 5 t⟩
theorem atoi_none (w : World) (hl : Laid w) (s : ByteArray) (hs : s.size ≤ 281474976710656) (h : ∀ v, Lib.atoiAll s.data.toList ≠ .ok v) :
    Calls Tryz.prog 113 #[.string s] w fun e w' => ErrEnds w w' e := by
  cases hh : Lib.atoiAll s.data.toList with
  | ok v => exact absurd hh (h v)
  | range =>
    obtain ⟨ev, hev, hev2⟩ := er_cell hl
    refine (Tryz.strconv_Atoi_range s hs hh ev w hev hev2).mono ?_
    rintro e w2 ⟨N, rfl, _, _, hb⟩
    exact ⟨_, _, _, rfl, hb⟩
  | _ =>
    obtain ⟨ev, hev, hev2⟩ := es_cell hl
    refine (Any.strconv_Atoi_syntax Tryz.laysC172 s hs hh ev w hev hev2).mono ?_
    rintro e w2 ⟨N, rfl, _, _, hb⟩
    exact ⟨_, _, _, rfl, hb⟩
def atoiO (l : List UInt8) : Option Int := match Lib.atoiAll l with
  | .ok v => some v
  | _ => none
theorem atoiO_some {l : List UInt8} {v : Int} (h : atoiO l = some v) : Lib.atoiAll l = .ok v := by
  unfold atoiO at h
  split at h
  · rename_i u hu
    injection h with h
    rw [hu, h]
  · cases h
theorem atoiO_none {l : List UInt8} (h : atoiO l = none) : ∀ v, Lib.atoiAll l ≠ .ok v := by
  intro v hv
  unfold atoiO at h
  rw [hv] at h
  cases h
/-- the value that a text may be -/
def candVal (l : List UInt8) : Val :=
  if l = tFalse then ⟨2, 0, ⟨#[]⟩, 0⟩ else if l = tTrue then ⟨2, 1, ⟨#[]⟩, 0⟩ else if Lib.hasPrefix l [120] then ⟨3, 0, ⟨(unhexL (Lib.trimPrefix l [120])).toArray⟩, 0⟩
  else if parseOk l then ⟨4, 0, ⟨#[]⟩, parseV l⟩ else match atoiO l with
    | some v => ⟨1, v, ⟨#[]⟩, 0⟩
    | none => zeroVal
end Go.Proofs.YtfkghfmgeholeaaGreatDoor
namespace Go.Proofs.YtfkghfmgeholeaaGreatDoor
open Go.RowKit

theorem candVal_eq (l : List UInt8) : candVal l = if l = tFalse then ⟨2, 0, ⟨#[]⟩, 0⟩ else if l = tTrue then ⟨2, 1, ⟨#[]⟩, 0⟩ else if Lib.hasPrefix l [120] then ⟨3, 0, ⟨(unhexL (Lib.trimPrefix l [120])).toArray⟩, 0⟩
  else if parseOk l then ⟨4, 0, ⟨#[]⟩, parseV l⟩ else match atoiO l with
    | some v => ⟨1, v, ⟨#[]⟩, 0⟩
    | none => zeroVal := rfl
set_option maxHeartbeats 8000000 in
set_option maxRecDepth 100000 in
theorem candV_any (w : World) (hl : Laid w) (s : ByteArray) (hs : s.size ≤ 100000) :
    Calls Tryz.prog 102 #[.string s] w fun e w' => e = .returned (candVal s.data.toList).v ∧ Below w.heap.size w w' := by
  have hc := candVal_eq s.data.toList
  have hat := At.new w 0 0 ⟨#[]⟩ 0 26
  have hbw : Below w.heap.size w (w.alloc (.cells #[.int .i64 0, .int .i64 0, .string ⟨#[]⟩, .int .u64 0] 26)) := (Below.refl _ _).alloc (Nat.le_refl _) _
  have Hl := Lib.hid hl; have Hat := Lib.hid hat; have Hbw := Lib.hid hbw
  clear hl hat hbw
  by_cases k1 : s.data.toList = tFalse
  · rw [if_pos k1] at hc
    have Hc := Lib.hid (show (candVal s.data.toList).v = _ from congrArg Val.v hc)
    simp only [Val.v] at Hc ⊢
    generalize candVal s.data.toList = C at *
    obtain rfl := bytes_eq k1
    clear hc hs 
    go_enter Tryz.func102, Tryz.ntmps102
    go_upto_region 1 with fail
    generalize (w.alloc _) = W0 at Hat Hbw ⊢
    have at1 := Hat.out
    have z0 := at1.z 0; have z1 := at1.z 1; have z2 := at1.z 2; have z3 := at1.z 3
    obtain ⟨d0, d1, d2, d3, -, -⟩ := at1
    go_wp2_with fail
    exact bodyPost_ret (v := .agg #[.int .i64 2, .int .i64 0, .string ⟨#[]⟩, .int .u64 0]) (by simp [results, Tryz.results102, go_sem, d0, d1, d2, d3]) rfl ⟨by rw [Hc.out], ((((Hbw.out).setCell (Nat.le_refl _) _).setCell (Nat.le_refl _) _).setCell (Nat.le_refl _) _).setCell (Nat.le_refl _) _⟩
  rw [if_neg k1] at hc
  have b1 := bytes_ne k1
  by_cases k2 : s.data.toList = tTrue
  · rw [if_pos k2] at hc
    have Hc := Lib.hid (show (candVal s.data.toList).v = _ from congrArg Val.v hc)
    simp only [Val.v] at Hc ⊢
    generalize candVal s.data.toList = C at *
    obtain rfl := bytes_eq k2
    clear hc hs k1 b1
    go_enter Tryz.func102, Tryz.ntmps102
    go_upto_region 1 with fail
    generalize (w.alloc _) = W0 at Hat Hbw ⊢
    have at1 := Hat.out
    have z0 := at1.z 0; have z1 := at1.z 1; have z2 := at1.z 2; have z3 := at1.z 3
    obtain ⟨d0, d1, d2, d3, -, -⟩ := at1
    go_wp2_with fail
    exact bodyPost_ret (v := .agg #[.int .i64 2, .int .i64 1, .string ⟨#[]⟩, .int .u64 0]) (by simp [results, Tryz.results102, go_sem, d0, d1, d2, d3]) rfl ⟨by rw [Hc.out], ((((Hbw.out).setCell (Nat.le_refl _) _).setCell (Nat.le_refl _) _).setCell (Nat.le_refl _) _).setCell (Nat.le_refl _) _⟩
  rw [if_neg k2] at hc
  have b2 := bytes_ne k2
  have hcp := Tryz.strings_CutPrefix s ⟨#[120]⟩
  have Hcp : Hid (∀ W : World, Calls Tryz.prog 110 #[.string s, .string ⟨#[120]⟩] W fun e w' => e = .returned (.tuple #[.string ⟨(Lib.trimPrefix s.data.toList [120]).toArray⟩, .bool (Lib.hasPrefix s.data.toList [120])]) ∧ w' = W) := Lib.hid fun W => hcp W
  clear hcp
  cases hp : Lib.hasPrefix s.data.toList [120] with
  | true =>
    rw [if_pos hp] at hc
    rw [hp] at Hcp
    have hsz : (Lib.trimPrefix s.data.toList [120]).length ≤ 100000 := by
      have hl := Lib.size_eq s
      unfold Lib.trimPrefix
      rw [if_pos hp, List.length_drop]
      omega
    have Hu : Hid (∀ W : World, Calls Tryz.prog 111 #[.string ⟨(Lib.trimPrefix s.data.toList [120]).toArray⟩] W fun e w' => e = .returned (.string ⟨(unhexL (Lib.trimPrefix s.data.toList [120])).toArray⟩) ∧ Below W.heap.size W w') := Lib.hid fun W => unhex_any W ⟨(Lib.trimPrefix s.data.toList [120]).toArray⟩ (by simpa [ByteArray.size] using hsz)
    have Hc := Lib.hid (show (candVal s.data.toList).v = _ from congrArg Val.v hc)
    simp only [Val.v] at Hc ⊢
    generalize candVal s.data.toList = C at *
    generalize (⟨(unhexL (Lib.trimPrefix s.data.toList [120])).toArray⟩ : ByteArray) = U at *
    generalize (⟨(Lib.trimPrefix s.data.toList [120]).toArray⟩ : ByteArray) = T at *
    clear hc hs k1 k2 hp hsz
    go_enter Tryz.func102, Tryz.ntmps102
    go_upto_region 1 with fail
    generalize (w.alloc _) = W0 at Hat Hbw ⊢
    go_wp2_with fail
    refine (Hcp.out W0).mono ?_
    rintro e w1 ⟨rfl, rfl⟩
    go_wp2_with fail
    refine (Hu.out w1).mono ?_
    rintro e w2 ⟨rfl, hb⟩
    have Hb2 := Lib.hid (Hbw.out.trans (hb.mono Hbw.out.size))
    have at1 := Hat.out.below hb Hat.out.lt
    have z0 := at1.z 0; have z1 := at1.z 1; have z2 := at1.z 2; have z3 := at1.z 3
    obtain ⟨d0, d1, d2, d3, -, -⟩ := at1
    go_wp2_with fail
    exact bodyPost_ret (v := .agg #[.int .i64 3, .int .i64 0, .string U, .int .u64 0]) (by simp [results, Tryz.results102, go_sem, d0, d1, d2, d3]) rfl ⟨by rw [Hc.out], ((((Hb2.out).setCell (Nat.le_refl _) _).setCell (Nat.le_refl _) _).setCell (Nat.le_refl _) _).setCell (Nat.le_refl _) _⟩
  | false =>
    rw [if_neg (by simp [hp])] at hc
    rw [hp] at Hcp
    generalize (⟨(Lib.trimPrefix s.data.toList [120]).toArray⟩ : ByteArray) = T at *
    have Hp : Hid (∀ W : World, Laid W → Calls Tryz.prog 112 #[.string s] W fun e w' => e = .returned (.tuple #[.int .u64 (parseV s.data.toList), .bool (parseOk s.data.toList)]) ∧ Below W.heap.size W w') := Lib.hid fun W h => parse_any W h s (by omega)
    cases hok : parseOk s.data.toList with
    | true =>
      rw [if_pos hok] at hc
      rw [hok] at Hp
      have Hc := Lib.hid (show (candVal s.data.toList).v = _ from congrArg Val.v hc)
      simp only [Val.v] at Hc ⊢
      generalize candVal s.data.toList = C at *
      generalize parseV s.data.toList = F at *
      clear hc hs k1 k2 hp hok
      go_enter Tryz.func102, Tryz.ntmps102
      go_upto_region 1 with fail
      generalize (w.alloc _) = W0 at Hat Hbw ⊢
      go_wp2_with fail
      refine (Hcp.out W0).mono ?_
      rintro e w1 ⟨rfl, rfl⟩
      go_wp2_with fail
      refine (Hp.out w1 (Hl.out.below Hbw.out)).mono ?_
      rintro e w2 ⟨rfl, hb⟩
      have Hb2 := Lib.hid (Hbw.out.trans (hb.mono Hbw.out.size))
      have at1 := Hat.out.below hb Hat.out.lt
      have z0 := at1.z 0; have z1 := at1.z 1; have z2 := at1.z 2; have z3 := at1.z 3
      obtain ⟨d0, d1, d2, d3, -, -⟩ := at1
      go_wp2_with fail
      exact bodyPost_ret (v := .agg #[.int .i64 4, .int .i64 0, .string ⟨#[]⟩, .int .u64 F]) (by simp [results, Tryz.results102, go_sem, d0, d1, d2, d3]) rfl ⟨by rw [Hc.out], ((((Hb2.out).setCell (Nat.le_refl _) _).setCell (Nat.le_refl _) _).setCell (Nat.le_refl _) _).setCell (Nat.le_refl _) _⟩
    | false =>
      rw [if_neg (by simp [hok])] at hc
      rw [hok] at Hp
      generalize parseV s.data.toList = F at *
      cases ha : atoiO s.data.toList with
      | some v =>
        rw [ha] at hc
        have Ha : Hid (∀ W : World, Calls Tryz.prog 113 #[.string s] W fun e w' => e = .returned (.tuple #[.int .i64 v, .nilIface]) ∧ Below W.heap.size W w') := Lib.hid fun W => atoi_some W s (by omega) v (atoiO_some ha)
        have Hc := Lib.hid (show (candVal s.data.toList).v = _ from congrArg Val.v hc)
        simp only [Val.v] at Hc ⊢
        generalize candVal s.data.toList = C at *
        clear hc hs k1 k2 hp hok ha
        go_enter Tryz.func102, Tryz.ntmps102
        go_upto_region 1 with fail
        generalize (w.alloc _) = W0 at Hat Hbw ⊢
        go_wp2_with fail
        refine (Hcp.out W0).mono ?_
        rintro e w1 ⟨rfl, rfl⟩
        go_wp2_with fail
        refine (Hp.out w1 (Hl.out.below Hbw.out)).mono ?_
        rintro e w2 ⟨rfl, hb⟩
        have Hb2 := Lib.hid (Hbw.out.trans (hb.mono Hbw.out.size))
        have Hat2 := Lib.hid (Hat.out.below hb Hat.out.lt)
        clear hb
        go_wp2_with fail
        refine (Ha.out w2).mono ?_
        rintro e w3 ⟨rfl, hb⟩
        have Hb3 := Lib.hid (Hb2.out.trans (hb.mono Hb2.out.size))
        have at1 := Hat2.out.below hb Hat2.out.lt
        have z0 := at1.z 0; have z1 := at1.z 1; have z2 := at1.z 2; have z3 := at1.z 3
        obtain ⟨d0, d1, d2, d3, -, -⟩ := at1
        go_wp2_with fail
        exact bodyPost_ret (v := .agg #[.int .i64 1, .int .i64 v, .string ⟨#[]⟩, .int .u64 0]) (by simp [results, Tryz.results102, go_sem, d0, d1, d2, d3]) rfl ⟨by rw [Hc.out], ((((Hb3.out).setCell (Nat.le_refl _) _).setCell (Nat.le_refl _) _).setCell (Nat.le_refl _) _).setCell (Nat.le_refl _) _⟩
      | none =>
        rw [ha] at hc
        have Ha : Hid (∀ W : World, Laid W → Calls Tryz.prog 113 #[.string s] W fun e w' => ErrEnds W w' e) := Lib.hid fun W h => atoi_none W h s (by omega) (atoiO_none ha)
        have Hc := Lib.hid (show (candVal s.data.toList).v = _ from congrArg Val.v hc)
        simp only [Val.v, zeroVal] at Hc ⊢
        generalize candVal s.data.toList = C at *
        clear hc hs k1 k2 hp hok ha
        go_enter Tryz.func102, Tryz.ntmps102
        go_upto_region 1 with fail
        generalize (w.alloc _) = W0 at Hat Hbw ⊢
        go_wp2_with fail
        refine (Hcp.out W0).mono ?_
        rintro e w1 ⟨rfl, rfl⟩
        go_wp2_with fail
        refine (Hp.out w1 (Hl.out.below Hbw.out)).mono ?_
        rintro e w2 ⟨rfl, hb⟩
        have Hb2 := Lib.hid (Hbw.out.trans (hb.mono Hbw.out.size))
        have Hat2 := Lib.hid (Hat.out.below hb Hat.out.lt)
        clear hb
        go_wp2_with fail
        refine (Ha.out w2 (Hl.out.below Hb2.out)).mono ?_
        rintro e w3 ⟨n9, tp9, p9, rfl, hb⟩
        have Hb3 := Lib.hid (Hb2.out.trans (hb.mono Hb2.out.size))
        have at1 := Hat2.out.below hb Hat2.out.lt
        have z0 := at1.z 0; have z1 := at1.z 1; have z2 := at1.z 2; have z3 := at1.z 3
        obtain ⟨d0, d1, d2, d3, -, -⟩ := at1
        go_wp2_with fail
        exact bodyPost_ret (v := .agg #[.int .i64 0, .int .i64 0, .string ⟨#[]⟩, .int .u64 0]) (by simp [results, Tryz.results102, go_sem, d0, d1, d2, d3]) rfl ⟨by rw [Hc.out], ((((Hb3.out).setCell (Nat.le_refl _) _).setCell (Nat.le_refl _) _).setCell (Nat.le_refl _) _).setCell (Nat.le_refl _) _⟩
end Go.Proofs.YtfkghfmgeholeaaGreatDoor
namespace Go.Proofs.YtfkghfmgeholeaaGreatDoor
open Go.RowKit

theorem parseV_range (l : List UInt8) : 0 ≤ parseV l ∧ parseV l < 18446744073709551616 := by
  unfold parseV
  split
  · exact candV_range l
  · omega
theorem wf_small (k n : Int) (s : ByteArray) (f : Int) (h1 : 0 ≤ k) (h2 : k ≤ 4) (h3 : -9223372036854775808 ≤ n) (h4 : n ≤ 9223372036854775807) (h5 : 0 ≤ f) (h6 : f < 18446744073709551616) : (Val.mk k n s f).Wf :=
  ⟨by show -9223372036854775808 ≤ k; omega, by show k ≤ 9223372036854775807; omega, h3, h4, h5, h6⟩
theorem candVal_wf (l : List UInt8) : (candVal l).Wf := by
  unfold candVal
  split
  · exact wf_small _ _ _ _ (by omega) (by omega) (by omega) (by omega) (by omega) (by omega)
  · split
    · exact wf_small _ _ _ _ (by omega) (by omega) (by omega) (by omega) (by omega) (by omega)
    · split
      · exact wf_small _ _ _ _ (by omega) (by omega) (by omega) (by omega) (by omega) (by omega)
      · split
        · have := parseV_range l
          exact wf_small _ _ _ _ (by omega) (by omega) (by omega) (by omega) this.1 this.2
        · split
          · rename_i v hv
            have := Lib.atoiAll_bounds (atoiO_some hv)
            exact wf_small _ _ _ _ (by omega) (by omega) this.1 this.2 (by omega) (by omega)
          · exact wf_small _ _ _ _ (by omega) (by omega) (by omega) (by omega) (by omega) (by omega)
def okV (l : List UInt8) : Bool := printVL (rightOf (candVal l)) == l
def parseVal (l : List UInt8) : Val := if okV l then candVal l else zeroVal
set_option maxHeartbeats 8000000 in
set_option maxRecDepth 100000 in
theorem parseV_any (w : World) (hl : Laid w) (s : ByteArray) (hs : s.size ≤ 100000) :
    Calls Tryz.prog 84 #[.string s] w fun e w' => e = .returned (.tuple #[(parseVal s.data.toList).v, .bool (okV s.data.toList)]) ∧ Below w.heap.size w w' := by
  have hat := At.new w 0 0 ⟨#[]⟩ 0 26
  have hbw : Below w.heap.size w (w.alloc (.cells #[.int .i64 0, .int .i64 0, .string ⟨#[]⟩, .int .u64 0] 26)) := (Below.refl _ _).alloc (Nat.le_refl _) _
  have Hl := Lib.hid hl; have Hat := Lib.hid hat; have Hbw := Lib.hid hbw
  have Hcand : Hid (∀ W : World, Laid W → Calls Tryz.prog 102 #[.string s] W fun e w' => e = .returned (candVal s.data.toList).v ∧ Below W.heap.size W w') := Lib.hid fun W h => candV_any W h s hs
  have hwf := candVal_wf s.data.toList
  have Hpr : Hid (∀ W : World, Laid W → Calls Tryz.prog 103 #[(candVal s.data.toList).v] W fun e w' => e = .returned (.string ⟨(printVL (rightOf (candVal s.data.toList))).toArray⟩) ∧ Below W.heap.size W w') := Lib.hid fun W h => printV_any W h _ hwf
  have hok : okV s.data.toList = ((⟨(printVL (rightOf (candVal s.data.toList))).toArray⟩ : ByteArray).toList == s.toList) := by
    unfold okV
    rw [mk_toList, ByteArray.toList_eq]
  have hpv : parseVal s.data.toList = if okV s.data.toList then candVal s.data.toList else zeroVal := rfl
  generalize (⟨(printVL (rightOf (candVal s.data.toList))).toArray⟩ : ByteArray) = X at *
  clear hl hat hbw hwf
  generalize candVal s.data.toList = c at *
  obtain ⟨ck, cn, cs, cf⟩ := c
  have hok2 := hok
  have hpv2 := hpv
  have Hok := Lib.hid hok; have Hpv := Lib.hid hpv
  clear hok hpv hok2 hpv2
  generalize okV s.data.toList = ok at *
  generalize parseVal s.data.toList = pv at *
  simp only [Val.v] at Hcand Hpr
  cases hx : (X.toList == s.toList) with
  | true =>
    have hx2 : (X.toList != s.toList) = false := by unfold bne; rw [hx]; rfl
    have Hok2 : Hid (ok = true) := Lib.hid (by rw [Hok.out, hx])
    have Hpv2 : Hid (pv = ⟨ck, cn, cs, cf⟩) := Lib.hid (by rw [Hpv.out, Hok2.out]; rfl)
    clear hs
    go_enter Tryz.func84, Tryz.ntmps84
    go_upto_region 1 with fail
    generalize (w.alloc _) = W0 at Hat Hbw ⊢
    go_wp2_with fail
    refine (Hcand.out W0 (Hl.out.below Hbw.out)).mono ?_
    rintro e w1 ⟨rfl, hb⟩
    have Hb1 := Lib.hid (Hbw.out.trans (hb.mono Hbw.out.size))
    have Hat1 := Lib.hid (Hat.out.below hb Hat.out.lt)
    have hst := At.new w1 ck cn cs cf 26
    have Hst := Lib.hid hst
    have hb2 : Below w.heap.size w (w1.alloc (.cells #[.int .i64 ck, .int .i64 cn, .string cs, .int .u64 cf] 26)) := Hb1.out.alloc Hb1.out.size _
    have hat2 : At (w1.alloc (.cells #[.int .i64 ck, .int .i64 cn, .string cs, .int .u64 cf] 26)) w.heap.size 0 0 ⟨#[]⟩ 0 := Hat1.out.alloc _
    have Hb2 := Lib.hid hb2; have Hat2 := Lib.hid hat2
    clear hb hst hb2 hat2
    go_upto_region 2 with fail
    generalize (w1.alloc _) = W2 at Hst Hb2 Hat2 ⊢
    obtain ⟨c0, c1, c2, c3, -, -⟩ := Hst.out
    go_wp2_with fail
    refine (Hpr.out W2 (Hl.out.below Hb2.out)).mono ?_
    rintro e w3 ⟨rfl, hb⟩
    have Hb3 := Lib.hid (Hb2.out.trans (hb.mono Hb2.out.size))
    have at1 := Hat2.out.below hb Hat2.out.lt
    have ct1 := Hst.out.below hb Hst.out.lt
    have z0 := at1.z 0; have z1 := at1.z 1; have z2 := at1.z 2; have z3 := at1.z 3
    obtain ⟨d0, d1, d2, d3, -, -⟩ := at1
    clear c0 c1 c2 c3
    obtain ⟨c0, c1, c2, c3, -, -⟩ := ct1
    clear hb
    go_wp2_with fail
    exact bodyPost_ret (v := .tuple #[.agg #[.int .i64 ck, .int .i64 cn, .string cs, .int .u64 cf], .bool true]) (by simp [results, Tryz.results84, go_sem, d0, d1, d2, d3]) rfl ⟨by rw [Hpv2.out, Hok2.out], ((((Hb3.out).setCell (Nat.le_refl _) _).setCell (Nat.le_refl _) _).setCell (Nat.le_refl _) _).setCell (Nat.le_refl _) _⟩
  | false =>
    have hx2 : (X.toList != s.toList) = true := by unfold bne; rw [hx]; rfl
    have Hok2 : Hid (ok = false) := Lib.hid (by rw [Hok.out, hx])
    have Hpv2 : Hid (pv = zeroVal) := Lib.hid (by rw [Hpv.out, Hok2.out]; rfl)
    clear hs
    go_enter Tryz.func84, Tryz.ntmps84
    go_upto_region 1 with fail
    generalize (w.alloc _) = W0 at Hat Hbw ⊢
    go_wp2_with fail
    refine (Hcand.out W0 (Hl.out.below Hbw.out)).mono ?_
    rintro e w1 ⟨rfl, hb⟩
    have Hb1 := Lib.hid (Hbw.out.trans (hb.mono Hbw.out.size))
    have Hat1 := Lib.hid (Hat.out.below hb Hat.out.lt)
    have hst := At.new w1 ck cn cs cf 26
    have Hst := Lib.hid hst
    have hb2 : Below w.heap.size w (w1.alloc (.cells #[.int .i64 ck, .int .i64 cn, .string cs, .int .u64 cf] 26)) := Hb1.out.alloc Hb1.out.size _
    have hat2 : At (w1.alloc (.cells #[.int .i64 ck, .int .i64 cn, .string cs, .int .u64 cf] 26)) w.heap.size 0 0 ⟨#[]⟩ 0 := Hat1.out.alloc _
    have Hb2 := Lib.hid hb2; have Hat2 := Lib.hid hat2
    clear hb hst hb2 hat2
    go_upto_region 2 with fail
    generalize (w1.alloc _) = W2 at Hst Hb2 Hat2 ⊢
    obtain ⟨c0, c1, c2, c3, -, -⟩ := Hst.out
    go_wp2_with fail
    refine (Hpr.out W2 (Hl.out.below Hb2.out)).mono ?_
    rintro e w3 ⟨rfl, hb⟩
    have Hb3 := Lib.hid (Hb2.out.trans (hb.mono Hb2.out.size))
    have at1 := Hat2.out.below hb Hat2.out.lt
    have ct1 := Hst.out.below hb Hst.out.lt
    have z0 := at1.z 0; have z1 := at1.z 1; have z2 := at1.z 2; have z3 := at1.z 3
    obtain ⟨d0, d1, d2, d3, -, -⟩ := at1
    clear c0 c1 c2 c3
    obtain ⟨c0, c1, c2, c3, -, -⟩ := ct1
    clear hb
    go_wp2_with fail
    exact bodyPost_ret (v := .tuple #[.agg #[.int .i64 0, .int .i64 0, .string ⟨#[]⟩, .int .u64 0], .bool false]) (by simp [results, Tryz.results84, go_sem, d0, d1, d2, d3]) rfl ⟨by rw [Hpv2.out, Hok2.out]; rfl, ((((Hb3.out).setCell (Nat.le_refl _) _).setCell (Nat.le_refl _) _).setCell (Nat.le_refl _) _).setCell (Nat.le_refl _) _⟩
end Go.Proofs.YtfkghfmgeholeaaGreatDoor
namespace Go.Proofs.YtfkghfmgeholeaaGreatDoor
open Go.RowKit

def truthV (a : Int) : Int := if a = 0 ∨ a = 1 then a else 2
theorem truthV_range (a : Int) : truthV a = 0 ∨ truthV a = 1 ∨ truthV a = 2 := by
  unfold truthV
  split
  · omega
  · exact .inr (.inr rfl)
def notV (a : Int) : Int := if truthV a = 2 then 2 else 1 - truthV a
def andV (a b : Int) : Int := if truthV a = 0 ∨ truthV b = 0 then 0 else max (truthV a) (truthV b)
def orV (a b : Int) : Int := notV (andV (notV a) (notV b))
theorem truth_any (w : World) (a : Int) : Calls Tryz.prog 77 #[.int .i64 a] w fun e w' => e = .returned (.int .i64 (truthV a)) ∧ w = w' := by
  unfold truthV
  by_cases h0 : a = 0
  · subst h0
    go_enter Tryz.func77, Tryz.ntmps77
    go_wp2_with fail
    go_ret
    exact ⟨by simp, rfl⟩
  · by_cases h1 : a = 1
    · subst h1
      go_enter Tryz.func77, Tryz.ntmps77
      go_wp2_with fail
      go_ret
      exact ⟨by simp, rfl⟩
    · rw [if_neg (by omega)]
      have e0 : (a != 0) = true := by rw [bne_iff_ne]; exact h0
      have e1 : (a != 1) = true := by rw [bne_iff_ne]; exact h1
      go_enter Tryz.func77, Tryz.ntmps77
      go_wp2_with fail
      go_ret
      exact ⟨rfl, rfl⟩
theorem not_any (w : World) (a : Int) : Calls Tryz.prog 59 #[.int .i64 a] w fun e w' => e = .returned (.int .i64 (notV a)) ∧ w = w' := by
  have Ht := Lib.hid (truth_any w a)
  have hr := truthV_range a
  unfold notV
  generalize truthV a = t at *
  rcases hr with rfl | rfl | rfl
  all_goals
    go_enter Tryz.func59, Tryz.ntmps59
    go_wp2_with fail
    refine Ht.out.mono ?_
    rintro e w' ⟨rfl, rfl⟩
    go_wp2_with fail
    go_ret
    exact ⟨rfl, rfl⟩
theorem and_any (w : World) (a b : Int) : Calls Tryz.prog 60 #[.int .i64 a, .int .i64 b] w fun e w' => e = .returned (.int .i64 (andV a b)) ∧ w = w' := by
  have Ha := Lib.hid (truth_any w a)
  have Hb := Lib.hid (truth_any w b)
  have hr := truthV_range a
  have hs := truthV_range b
  unfold andV
  generalize truthV a = t at *
  generalize truthV b = u at *
  rcases hr with rfl | rfl | rfl <;> rcases hs with rfl | rfl | rfl
  all_goals
    go_enter Tryz.func60, Tryz.ntmps60
    go_wp2_with fail
    refine Ha.out.mono ?_
    rintro e w' ⟨rfl, rfl⟩
    go_wp2_with fail
    refine Hb.out.mono ?_
    rintro e w' ⟨rfl, rfl⟩
    go_wp2_with fail
    go_ret
    exact ⟨by first | rfl | decide, rfl⟩
theorem or_any2 (w : World) (a b : Int) : Calls Tryz.prog 61 #[.int .i64 a, .int .i64 b] w fun e w' => e = .returned (.int .i64 (orV a b)) ∧ w = w' := by
  have Ha := Lib.hid (not_any w a)
  have Hb := Lib.hid (not_any w b)
  have Hc := Lib.hid (and_any w (notV a) (notV b))
  have Hd := Lib.hid (not_any w (andV (notV a) (notV b)))
  unfold orV
  generalize notV (andV (notV a) (notV b)) = z at *
  generalize andV (notV a) (notV b) = y at *
  generalize notV a = t at *
  generalize notV b = u at *
  go_enter Tryz.func61, Tryz.ntmps61
  go_wp2_with fail
  refine Ha.out.mono ?_
  rintro e w' ⟨rfl, rfl⟩
  go_wp2_with fail
  refine Hb.out.mono ?_
  rintro e w' ⟨rfl, rfl⟩
  go_wp2_with fail
  refine Hc.out.mono ?_
  rintro e w' ⟨rfl, rfl⟩
  go_wp2_with fail
  refine Hd.out.mono ?_
  rintro e w' ⟨rfl, rfl⟩
  go_wp2_with fail
  go_ret
  exact ⟨rfl, rfl⟩
end Go.Proofs.YtfkghfmgeholeaaGreatDoor
namespace Go.Proofs.YtfkghfmgeholeaaGreatDoor
open Go.RowKit

/-- a value that is right, masked -/
def maskX (x : Val) (mk mn : Int) : Val :=
  if mk = 0 then x else if mk = 2 then ⟨x.k, 0, ⟨#[]⟩, 0⟩ else if mk = 3 ∧ x.k = 3 then ⟨x.k, x.n, x.s.extract 0 (min (x.s.size : Int) (max mn 0)).toNat, x.f⟩ else zeroVal
/-- a mask lies in a block of its own -/
structure MAt (w : World) (b : Nat) (mk mn : Int) : Prop where
  c0 : w.cell? ⟨b, 0, none⟩ = some (.int .i64 mk)
  c1 : w.cell? ⟨b, 1, none⟩ = some (.int .i64 mn)
  lt : b < w.heap.size
theorem MAt.below {w w' : World} {b B : Nat} {mk mn : Int} (h : MAt w b mk mn) (hb : Below B w w') (hB : b < B) : MAt w' b mk mn :=
  ⟨(hb.cell hB).trans h.c0, (hb.cell hB).trans h.c1, Nat.lt_of_lt_of_le h.lt hb.size⟩
theorem MAt.other {W : World} {b c : Nat} {mk mn : Int} (h : MAt W c mk mn) (hbc : b ≠ c) (x : Val) : MAt (storeV W b x) c mk mn := by
  obtain ⟨h0, h1, hl⟩ := h
  have ne : ∀ i j : Nat, (⟨b, i, none⟩ : Addr) ≠ ⟨c, j, none⟩ := fun i j h => by injection h with h _; exact hbc h
  refine ⟨?_, ?_, ?_⟩
  · exact cell_off (cell_off (cell_off (cell_off h0 (ne _ _)) (ne _ _)) (ne _ _)) (ne _ _)
  · exact cell_off (cell_off (cell_off (cell_off h1 (ne _ _)) (ne _ _)) (ne _ _)) (ne _ _)
  · simpa [storeV, World.setCell] using hl
structure Tri (w W : World) (A : Nat) (a : Val) (mk mn : Int) : Prop where
  one : At W A a.k a.n a.s a.f
  two : MAt W (A + 1) mk mn
  thr : At W (A + 1 + 1) 0 0 ⟨#[]⟩ 0
  bel : Below A w W
theorem Tri.below {w W W' : World} {A : Nat} {a : Val} {mk mn : Int} (h : Tri w W A a mk mn) (hb : Below W.heap.size W W') : Tri w W' A a mk mn :=
  ⟨h.one.below hb h.one.lt, h.two.below hb h.two.lt, h.thr.below hb h.thr.lt, h.bel.trans (hb.mono (Nat.le_of_lt h.one.lt))⟩
theorem Tri.store {w W : World} {A : Nat} {a : Val} {mk mn : Int} (h : Tri w W A a mk mn) (x : Val) : Tri w (storeV W A x) A x mk mn :=
  ⟨h.one.store x, h.two.other (by omega) x, h.thr.other (by omega) x, below_store h.bel (Nat.le_refl _) x⟩
end Go.Proofs.YtfkghfmgeholeaaGreatDoor
namespace Go.Proofs.YtfkghfmgeholeaaGreatDoor
open Go.RowKit

abbrev fa : Val := ⟨4, 0, ⟨#[]⟩, 0⟩
abbrev fb : Val := ⟨4, 0, ⟨#[]⟩, 9223372036854775808⟩
theorem first_facts : cmpXi (rightOf fa) (rightOf fb) = 0 ∧ cmpXb (rightOf fa) (rightOf fb) = true ∧ ordX (rightOf fa) (rightOf fb) = 1 := by
  refine ⟨?_, ?_, ?_⟩ <;> decide +kernel
theorem first_parse : okV [120, 54, 49, 54, 50] = true ∧ parseVal [120, 54, 49, 54, 50] = ⟨3, 0, ⟨#[97, 98]⟩, 0⟩ := by
  have h : candVal [120, 54, 49, 54, 50] = ⟨3, 0, ⟨#[97, 98]⟩, 0⟩ := by
    rw [candVal_eq, if_neg (by decide), if_neg (by decide), if_pos (by decide)]
    rfl
  have hr : rightOf ⟨3, 0, ⟨#[97, 98]⟩, 0⟩ = ⟨3, 0, ⟨#[97, 98]⟩, 0⟩ := by unfold rightOf; rw [if_pos (by decide +kernel)]
  have hok : okV [120, 54, 49, 54, 50] = true := by
    unfold okV
    rw [h, hr]
    decide +kernel
  exact ⟨hok, by unfold parseVal; rw [if_pos hok, h]⟩
theorem first_mask : maskX (rightOf ⟨3, 0, ⟨#[115, 101, 99, 114, 101, 116]⟩, 0⟩) 3 2 = ⟨3, 0, ⟨#[115, 101]⟩, 0⟩ := by
  have hr : rightOf ⟨3, 0, ⟨#[115, 101, 99, 114, 101, 116]⟩, 0⟩ = ⟨3, 0, ⟨#[115, 101, 99, 114, 101, 116]⟩, 0⟩ := by unfold rightOf; rw [if_pos (by decide +kernel)]
  rw [hr]
  rfl
end Go.Proofs.YtfkghfmgeholeaaGreatDoor
namespace Go.Proofs.YtfkghfmgeholeaaGreatDoor
open Go.RowKit

theorem numbersR_any (w : World) (a b : Int) : Calls Tryz.prog 98 #[.int .i64 a, .int .i64 b] w fun e w' => e = .returned (.int .i64 (cmp3 a b)) ∧ w = w' := by
  have hc : cmp3 a b = if a < b then -1 else if b < a then 1 else 0 := rfl
  by_cases h1 : a < b
  · rw [if_pos h1] at hc
    rw [hc]
    clear hc
    go_enter Tryz.func98, Tryz.ntmps98
    go_wp2_with fail
    go_ret
    exact ⟨rfl, rfl⟩
  · rw [if_neg h1] at hc
    by_cases h2 : b < a
    · rw [if_pos h2] at hc
      rw [hc]
      clear hc
      go_enter Tryz.func98, Tryz.ntmps98
      go_wp2_with fail
      go_ret
      exact ⟨rfl, rfl⟩
    · rw [if_neg h2] at hc
      rw [hc]
      clear hc
      go_enter Tryz.func98, Tryz.ntmps98
      go_wp2_with fail
      go_ret
      exact ⟨rfl, rfl⟩
theorem below_box (w : World) (o : Obj) (q : Nat) : Below w.heap.size w ((w.alloc o).drewN q) := below_drewN ((Below.refl _ _).alloc (Nat.le_refl _) _) q
set_option maxHeartbeats 8000000 in
set_option maxRecDepth 100000 in
theorem rightR_any (w : World) (x : Val) (f0 : 0 ≤ x.f) (f1 : x.f < 18446744073709551616) :
    Calls Tryz.prog 44 #[x.v] w fun e w' => e = .returned (.bool (rightB x)) ∧ Below w.heap.size w w' := by
  obtain ⟨k, n, s, f⟩ := x
  have g0 : 0 ≤ f := f0
  have g1 : f < 18446744073709551616 := f1
  have Hc : Hid (∀ W : World, Calls Tryz.prog 56 #[.int .u64 f] W fun e w' => e = .returned (.int .u64 (canonF f)) ∧ W = w') := Lib.hid fun W => canonR_any W f g0 g1
  simp only [Val.v]
  clear f0 f1 g0 g1
  by_cases h1 : k = 1
  · subst h1
    have hb : rightB ⟨1, n, s, f⟩ = (decide (s.toList = []) && decide (f = 0)) := by simp [rightB]
    rw [hb]
    clear hb Hc
    go_enter Tryz.func44, Tryz.ntmps44
    go_wp2_with fail
    go_quiet (fail)
    go_wp2_with fail
    all_goals
      go_ret
      exact ⟨by rcases Decidable.em (f = 0) with g | g <;> rcases Decidable.em (n = 0) with g' | g' <;> rcases Decidable.em (n = 1) with g2 | g2 <;> simp_all, below_box _ _ _⟩
  by_cases h2 : k = 2
  · subst h2
    have hb : rightB ⟨2, n, s, f⟩ = (decide (s.toList = []) && decide (f = 0) && decide (n = 0 ∨ n = 1)) := by simp [rightB]
    rw [hb]
    clear hb Hc
    go_enter Tryz.func44, Tryz.ntmps44
    go_wp2_with fail
    go_quiet (fail)
    go_wp2_with fail
    all_goals
      go_ret
      exact ⟨by rcases Decidable.em (f = 0) with g | g <;> rcases Decidable.em (n = 0) with g' | g' <;> rcases Decidable.em (n = 1) with g2 | g2 <;> simp_all, below_box _ _ _⟩
  by_cases h3 : k = 3
  · subst h3
    have hb : rightB ⟨3, n, s, f⟩ = (decide (n = 0) && decide (f = 0) && decide (s.size ≤ 64)) := by simp [rightB]
    rw [hb]
    clear hb Hc
    by_cases hs : s.size ≤ 64
    · have hsi : (s.size : Int) ≤ 64 := by omega
      rw [decide_eq_true hs]
      go_enter Tryz.func44, Tryz.ntmps44
      go_wp2_with fail
      go_quiet (fail)
      go_wp2_with fail
      all_goals
        go_ret
        exact ⟨by rcases Decidable.em (f = 0) with g | g <;> rcases Decidable.em (n = 0) with g' | g' <;> rcases Decidable.em (n = 1) with g2 | g2 <;> simp_all, below_box _ _ _⟩
    · have hsi : ¬ (s.size : Int) ≤ 64 := by omega
      rw [decide_eq_false hs]
      go_enter Tryz.func44, Tryz.ntmps44
      go_wp2_with fail
      go_quiet (fail)
      go_wp2_with fail
      all_goals
        go_ret
        exact ⟨by rcases Decidable.em (f = 0) with g | g <;> rcases Decidable.em (n = 0) with g' | g' <;> rcases Decidable.em (n = 1) with g2 | g2 <;> simp_all, below_box _ _ _⟩
  by_cases h4 : k = 4
  · subst h4
    have hb : rightB ⟨4, n, s, f⟩ = (decide (n = 0) && decide (s.toList = []) && decide (canonF f = f)) := by simp [rightB]
    rw [hb]
    clear hb
    generalize canonF f = c at *
    by_cases hn : n = 0
    · have n1 : (n != 0) = false := by rw [hn]; rfl
      have HN := Lib.hid hn
      rw [decide_eq_true hn]
      clear hn
      by_cases hs : s.toList = []
      · have s1 : (s.toList != []) = false := by rw [hs]; rfl
        rw [decide_eq_true hs]
        have HS := Lib.hid hs
        have hs3 : s.toList.isEmpty = true := by rw [hs]; rfl
        go_enter Tryz.func44, Tryz.ntmps44
        go_wp2_with fail
        go_quiet (fail)
        have hat := (At.new w 4 n s f 26).below (below_drewN (Below.refl _ _) nq) (At.new w 4 n s f 26).lt
        have hbx := below_box w (.cells #[.int .i64 4, .int .i64 n, .string s, .int .u64 f] 26) nq
        have Hbx := Lib.hid hbx
        clear hbx
        go_wp2_with fail
        generalize World.drewN (World.alloc w _) nq = W1 at hat Hbx ⊢
        obtain ⟨c0, c1, c2, c3, -, -⟩ := hat
        go_quiet ((go_at_call 56; exact Calls.quiet_of_same ((Hc.out _).mono fun e w1 h => ⟨h.1, h.2.symm⟩)))
        go_wp2_with fail
        go_ret
        exact ⟨by simp_all <;> rfl, below_drewN Hbx.out _⟩
      · have s1 : (s.toList != []) = true := by rw [bne_iff_ne]; exact hs
        rw [decide_eq_false hs]
        have hs3 : s.toList.isEmpty = false := by simpa using hs
        go_enter Tryz.func44, Tryz.ntmps44
        go_wp2_with fail
        go_quiet (fail)
        have hat := (At.new w 4 n s f 26).below (below_drewN (Below.refl _ _) nq) (At.new w 4 n s f 26).lt
        have hbx := below_box w (.cells #[.int .i64 4, .int .i64 n, .string s, .int .u64 f] 26) nq
        have Hbx := Lib.hid hbx
        clear hbx
        go_wp2_with fail
        generalize World.drewN (World.alloc w _) nq = W1 at hat Hbx ⊢
        obtain ⟨c0, c1, c2, c3, -, -⟩ := hat
        go_quiet ((go_at_call 56; exact Calls.quiet_of_same ((Hc.out _).mono fun e w1 h => ⟨h.1, h.2.symm⟩)))
        go_wp2_with fail
        go_ret
        exact ⟨by simp_all <;> rfl, below_drewN Hbx.out _⟩
    · have n1 : (n != 0) = true := by rw [bne_iff_ne]; exact hn
      rw [decide_eq_false hn]
      go_enter Tryz.func44, Tryz.ntmps44
      go_wp2_with fail
      go_quiet (fail)
      have hat := (At.new w 4 n s f 26).below (below_drewN (Below.refl _ _) nq) (At.new w 4 n s f 26).lt
      have hbx := below_box w (.cells #[.int .i64 4, .int .i64 n, .string s, .int .u64 f] 26) nq
      have Hbx := Lib.hid hbx
      clear hbx
      go_wp2_with fail
      generalize World.drewN (World.alloc w _) nq = W1 at hat Hbx ⊢
      obtain ⟨c0, c1, c2, c3, -, -⟩ := hat
      go_quiet ((go_at_call 56; exact Calls.quiet_of_same ((Hc.out _).mono fun e w1 h => ⟨h.1, h.2.symm⟩)))
      go_wp2_with fail
      go_ret
      exact ⟨by simp_all <;> rfl, below_drewN Hbx.out _⟩
  by_cases h0 : k = 0
  · subst h0
    have hb : rightB ⟨0, n, s, f⟩ = (decide (n = 0) && decide (s.toList = []) && decide (f = 0)) := by simp [rightB]
    rw [hb]
    clear hb Hc
    go_enter Tryz.func44, Tryz.ntmps44
    go_wp2_with fail
    go_quiet (fail)
    go_wp2_with fail
    all_goals
      go_ret
      exact ⟨by rcases Decidable.em (f = 0) with g | g <;> rcases Decidable.em (n = 0) with g' | g' <;> rcases Decidable.em (n = 1) with g2 | g2 <;> simp_all, below_box _ _ _⟩
  · have hb : rightB ⟨k, n, s, f⟩ = false := by simp [rightB, h0, h1, h2, h3, h4]
    rw [hb]
    clear hb Hc
    have e0 : (k == 0) = false := by rw [beq_eq_false_iff_ne]; exact h0
    have e1 : (k == 1) = false := by rw [beq_eq_false_iff_ne]; exact h1
    have e2 : (k == 2) = false := by rw [beq_eq_false_iff_ne]; exact h2
    have e3 : (k == 3) = false := by rw [beq_eq_false_iff_ne]; exact h3
    have e4 : (k == 4) = false := by rw [beq_eq_false_iff_ne]; exact h4
    go_enter Tryz.func44, Tryz.ntmps44
    go_wp2_with fail
    go_quiet (fail)
    go_wp2_with fail
    go_ret
    exact ⟨rfl, below_box _ _ _⟩
end Go.Proofs.YtfkghfmgeholeaaGreatDoor
namespace Go.Proofs.YtfkghfmgeholeaaGreatDoor
open Go.RowKit

theorem cmpBytes_ne (c d : UInt8) (x y : List UInt8) (h : c ≠ d) : Lib.compareBytes (c :: x) (d :: y) = cmp3 (c.toNat : Int) (d.toNat : Int) := by
  have hn : c.toNat ≠ d.toNat := fun e => h (UInt8.toNat_inj.1 e)
  unfold Lib.compareBytes cmp3
  by_cases h1 : c < d
  · have : c.toNat < d.toNat := UInt8.lt_iff_toNat_lt.1 h1
    rw [if_pos h1, if_pos (by omega)]
  · have h2 : ¬ c.toNat < d.toNat := fun e => h1 (UInt8.lt_iff_toNat_lt.2 e)
    have h3 : d < c := UInt8.lt_iff_toNat_lt.2 (by omega)
    rw [if_neg h1, if_pos h3, if_neg (by omega), if_pos (by omega)]
theorem cmpBytes_eq (c : UInt8) (x y : List UInt8) : Lib.compareBytes (c :: x) (c :: y) = Lib.compareBytes x y := by
  have : ¬ c < c := fun h => by have := UInt8.lt_iff_toNat_lt.1 h; omega
  rw [Lib.compareBytes, if_neg this, if_neg this]
theorem cmpBytes_end (x y : List UInt8) (h : x = [] ∨ y = []) : Lib.compareBytes x y = cmp3 (x.length : Int) (y.length : Int) := by
  cases x with
  | nil =>
    cases y with
    | nil => rfl
    | cons d y =>
      unfold Lib.compareBytes cmp3
      rw [if_pos (by simp only [List.length_nil, List.length_cons]; omega)]
  | cons c x =>
    cases y with
    | nil =>
      unfold Lib.compareBytes cmp3
      rw [if_neg (by simp only [List.length_nil, List.length_cons]; omega), if_pos (by simp only [List.length_nil, List.length_cons]; omega)]
    | cons d y => rcases h with h | h <;> cases h
theorem cmp3_shift (a b i : Int) : cmp3 (a - i) (b - i) = cmp3 a b := by
  unfold cmp3
  by_cases h : a < b
  · rw [if_pos h, if_pos (by omega)]
  · rw [if_neg h, if_neg (by omega)]
    by_cases h2 : b < a
    · rw [if_pos h2, if_pos (by omega)]
    · rw [if_neg h2, if_neg (by omega)]
set_option maxHeartbeats 8000000 in
set_option maxRecDepth 100000 in
theorem textsR_any (w : World) (a b : ByteArray) (ha : a.size ≤ 1000000000) (hb : b.size ≤ 1000000000) :
    Calls Tryz.prog 97 #[.string a, .string b] w fun e w' => e = .returned (.int .i64 (Lib.compareBytes a.data.toList b.data.toList)) ∧ Below w.heap.size w w' := by
  obtain ⟨N, hN⟩ : ∃ N, a.size = N := ⟨_, rfl⟩
  obtain ⟨M, hM⟩ : ∃ M, b.size = M := ⟨_, rfl⟩
  obtain ⟨x, hx⟩ : ∃ x, x = a.data.toList := ⟨_, rfl⟩
  obtain ⟨y, hy⟩ : ∃ y, y = b.data.toList := ⟨_, rfl⟩
  have hxN : x.length = N := by rw [hx, ← hN, Lib.size_eq]
  have hyM : y.length = M := by rw [hy, ← hM, Lib.size_eq]
  rw [← hx, ← hy]
  have Hx := Lib.hid hx; have Hy := Lib.hid hy; have HxN := Lib.hid hxN; have HyM := Lib.hid hyM
  have hNb : (N : Int) ≤ 1000000000 := by omega
  have hMb : (M : Int) ≤ 1000000000 := by omega
  clear hx hy hxN hyM ha hb
  have Hn : Hid (∀ (W : World) (p q : Int), Calls Tryz.prog 98 #[.int .i64 p, .int .i64 q] W fun e w' => e = .returned (.int .i64 (cmp3 p q)) ∧ W = w') := Lib.hid fun W p q => numbersR_any W p q
  go_enter Tryz.func97, Tryz.ntmps97
  go_wp2_with fail
  go_loopg [5] (N + 1) (fun mm i wr => ∃ (j : Nat) (I : Int), j + mm = N + 1 ∧ Hid (I = (j : Int) ∧ j ≤ N ∧ j ≤ M ∧ Lib.compareBytes (x.drop j) (y.drop j) = Lib.compareBytes x y) ∧ i = .int .i64 I ∧ Below w.heap.size w wr)
  case atStart => exact ⟨0, 0, by omega, Lib.hid ⟨rfl, Nat.zero_le _, Nat.zero_le _, rfl⟩, rfl, Below.refl _ _⟩
  case round =>
    obtain ⟨j, I, hj, HI, rfl, hb⟩ := hrel
    have Hb := Lib.hid hb; clear hb
    have Hj := Lib.hid hj; clear hj
    have hI0 : 0 ≤ I := by have := HI.out.1; omega
    by_cases hs : j < N ∧ j < M
    · have hI1 : I < (N : Int) := by have := HI.out.1; omega
      have hI2 : I < (M : Int) := by have := HI.out.1; omega
      have hIj : I.toNat = j := by have := HI.out.1; omega
      have h1 : j < a.size := by omega
      have h2 : j < b.size := by omega
      obtain ⟨c, hc⟩ : ∃ c, a[j] = c := ⟨_, rfl⟩
      obtain ⟨d, hd⟩ : ∃ d, b[j] = d := ⟨_, rfl⟩
      have hxc : x[j]? = some c := by rw [Hx.out, byte_at a j h1, hc]
      have hyd : y[j]? = some d := by rw [Hy.out, byte_at b j h2, hd]
      have dx : x.drop j = c :: x.drop (j + 1) := by
        have l1 : j < x.length := by rw [HxN.out]; omega
        rw [List.getElem?_eq_getElem l1] at hxc
        rw [List.drop_eq_getElem_cons l1, Option.some.inj hxc]
      have dy : y.drop j = d :: y.drop (j + 1) := by
        have l1 : j < y.length := by rw [HyM.out]; omega
        rw [List.getElem?_eq_getElem l1] at hyd
        rw [List.drop_eq_getElem_cons l1, Option.some.inj hyd]
      have hcm := HI.out.2.2.2
      rw [dx, dy] at hcm
      have Hs := Lib.hid hs
      have hwr : IntKind.i64.wrap (I + 1) = I + 1 := by rw [IntKind.wrap_i64]; omega
      have hwc : wrap64 (c.toNat : Int) = (c.toNat : Int) := by have := c.toNat_lt; unfold wrap64; omega
      have hwd : wrap64 (d.toNat : Int) = (d.toNat : Int) := by have := d.toNat_lt; unfold wrap64; omega
      clear hxc hyd dx dy hs
      by_cases he : c = d
      · have hne : ((c.toNat : Int) != (d.toNat : Int)) = false := by rw [he]; simp
        rw [he, cmpBytes_eq] at hcm
        have Hcm := Lib.hid hcm
        clear hcm he
        go_wp2_with fail
        go_quiet (fail)
        go_wp2_with fail
        go_roundg (N - j)
        case measure => have := Hj.out; omega
        case rel => exact ⟨j + 1, I + 1, by have := Hj.out; have := Hs.out; omega, Lib.hid ⟨by have := HI.out.1; omega, by have := Hs.out; omega, by have := Hs.out; omega, Hcm.out⟩, by go_num, below_drewN Hb.out _⟩
      · have hne : ((c.toNat : Int) != (d.toNat : Int)) = true := by
          rw [bne_iff_ne]
          intro e
          exact he (UInt8.toNat_inj.1 (by omega))
        rw [cmpBytes_ne c d _ _ he] at hcm
        have Hcm := Lib.hid hcm
        clear hcm he
        go_wp2_with fail
        go_quiet (fail)
        have Hb2 := Lib.hid (below_drewN Hb.out nq)
        generalize World.drewN wr nq = W1 at Hb2 ⊢
        go_wp2_with fail
        go_quiet ((go_at_call 98; exact Calls.quiet_of_same ((Hn.out _ _ _).mono fun e w1 h => ⟨h.1, h.2.symm⟩)))
        go_wp2_with fail
        go_ret
        exact ⟨by rw [← Hcm.out]; rfl, below_drewN Hb2.out _⟩
    · have hend : Lib.compareBytes x y = cmp3 (N : Int) (M : Int) := by
        rw [← HI.out.2.2.2, cmpBytes_end _ _ (by
          have := HI.out.2.1; have := HI.out.2.2.1
          rcases Nat.lt_or_ge j N with h | h
          · exact .inr (List.drop_eq_nil_of_le (by rw [HyM.out]; omega))
          · exact .inl (List.drop_eq_nil_of_le (by rw [HxN.out]; omega))), List.length_drop, List.length_drop, HxN.out, HyM.out]
        have h1 := HI.out.2.1; have h2 := HI.out.2.2.1
        rw [show ((N - j : Nat) : Int) = (N : Int) - (j : Int) from by omega, show ((M - j : Nat) : Int) = (M : Int) - (j : Int) from by omega, cmp3_shift]
      have Hend := Lib.hid hend
      by_cases hn : I < (N : Int)
      · have hm : ¬ I < (M : Int) := by have := HI.out.1; omega
        clear hs hend
        go_wp2_with fail
        refine (Hn.out _ _ _).mono ?_
        rintro e w1 ⟨rfl, rfl⟩
        go_wp2_with fail
        go_ret
        exact ⟨by rw [Hend.out]; rfl, Hb.out⟩
      · clear hs hend
        go_wp2_with fail
        refine (Hn.out _ _ _).mono ?_
        rintro e w1 ⟨rfl, rfl⟩
        go_wp2_with fail
        go_ret
        exact ⟨by rw [Hend.out]; rfl, Hb.out⟩
end Go.Proofs.YtfkghfmgeholeaaGreatDoor
namespace Go.Proofs.YtfkghfmgeholeaaGreatDoor
open Go.RowKit

set_option maxHeartbeats 8000000 in
set_option maxRecDepth 100000 in
theorem rightofR_any (w : World) (x : Val) (hf0 : 0 ≤ x.f) (hf1 : x.f < 18446744073709551616) :
    Calls Tryz.prog 95 #[x.v] w fun e w' => e = .returned (rightOf x).v ∧ Below w.heap.size w w' := by
  have Hr : Hid (∀ W : World, Calls Tryz.prog 44 #[x.v] W fun e w' => e = .returned (.bool (rightB x)) ∧ Below W.heap.size W w') := Lib.hid fun W => rightR_any W x hf0 hf1
  clear hf0 hf1
  unfold rightOf
  obtain ⟨k, n, s, f⟩ := x
  simp only [Val.v] at Hr ⊢
  have a1 := (At.new w k n s f 26).alloc (Obj.cells #[.int .i64 0, .int .i64 0, .string ⟨#[]⟩, .int .u64 0] 26)
  have a2 := At.new (w.alloc (.cells #[.int .i64 k, .int .i64 n, .string s, .int .u64 f] 26)) 0 0 ⟨#[]⟩ 0 26
  have hsz : ((w.alloc (.cells #[.int .i64 k, .int .i64 n, .string s, .int .u64 f] 26)).heap.size) = w.heap.size + 1 := by simp
  rw [hsz] at a2
  have hbl : Below w.heap.size w ((w.alloc (.cells #[.int .i64 k, .int .i64 n, .string s, .int .u64 f] 26)).alloc (.cells #[.int .i64 0, .int .i64 0, .string ⟨#[]⟩, .int .u64 0] 26)) :=
    ((Below.refl _ _).alloc (Nat.le_refl _) _).alloc (by simp) _
  have A1 := Lib.hid a1; have A2 := Lib.hid a2; have Hbl := Lib.hid hbl
  clear a1 a2 hbl hsz
  cases hb : rightB ⟨k, n, s, f⟩ with
  | true =>
    rw [hb] at Hr
    simp only [if_true]
    clear hb
    go_enter Tryz.func95, Tryz.ntmps95
    go_wp2_with fail
    refine (Hr.out _).mono ?_
    rintro e w1 ⟨rfl, hb⟩
    have b1 := A1.out.below hb A1.out.lt
    have b2 := A2.out.below hb A2.out.lt
    have hbb := Hbl.out.trans (hb.mono Hbl.out.size)
    have Hbb := Lib.hid hbb
    obtain ⟨e0, e1, e2, e3, e5, e4⟩ := b1
    obtain ⟨d0, d1, d2, d3, d5, d4⟩ := b2
    have z0 := d5 0; have z1 := d5 1; have z2 := d5 2; have z3 := d5 3
    clear hb hbb A1 A2 Hbl d5 e5
    go_wp2_with fail
    exact bodyPost_ret (v := .agg #[.int .i64 k, .int .i64 n, .string s, .int .u64 f]) (by simp [results, Tryz.results95, go_sem, d0, d1, d2, d3]) rfl ⟨rfl, (((Hbb.out.setCell (by simp) _).setCell (by simp) _).setCell (by simp) _).setCell (by simp) _⟩
  | false =>
    rw [hb] at Hr
    simp only [Bool.false_eq_true, if_false, zeroVal]
    clear hb
    go_enter Tryz.func95, Tryz.ntmps95
    go_wp2_with fail
    refine (Hr.out _).mono ?_
    rintro e w1 ⟨rfl, hb⟩
    have b1 := A1.out.below hb A1.out.lt
    have b2 := A2.out.below hb A2.out.lt
    have hbb := Hbl.out.trans (hb.mono Hbl.out.size)
    have Hbb := Lib.hid hbb
    obtain ⟨e0, e1, e2, e3, e5, e4⟩ := b1
    obtain ⟨d0, d1, d2, d3, d5, d4⟩ := b2
    have z0 := d5 0; have z1 := d5 1; have z2 := d5 2; have z3 := d5 3
    clear hb hbb A1 A2 Hbl d5 e5
    go_wp2_with fail
    exact bodyPost_ret (v := .agg #[.int .i64 0, .int .i64 0, .string ⟨#[]⟩, .int .u64 0]) (by simp [results, Tryz.results95, go_sem, d0, d1, d2, d3]) rfl ⟨rfl, (((Hbb.out.setCell (by simp) _).setCell (by simp) _).setCell (by simp) _).setCell (by simp) _⟩
/-- two more values of the call's own -/
structure Quad (w W : World) (A B C : Nat) (a b x y : Val) : Prop where
  duo : Duo w W A a b
  px : At W B x.k x.n x.s x.f
  py : At W C y.k y.n y.s y.f
theorem Quad.below {w W W' : World} {A B C : Nat} {a b x y : Val} (h : Quad w W A B C a b x y) (hb : Below W.heap.size W W') : Quad w W' A B C a b x y :=
  ⟨h.duo.below hb, h.px.below hb h.px.lt, h.py.below hb h.py.lt⟩
set_option maxHeartbeats 8000000 in
set_option maxRecDepth 100000 in
theorem compareVR_any (w : World) (a b : Val) (ha : a.Wf) (hb : b.Wf) :
    Calls Tryz.prog 78 #[a.v, b.v] w fun e w' => e = .returned (.tuple #[.int .i64 (cmpRi (rightOf a) (rightOf b)), .bool (cmpXb (rightOf a) (rightOf b))]) ∧ Below w.heap.size w w' := by
  have Hd := Lib.hid (Duo.new w a b)
  have HA : Hid (∀ W : World, Calls Tryz.prog 95 #[a.v] W fun e w' => e = .returned (rightOf a).v ∧ Below W.heap.size W w') := Lib.hid fun W => rightofR_any W a ha.f0 ha.f1
  have HB : Hid (∀ W : World, Calls Tryz.prog 95 #[b.v] W fun e w' => e = .returned (rightOf b).v ∧ Below W.heap.size W w') := Lib.hid fun W => rightofR_any W b hb.f0 hb.f1
  have wa := right_wf a ha
  have wb := right_wf b hb
  have sa3 := right_s a
  have sb3 := right_s b
  generalize rightOf a = x at *
  generalize rightOf b = y at *
  obtain ⟨ak, an, sa, af⟩ := a
  obtain ⟨bk, bn, sb, bf⟩ := b
  obtain ⟨xk, xn, sx, xf⟩ := x
  obtain ⟨yk, yn, sy, yf⟩ := y
  obtain ⟨-, -, -, -, xf0, xf1⟩ := wa
  obtain ⟨-, -, -, -, yf0, yf1⟩ := wb
  have hi : cmpRi ⟨xk, xn, sx, xf⟩ ⟨yk, yn, sy, yf⟩ = if xk = 0 ∨ xk ≠ yk then 0 else if xk = 4 then cmpF xf.toNat yf.toNat else if xk = 3 then Lib.compareBytes sx.data.toList sy.data.toList else cmp3 xn yn := rfl
  have hq : cmpXb ⟨xk, xn, sx, xf⟩ ⟨yk, yn, sy, yf⟩ = if xk ≠ yk ∨ xk = 0 then false else if xk = 4 then !(nanW xf.toNat || nanW yf.toNat) else true := rfl
  have Hi := Lib.hid hi; have Hq := Lib.hid hq
  clear hi hq ha hb
  generalize cmpRi ⟨xk, xn, sx, xf⟩ ⟨yk, yn, sy, yf⟩ = ri at *
  generalize cmpXb ⟨xk, xn, sx, xf⟩ ⟨yk, yn, sy, yf⟩ = rb at *
  simp only [Val.v] at HA HB xf0 xf1 yf0 yf1 sa3 sb3
  have Hcf : Hid (∀ W : World, Calls Tryz.prog 96 #[.int .u64 xf, .int .u64 yf] W fun e w' => e = .returned (.tuple #[.int .i64 (cmpF xf.toNat yf.toNat), .bool (!(nanW xf.toNat || nanW yf.toNat))]) ∧ W = w') := Lib.hid fun W => compareR_any W xf yf xf0 xf1 yf0 yf1
  have Hct : Hid (xk = 3 → yk = 3 → ∀ W : World, Calls Tryz.prog 97 #[.string sx, .string sy] W fun e w' => e = .returned (.int .i64 (Lib.compareBytes sx.data.toList sy.data.toList)) ∧ Below W.heap.size W w') := Lib.hid fun h1 h2 W => textsR_any W sx sy (by have := sa3 h1; omega) (by have := sb3 h2; omega)
  have Hcn : Hid (∀ W : World, Calls Tryz.prog 98 #[.int .i64 xn, .int .i64 yn] W fun e w' => e = .returned (.int .i64 (cmp3 xn yn)) ∧ W = w') := Lib.hid fun W => numbersR_any W xn yn
  clear xf0 xf1 yf0 yf1 sa3 sb3
  generalize cmpF xf.toNat yf.toNat = cf at *
  generalize (!(nanW xf.toNat || nanW yf.toNat)) = ok at *
  generalize Lib.compareBytes sx.data.toList sy.data.toList = ct at *
  generalize cmp3 xn yn = cn at *
  go_enter Tryz.func78, Tryz.ntmps78
  go_wp2_with fail
  generalize World.alloc (World.alloc w _) _ = W0 at Hd ⊢
  generalize hA : w.heap.size = A at *
  refine (HA.out W0).mono ?_
  rintro e w1 ⟨rfl, hb⟩
  have D1 := Lib.hid (Hd.out.below hb)
  have hal := (Below.refl w1.heap.size w1).alloc (Nat.le_refl _) (.cells #[.int .i64 xk, .int .i64 xn, .string sx, .int .u64 xf] 26)
  have D2 := Lib.hid (D1.out.below hal)
  have X2 := Lib.hid (At.new w1 xk xn sx xf 26)
  clear hb hal
  go_upto_region 2 with fail
  generalize World.alloc w1 _ = W2 at D2 X2 ⊢
  generalize w1.heap.size = B at *
  obtain ⟨b0, b1, b2, b3, -, -⟩ := D2.out.two
  simp only at b0 b1 b2 b3
  go_wp2_with fail
  refine (HB.out W2).mono ?_
  rintro e w3 ⟨rfl, hb⟩
  have D3 := Lib.hid (D2.out.below hb)
  have X3 := Lib.hid (X2.out.below hb X2.out.lt)
  have hal := (Below.refl w3.heap.size w3).alloc (Nat.le_refl _) (.cells #[.int .i64 yk, .int .i64 yn, .string sy, .int .u64 yf] 26)
  have D4 := Lib.hid (D3.out.below hal)
  have X4 := Lib.hid (X3.out.below hal X3.out.lt)
  have Y4 := Lib.hid (At.new w3 yk yn sy yf 26)
  clear hb hal b0 b1 b2 b3
  go_upto_region 3 with fail
  generalize World.alloc w3 _ = W4 at D4 X4 Y4 ⊢
  generalize w3.heap.size = C at *
  have Hbl := Lib.hid D4.out.bel
  rw [← hA] at Hbl
  obtain ⟨x0, x1, x2, x3, -, -⟩ := X4.out
  obtain ⟨y0, y1, y2, y3, -, -⟩ := Y4.out
  have hi := Hi.out
  have hq := Hq.out
  clear HA HB Hd D1 D2 D3 X2 X3 hA Hi Hq
  by_cases h0 : xk = 0
  · rw [if_pos (.inl h0)] at hi
    rw [if_pos (.inr h0)] at hq
    have Hi2 := Lib.hid hi; have Hq2 := Lib.hid hq
    subst h0
    clear hi hq
    go_wp2_with fail
    go_ret2
    exact ⟨by rw [Hi2.out, Hq2.out]; rfl, Hbl.out⟩
  have k0 : (xk == 0) = false := by rw [beq_eq_false_iff_ne]; exact h0
  by_cases h1 : xk = yk
  · subst h1
    rw [if_neg (by simp [h0])] at hi hq
    by_cases h4 : xk = 4
    · rw [if_pos h4] at hi hq
      have Hi2 := Lib.hid hi; have Hq2 := Lib.hid hq
      subst h4
      clear hi hq
      go_wp2_with fail
      refine (Hcf.out W4).mono ?_
      rintro e w5 ⟨rfl, rfl⟩
      go_wp2_with fail
      go_ret2
      exact ⟨by rw [Hi2.out, Hq2.out]; rfl, Hbl.out⟩
    have k4 : (xk == 4) = false := by rw [beq_eq_false_iff_ne]; exact h4
    rw [if_neg h4] at hi hq
    by_cases h3 : xk = 3
    · rw [if_pos h3] at hi
      have Hi2 := Lib.hid hi; have Hq2 := Lib.hid hq
      have Hc3 := Lib.hid (Hct.out h3 h3)
      subst h3
      clear hi hq Hct
      go_wp2_with fail
      refine (Hc3.out W4).mono ?_
      rintro e w5 ⟨rfl, hb⟩
      have hbb := Hbl.out.trans (hb.mono Hbl.out.size)
      go_wp2_with fail
      go_ret2
      exact ⟨by rw [Hi2.out, Hq2.out]; rfl, hbb⟩
    have k3 : (xk == 3) = false := by rw [beq_eq_false_iff_ne]; exact h3
    rw [if_neg h3] at hi
    have Hi2 := Lib.hid hi; have Hq2 := Lib.hid hq
    clear hi hq Hct
    go_wp2_with fail
    refine (Hcn.out W4).mono ?_
    rintro e w5 ⟨rfl, rfl⟩
    go_wp2_with fail
    go_ret2
    exact ⟨by rw [Hi2.out, Hq2.out]; rfl, Hbl.out⟩
  · rw [if_pos (.inr h1)] at hi
    rw [if_pos (.inl h1)] at hq
    have Hi2 := Lib.hid hi; have Hq2 := Lib.hid hq
    have k1 : (xk != yk) = true := by rw [bne_iff_ne]; exact h1
    clear hi hq Hct
    go_wp2_with fail
    go_ret2
    exact ⟨by rw [Hi2.out, Hq2.out]; rfl, Hbl.out⟩
end Go.Proofs.YtfkghfmgeholeaaGreatDoor
namespace Go.Proofs.YtfkghfmgeholeaaGreatDoor
open Go.RowKit

theorem cmp3_anti (a b : Int) : cmp3 b a = -(cmp3 a b) := by unfold cmp3; split <;> split <;> (try split) <;> (try split) <;> omega
theorem cmp3_zero3 {a b : Int} (h : cmp3 a b = 0) : a = b := by
  rcases Int.lt_trichotomy a b with h1 | h1 | h1
  · unfold cmp3 at h; rw [if_pos h1] at h; omega
  · exact h1
  · unfold cmp3 at h; rw [if_neg (by omega), if_pos h1] at h; omega
theorem cmp3_rng (a b : Int) : cmp3 a b = -1 ∨ cmp3 a b = 0 ∨ cmp3 a b = 1 := by unfold cmp3; split <;> (try split) <;> omega
theorem cmpB_self (x : List UInt8) : Lib.compareBytes x x = 0 := by
  induction x with
  | nil => rfl
  | cons c x ih => rw [cmpBytes_eq, ih]
theorem cmpB_cons (c d : UInt8) (x y : List UInt8) : Lib.compareBytes (c :: x) (d :: y) = if cmp3 (c.toNat : Int) (d.toNat : Int) = 0 then Lib.compareBytes x y else cmp3 (c.toNat : Int) (d.toNat : Int) := by
  by_cases h : c = d
  · subst h
    rw [cmpBytes_eq, if_pos (cmp3_self _)]
  · rw [cmpBytes_ne c d x y h, if_neg]
    intro e
    have := cmp3_zero3 e
    exact h (UInt8.toNat_inj.1 (by omega))
theorem cmpB_anti (x : List UInt8) : ∀ y, Lib.compareBytes y x = -(Lib.compareBytes x y) := by
  induction x with
  | nil => intro y; cases y <;> rfl
  | cons c x ih =>
    intro y
    cases y with
    | nil => rfl
    | cons d y =>
      rw [cmpB_cons, cmpB_cons, ih y, cmp3_anti (c.toNat : Int) (d.toNat : Int)]
      by_cases h : cmp3 (c.toNat : Int) (d.toNat : Int) = 0
      · rw [if_pos (by omega), if_pos h]
      · rw [if_neg (by omega), if_neg h]
theorem cmpB_zero (x : List UInt8) : ∀ y, Lib.compareBytes x y = 0 → x = y := by
  induction x with
  | nil => intro y h; cases y with
    | nil => rfl
    | cons d y => cases h
  | cons c x ih =>
    intro y h
    cases y with
    | nil => cases h
    | cons d y =>
      rw [cmpB_cons] at h
      by_cases h0 : cmp3 (c.toNat : Int) (d.toNat : Int) = 0
      · rw [if_pos h0] at h
        have h1 := cmp3_zero3 h0
        rw [ih y h, UInt8.toNat_inj.1 (show c.toNat = d.toNat by omega)]
      · rw [if_neg h0] at h; exact absurd h h0
theorem cmpB_rng (x : List UInt8) : ∀ y, Lib.compareBytes x y = -1 ∨ Lib.compareBytes x y = 0 ∨ Lib.compareBytes x y = 1 := by
  induction x with
  | nil => intro y; cases y with
    | nil => exact .inr (.inl rfl)
    | cons d y => exact .inl rfl
  | cons c x ih =>
    intro y
    cases y with
    | nil => exact .inr (.inr rfl)
    | cons d y =>
      rw [cmpB_cons]
      split
      · exact ih y
      · exact cmp3_rng _ _
/-- first by numbers, then by something else -/
theorem lex_le {a b c p q r : Int} (h1 : (if cmp3 a b = 0 then p else cmp3 a b) ≤ 0) (h2 : (if cmp3 b c = 0 then q else cmp3 b c) ≤ 0) (h3 : p ≤ 0 → q ≤ 0 → r ≤ 0) : (if cmp3 a c = 0 then r else cmp3 a c) ≤ 0 := by
  rcases Int.lt_trichotomy a b with ab | ab | ab <;> rcases Int.lt_trichotomy b c with bc | bc | bc
  all_goals
    unfold cmp3 at *
    first
      | (rw [if_pos (show a < b by omega)] at h1; rw [if_pos (show a < c by omega)]; rw [if_neg (by omega)]; omega)
      | (rw [if_pos (show b < c by omega)] at h2; rw [if_pos (show a < c by omega)]; rw [if_neg (by omega)]; omega)
      | (rw [if_neg (show ¬ a < b by omega), if_pos (show b < a by omega), if_neg (by omega)] at h1; omega)
      | (rw [if_neg (show ¬ b < c by omega), if_pos (show c < b by omega), if_neg (by omega)] at h2; omega)
      | (rw [if_neg (show ¬ a < b by omega), if_neg (show ¬ b < a by omega), if_pos rfl] at h1
         rw [if_neg (show ¬ b < c by omega), if_neg (show ¬ c < b by omega), if_pos rfl] at h2
         rw [if_neg (show ¬ a < c by omega), if_neg (show ¬ c < a by omega), if_pos rfl]
         exact h3 h1 h2)
theorem cmpB_trans (x : List UInt8) : ∀ y z, Lib.compareBytes x y ≤ 0 → Lib.compareBytes y z ≤ 0 → Lib.compareBytes x z ≤ 0 := by
  induction x with
  | nil => intro y z _ _; cases z with
    | nil => exact Int.le_refl _
    | cons _ _ => show (-1 : Int) ≤ 0; omega
  | cons c x ih =>
    intro y z h1 h2
    cases y with
    | nil => exact absurd h1 (by show ¬ (1 : Int) ≤ 0; omega)
    | cons d y =>
      cases z with
      | nil => exact absurd h2 (by show ¬ (1 : Int) ≤ 0; omega)
      | cons e z =>
        rw [cmpB_cons] at h1 h2 ⊢
        exact lex_le h1 h2 (ih y z)
/-- .. and by texts -/
theorem lexB_le {x y z : List UInt8} {p q r : Int} (h1 : (if Lib.compareBytes x y = 0 then p else Lib.compareBytes x y) ≤ 0) (h2 : (if Lib.compareBytes y z = 0 then q else Lib.compareBytes y z) ≤ 0) (h3 : p ≤ 0 → q ≤ 0 → r ≤ 0) : (if Lib.compareBytes x z = 0 then r else Lib.compareBytes x z) ≤ 0 := by
  by_cases e1 : x = y
  · subst e1
    rw [if_pos (cmpB_self x)] at h1
    by_cases e2 : x = z
    · subst e2
      rw [if_pos (cmpB_self x)] at h2 ⊢
      exact h3 h1 h2
    · have hne : Lib.compareBytes x z ≠ 0 := fun e => e2 (cmpB_zero _ _ e)
      rw [if_neg hne] at h2 ⊢
      exact h2
  · have n1 : Lib.compareBytes x y ≠ 0 := fun e => e1 (cmpB_zero _ _ e)
    rw [if_neg n1] at h1
    by_cases e2 : y = z
    · subst e2
      rw [if_neg n1]
      exact h1
    · have n2 : Lib.compareBytes y z ≠ 0 := fun e => e2 (cmpB_zero _ _ e)
      rw [if_neg n2] at h2
      have ht := cmpB_trans x y z h1 h2
      by_cases e3 : Lib.compareBytes x z = 0
      · have := cmpB_zero _ _ e3
        subst this
        have := cmpB_anti x y
        omega
      · rw [if_neg e3]; exact ht
theorem ordX_lex (x y : Val) : ordX x y = if cmp3 x.k y.k = 0 then (if cmp3 x.n y.n = 0 then (if Lib.compareBytes x.s.data.toList y.s.data.toList = 0 then ordF x.f y.f else Lib.compareBytes x.s.data.toList y.s.data.toList) else cmp3 x.n y.n) else cmp3 x.k y.k := by
  unfold ordX
  rw [compareInt_eq]
  unfold orL orL orL
  rw [orL_last]
theorem ordF_trans (a b c : Int) (h1 : ordF a b ≤ 0) (h2 : ordF b c ≤ 0) : ordF a c ≤ 0 := by
  have e1 : (if cmp3 (rankV a) (rankV b) = 0 then 0 else cmp3 (rankV a) (rankV b)) ≤ 0 := by
    split
    · omega
    · exact h1
  have e2 : (if cmp3 (rankV b) (rankV c) = 0 then 0 else cmp3 (rankV b) (rankV c)) ≤ 0 := by
    split
    · omega
    · exact h2
  have h := lex_le (r := 0) e1 e2 (fun _ _ => by omega)
  unfold ordF
  split at h
  · omega
  · exact h
theorem ordX_trans {x y z : Val} (h1 : ordX x y ≤ 0) (h2 : ordX y z ≤ 0) : ordX x z ≤ 0 := by
  rw [ordX_lex] at *
  exact lex_le h1 h2 fun g1 g2 => lex_le g1 g2 fun k1 k2 => lexB_le k1 k2 fun l1 l2 => ordF_trans _ _ _ l1 l2
theorem ordX_anti (x y : Val) : ordX y x = -(ordX x y) := by
  rw [ordX_lex, ordX_lex, cmp3_anti x.k y.k, cmp3_anti x.n y.n, cmpB_anti x.s.data.toList y.s.data.toList]
  have hf : ordF y.f x.f = -(ordF x.f y.f) := cmp3_anti _ _
  rw [hf]
  split <;> split <;> (try split) <;> (try split) <;> (try split) <;> (try split) <;> omega
theorem ordX_rng (x y : Val) : ordX x y = -1 ∨ ordX x y = 0 ∨ ordX x y = 1 := by
  rw [ordX_lex]
  split
  · split
    · split
      · exact cmp3_rng _ _
      · exact cmpB_rng _ _
    · exact cmp3_rng _ _
  · exact cmp3_rng _ _
theorem rightC_f {x : Val} (h : RightC x) : canonF x.f = x.f := by
  rcases h with ⟨k, n, s, f⟩ | ⟨k, s, f⟩ | ⟨k, s, f, n⟩ | ⟨k, n, f, s⟩ | ⟨k, n, s, f⟩
  · rw [f]; decide
  · rw [f]; decide
  · rw [f]; decide
  · rw [f]; decide
  · exact f
theorem ordX_zero {x y : Val} (hx : RightC x) (hy : RightC y) (wx : x.Wf) (wy : y.Wf) : ordX x y = 0 ↔ x = y := by
  constructor
  · intro h
    rw [ordX_lex] at h
    split at h
    · rename_i hk
      split at h
      · rename_i hn
        split at h
        · rename_i hs
          have h1 := cmp3_zero3 hk
          have h2 := cmp3_zero3 hn
          have h3 := cmpB_zero _ _ hs
          have h4 : rankV x.f = rankV y.f := cmp3_zero3 h
          have h5 := (rank_inj wx.f0 wx.f1 wy.f0 wy.f1).1 h4
          rw [rightC_f hx, rightC_f hy] at h5
          have h6 : x.s = y.s := by
            apply ByteArray.ext
            exact Array.toList_inj.1 h3
          cases x; cases y
          simp only at *
          subst h1 h2 h5 h6
          rfl
        · contradiction
      · contradiction
    · contradiction
  · intro h
    subst h
    rw [ordX_lex, cmp3_self, if_pos rfl, cmp3_self, if_pos rfl, cmpB_self, if_pos rfl]
    exact ordF_self _
theorem cmp_ord {x y : Val} (hx : RightC x) (hy : RightC y) (wx : x.Wf) (wy : y.Wf) (h : cmpXb x y = true) (hc : cmpXi x y ≠ 0) : cmpXi x y = ordX x y := by
  rw [cmpX_eq hx hy] at hc ⊢
  rw [ordX_eq hx hy]
  unfold cmpXb at h
  split at h
  · cases h
  · rename_i hk
    have hk2 : x.k = y.k := by omega
    unfold ordRi
    rw [if_neg (by simp [hk2])]
    split at h
    · rename_i h4
      rw [if_pos h4]
      unfold cmpRi at hc ⊢
      rw [if_neg (by simp [hk2]; omega), if_pos h4] at hc ⊢
      have hn : nanW x.f.toNat = false ∧ nanW y.f.toNat = false := by
        simp only [Bool.not_eq_true', Bool.or_eq_false_iff] at h
        exact h
      exact (ordF_of_cmp wx.f0 wx.f1 wy.f0 wy.f1 hn.1 hn.2 hc).symm
    · rename_i h4
      rw [if_neg h4]
theorem val_ext {ak an bk bn af bf : Int} {sa sb : ByteArray} (h1 : ak = bk) (h2 : an = bn) (h3 : sa.toList = sb.toList) (h4 : af = bf) : Val.mk ak an sa af = Val.mk bk bn sb bf := by
  have : sa = sb := by
    rw [ByteArray.toList_eq, ByteArray.toList_eq] at h3
    exact ByteArray.ext (Array.toList_inj.1 h3)
  rw [h1, h2, this, h4]
end Go.Proofs.YtfkghfmgeholeaaGreatDoor
