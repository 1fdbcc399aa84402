/- A checker on the heap; the walk of its fault. -/
import Derived.Test.YtfkghfmgeholeaaGreatDoorCb1
set_option linter.unusedVariables false
set_option linter.unusedSimpArgs false
namespace Go.Proofs.YtfkghfmgeholeaaGreatDoor
open Go.RowKit

/-- a checker: its fields, the fault's place, the error -/
structure CkAt (w : World) (P : Nat) (a : Option Addr) (n c : Nat) (l : List Fd) (s : Int × Int) : Prop where
  c0 : w.cell? ⟨P, 0, none⟩ = some (.slice a n c)
  c1 : w.cell? ⟨P, 1, none⟩ = some (.int .i64 s.1)
  c2 : w.cell? ⟨P, 2, none⟩ = some (.int .i64 s.2)
  z : ∀ o, w.frozen? ⟨P, o, none⟩ = false
  lt : P < w.heap.size
  fs : FSl w a n l
  off : ∀ b o, a = some ⟨b, o, none⟩ → b ≠ P
theorem FSl.but {w w' : World} {a : Option Addr} {n P : Nat} {l : List Fd} (h : FSl w a n l) (hb : But P w w') (ho : ∀ b o, a = some ⟨b, o, none⟩ → b ≠ P) : FSl w' a n l :=
  ⟨h.1, fun i f hf => by
    obtain ⟨b, o, e, ha⟩ := h.2 i f hf
    exact ⟨b, o, e, ha.map fun i v hc => hb.cell hc (ho b o e)⟩⟩
theorem CkAt.below {w w' : World} {P : Nat} {a : Option Addr} {n c : Nat} {l : List Fd} {s : Int × Int} (h : CkAt w P a n c l s) (hb : Below w.heap.size w w') : CkAt w' P a n c l s :=
  ⟨(hb.cell h.lt).trans h.c0, (hb.cell h.lt).trans h.c1, (hb.cell h.lt).trans h.c2, fun o => (hb.frozen h.lt).trans (h.z o), Nat.lt_of_lt_of_le h.lt hb.size, h.fs.later hb, h.off⟩
theorem CkAt.set {w : World} {P : Nat} {a : Option Addr} {n c : Nat} {l : List Fd} {s : Int × Int} (h : CkAt w P a n c l s) (x y : Int) : CkAt ((w.setCell ⟨P, 1, none⟩ (.int .i64 x)).setCell ⟨P, 2, none⟩ (.int .i64 y)) P a n c l (x, y) := by
  obtain ⟨c0, c1, c2, z, lt, fs, off⟩ := h
  have hb := ((But.refl P w).set 1 (.int .i64 x)).set 2 (.int .i64 y)
  exact ⟨cell_off (cell_off c0 (addr_ne P (by decide))) (addr_ne P (by decide)), cell_off (World.cell?_setCell_same _ _ _ c1) (addr_ne P (by decide)), World.cell?_setCell_same _ _ _ (cell_off c2 (addr_ne P (by decide))), fun o => by simp only [World.frozen?_setCell]; exact z o, by simpa [World.setCell] using lt, fs.but hb off, off⟩
set_option maxHeartbeats 8000000 in
set_option maxRecDepth 100000 in
theorem fault_any (w : World) (P : Nat) (a : Option Addr) (n c : Nat) (l : List Fd) (s : Int × Int) (h : CkAt w P a n c l s) (t : Tree) (ta : Option Addr) (tn tc : Nat) (x : Int) :
    Calls Tryz.prog 50 #[.pointer (some ⟨P, 0, none⟩), t.val ta tn tc, .int .i64 x] w fun e w' => e = .returned (.tuple #[]) ∧ CkAt w' P a n c l (updF s (some (t.pos, x))) ∧ But P w w' := by
  have H := Lib.hid h
  have hb0 := Below.new w (.cells (t.cells ta tn tc) 30)
  have H0 := Lib.hid (h.below hb0)
  have HB0 : Hid (But P w _) := Lib.hid (But.of hb0)
  have HV0 := Lib.hid (KVar.new w t ta tn tc 30)
  have HPl := Lib.hid h.lt
  clear h hb0
  simp only [Tree.val]
  by_cases hs : s.2 = 0
  · have hu : updF s (some (t.pos, x)) = (t.pos, x) := by unfold updF; rw [if_pos hs]; rfl
    rw [hu]
    have z0 : (s.2 == 0) = true := by rw [hs]; rfl
    go_enter Tryz.func50, Tryz.ntmps50
    go_upto_region 1 with fail
    generalize (w.alloc _) = W at H0 HB0 HV0 ⊢
    have c1 := H0.out.c1; have c2 := H0.out.c2; have z1 := H0.out.z 1; have z2 := H0.out.z 2
    have hPW : P ≠ w.heap.size := Nat.ne_of_lt HPl.out
    rw [hs] at c2
    obtain ⟨k0, k1, k2, k3, k4, k5, k6, k7, k8, -, -⟩ := HV0.out
    go_wp2_with fail
    go_end0
    exact ⟨rfl, H0.out.set _ _, (HB0.out.set 1 _).set 2 _⟩
  · have hu : updF s (some (t.pos, x)) = s := by unfold updF; rw [if_neg hs]
    rw [hu]
    have z0 : (s.2 == 0) = false := beq_eq_false_iff_ne.2 hs
    go_enter Tryz.func50, Tryz.ntmps50
    go_upto_region 1 with fail
    generalize (w.alloc _) = W at H0 HB0 HV0 ⊢
    have c2 := H0.out.c2
    go_wp2_with fail
    go_end0
    exact ⟨rfl, H0.out, HB0.out⟩
end Go.Proofs.YtfkghfmgeholeaaGreatDoor
