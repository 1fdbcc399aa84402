/- The walks of the deferred closure of parse.Parse: nothing to recover; a fault. -/
import Derived.Test.YtfkghfmgeholeaaGreatDoorPd0
import Derived.Defers
import Derived.Recover
import Derived.RegionTactic
import Derived.BigRegion
set_option linter.unusedVariables false
set_option linter.unusedSimpArgs false
namespace Go.Proofs.YtfkghfmgeholeaaGreatDoor
open Go.RowKit

set_option maxHeartbeats 8000000 in
set_option maxRecDepth 100000 in
theorem catch_idle (a b c : Nat) (w : World) :
    CallsD Tryz.prog 37 #[.pointer (some ⟨a, 0, none⟩), .pointer (some ⟨b, 0, none⟩), .pointer (some ⟨c, 0, none⟩)] .returning w fun e u' w' => e = .returned (.tuple #[]) ∧ u' = .returning ∧ w' = w := by
  refine callsD_of_wpS Tryz.func37 rfl fun c₀ cs hu => ?_
  apply wpS_seq
  apply wpS_region
  simp [wpOpsS, go_sem, recoverD, hu, Tryz.ntmps37, Exit.thenS]
  refine wpS_of_wp ?_
  simp only [Array.replicate, List.replicate, List.setIfInBounds_toArray, List.set_cons_zero, List.set_cons_succ, List.append_toArray, List.cons_append, List.nil_append]
  go_wp2_with fail
  simp [bodyPostS, results, Tryz.results37]
  cases c₀
  simp_all
/-- what a fault leaves: the results' variables -/
structure Caught (B a b c p : Nat) (w w' : World) : Prop where
  a : KVar w' a (.mk 0 0 [] 0 zeroVal []) none 0 0
  b : w'.cell? ⟨b, 0, none⟩ = some (.int .i64 (p : Int))
  c : w'.cell? ⟨c, 0, none⟩ = some (.int .i64 160)
  bel : Below B w w'
theorem below_put9 {B b : Nat} {w W : World} (h : Below B w W) (hb : B ≤ b) (v0 v1 v2 v3 v4 v5 v6 v7 v8 : Value) : Below B w (st9 W b v0 v1 v2 v3 v4 v5 v6 v7 v8) :=
  ((((((((h.setCell (p := ⟨b, 0, none⟩) hb _).setCell (p := ⟨b, 1, none⟩) hb _).setCell (p := ⟨b, 2, none⟩) hb _).setCell (p := ⟨b, 3, none⟩) hb _).setCell (p := ⟨b, 4, none⟩) hb _).setCell (p := ⟨b, 5, none⟩) hb _).setCell (p := ⟨b, 6, none⟩) hb _).setCell (p := ⟨b, 7, none⟩) hb _).setCell (p := ⟨b, 8, none⟩) hb _
theorem caught_mk {B a b c p : Nat} {w W : World} {t : Tree} {aa : Option Addr} {an ac : Nat} {y z : Int} (ha : KVar W a t aa an ac) (hb : W.cell? ⟨b, 0, none⟩ = some (.int .i64 y)) (hc : W.cell? ⟨c, 0, none⟩ = some (.int .i64 z)) (hab : a ≠ b) (hac : a ≠ c) (hbc : b ≠ c) (hBa : B ≤ a) (hBb : B ≤ b) (hBc : B ≤ c) (hB : Below B w W) :
    Caught B a b c p w ((((st9 W a (.int .i64 0) (.int .i64 0) (.string ⟨#[]⟩) (.int .i64 0) (.int .i64 0) (.string ⟨#[]⟩) (.int .u64 0) (.int .i64 0) (.slice none 0 0)).setCell ⟨b, 0, none⟩ (.int .i64 (p : Int))).setCell ⟨c, 0, none⟩ (.int .i64 160)).drew) := by
  have h1 : KVar (st9 W a (.int .i64 0) (.int .i64 0) (.string ⟨#[]⟩) (.int .i64 0) (.int .i64 0) (.string ⟨#[]⟩) (.int .u64 0) (.int .i64 0) (.slice none 0 0)) a (.mk 0 0 [] 0 zeroVal []) none 0 0 := ha.put (.mk 0 0 [] 0 zeroVal []) none 0 0
  have off : ∀ (d : Nat) (x : Value), a ≠ d → W.cell? ⟨d, 0, none⟩ = some x → (st9 W a (.int .i64 0) (.int .i64 0) (.string ⟨#[]⟩) (.int .i64 0) (.int .i64 0) (.string ⟨#[]⟩) (.int .u64 0) (.int .i64 0) (.slice none 0 0)).cell? ⟨d, 0, none⟩ = some x := fun d x hd hx =>
    cell_off (cell_off (cell_off (cell_off (cell_off (cell_off (cell_off (cell_off (cell_off hx (addr_block_ne hd _ _)) (addr_block_ne hd _ _)) (addr_block_ne hd _ _)) (addr_block_ne hd _ _)) (addr_block_ne hd _ _)) (addr_block_ne hd _ _)) (addr_block_ne hd _ _)) (addr_block_ne hd _ _)) (addr_block_ne hd _ _)
  have hb2 := off b _ hab hb
  have hc2 := off c _ hac hc
  have hB2 := below_put9 hB hBa (.int .i64 0) (.int .i64 0) (.string ⟨#[]⟩) (.int .i64 0) (.int .i64 0) (.string ⟨#[]⟩) (.int .u64 0) (.int .i64 0) (.slice none 0 0)
  generalize (st9 W a _ _ _ _ _ _ _ _ _) = Y at *
  have h3 := (h1.off (b' := b) hab.symm 0 (.int .i64 (p : Int))).off (b' := c) hac.symm 0 (.int .i64 160)
  exact ⟨h3.below (Below.refl _ _).drew h3.lt, cell_off (World.cell?_setCell_same _ _ _ hb2) (addr_block_ne hbc.symm _ _), World.cell?_setCell_same _ _ _ (cell_off hc2 (addr_block_ne hbc _ _)), ((hB2.setCell (p := ⟨b, 0, none⟩) hBb _).setCell (p := ⟨c, 0, none⟩) hBc _).drew⟩
set_option maxHeartbeats 8000000 in
set_option maxRecDepth 100000 in
theorem catch_fault (B a b c p : Nat) (older : List PanicEntry) (w : World) (t : Tree) (aa : Option Addr) (an ac : Nat) (y z : Int) (ha : KVar w a t aa an ac) (hb : w.cell? ⟨b, 0, none⟩ = some (.int .i64 y)) (hc : w.cell? ⟨c, 0, none⟩ = some (.int .i64 z)) (zb : w.frozen? ⟨b, 0, none⟩ = false) (zc : w.frozen? ⟨c, 0, none⟩ = false) (hab : a ≠ b) (hac : a ≠ c) (hbc : b ≠ c) (hBa : B ≤ a) (hBb : B ≤ b) (hBc : B ≤ c) :
    CallsD Tryz.prog 37 #[.pointer (some ⟨a, 0, none⟩), .pointer (some ⟨b, 0, none⟩), .pointer (some ⟨c, 0, none⟩)] (.panicking ({ v := faultV p, recovered := false } :: older)) w fun e u' w' => e = .returned (.tuple #[]) ∧ u' = .panicking ({ v := faultV p, recovered := true } :: older) ∧ Caught B a b c p w w' := by
  have hta : ∀ (v : Value) (w : World), (Instr.typeAssert (.iface 77 (.agg #[v])) 20 77 true).run Tryz.prog w = .ok (.tuple #[.agg #[v], .bool true]) w := by intro v w; kernel_rfl
  refine callsD_of_wpS Tryz.func37 rfl fun c₀ cs hu => ?_
  apply wpS_seq
  apply wpS_region
  simp [wpOpsS, go_sem, recoverD, hu, Tryz.ntmps37, Exit.thenS]
  refine wpS_of_wp ?_
  simp only [Array.replicate, List.replicate, List.setIfInBounds_toArray, List.set_cons_zero, List.set_cons_succ, List.append_toArray, List.cons_append, List.nil_append, faultV]
  have hbl := World.block_lt_of_cell? w _ hb
  have hcl := World.block_lt_of_cell? w _ hc
  have hal := ha.lt
  have Ha := Lib.hid ha
  clear ha
  go_upto_region 7 with fail
  have hbn := Below.new w (.cells #[.int .i64 (p : Int)] 77)
  have hF : (w.alloc (.cells #[.int .i64 (p : Int)] 77)).cell? ⟨w.heap.size, 0, none⟩ = some (.int .i64 (p : Int)) := by simp
  have ha := Ha.out.below hbn hal
  have hb1 := (hbn.cell (p := ⟨b, 0, none⟩) hbl).trans hb
  have hc1 := (hbn.cell (p := ⟨c, 0, none⟩) hcl).trans hc
  have zb1 := (hbn.frozen (p := ⟨b, 0, none⟩) hbl).trans zb
  have zc1 := (hbn.frozen (p := ⟨c, 0, none⟩) hcl).trans zc
  have hBn : Below B w (w.alloc (.cells #[.int .i64 (p : Int)] 77)) := hbn.mono (by omega)
  have hfa : w.heap.size ≠ a := by omega
  have hfb : w.heap.size ≠ b := Nat.ne_of_gt hbl
  have hfc : w.heap.size ≠ c := Nat.ne_of_gt hcl
  clear hbn hb hc zb zc hbl hcl hal Ha hta
  generalize (w.alloc _) = W at hF ha hb1 hc1 zb1 zc1 hBn ⊢
  generalize w.heap.size = F at hF hfa hfb hfc ⊢
  have hba := hab.symm; have hca := hac.symm; have hcb := hbc.symm
  have haf := hfa.symm; have hbf := hfb.symm; have hcf := hfc.symm
  have HA := Lib.hid ha; have HBn := Lib.hid hBn
  obtain ⟨k0, k1, k2, k3, k4, k5, k6, k7, k8, kz, -⟩ := ha
  clear hBn
  go_region
  go_wp2_with fail
  have hC := caught_mk (p := p) HA.out hb1 hc1 hab hac hbc hBa hBb hBc HBn.out
  simp [bodyPostS, results, Tryz.results37]
  exact hC
end Go.Proofs.YtfkghfmgeholeaaGreatDoor
