/- The walk of ParseDeep. -/
import Derived.Test.YthhghlnbpigcjaaGreatDoorZNParseReads
import Derived.Test.YthhghlnbpigcjaaGreatDoorZPn0
import Derived.Test.YthhghlnbpigcjaaGreatDoorZPd0
import Derived.Deep.RegionHeld3
import Derived.Deep.RegionWith
set_option linter.unusedVariables false
set_option linter.unusedSimpArgs false
namespace Go.Proofs.YthhghlnbpigcjaaGreatDoor
open Go.RowKit

theorem emod_tmod {a k : Int} (h : 0 ≤ a) : a.tmod k = a % k := Int.tmod_eq_emod_of_nonneg h
set_option maxHeartbeats 32000000 in
set_option maxRecDepth 100000 in
theorem parseDeep_walk (w : World) (hl : Laid w) (hs : Spc w) (x y z : Int) (hx : 0 ≤ x ∧ x ≤ 255) (hy : 0 ≤ y ∧ y ≤ 18446744073709551615) (hz : 0 ≤ z ∧ z ≤ 255) :
    Calls Tryz.prog 4 #[.int .u8 x, .int .u64 y, .int .u8 z] w fun e w' => e = .returned (.bool true) ∧ Below w.heap.size w w' := by
  have Hl := Lib.hid hl; have Hs := Lib.hid hs
  have Hf := Lib.hid (first17_any w hl hs)
  obtain ⟨M, hM⟩ : ∃ M : Int, x.tmod 30 = M := ⟨_, rfl⟩
  obtain ⟨R, hR⟩ : ∃ R : Int, z.tmod 60 = R := ⟨_, rfl⟩
  have hM0 : 0 ≤ M := by rw [emod_tmod hx.1] at hM; omega
  have hM1 : M ≤ 29 := by rw [emod_tmod hx.1] at hM; omega
  have hR0 : 0 ≤ R := by rw [emod_tmod hz.1] at hR; omega
  have hR1 : R ≤ 59 := by rw [emod_tmod hz.1] at hR; omega
  have hx0 := hx.1
  have hx1 := hx.2
  have hz0 := hz.1
  have hz1 := hz.2
  have HY := Lib.hid hy
  clear hl hs hx hy hz
  go_enter Tryz.func4, Tryz.ntmps4
  go_wp2_with fail
  refine Hf.out.mono ?_
  rintro e w1 ⟨rfl, hb1⟩
  have Hb1 := Lib.hid hb1
  clear hb1
  go_wp2_with fail
  go_loopg [7, 8, 21] M.toNat (fun g s z i wx => ∃ (l : List Bool) (A B : ByteArray) (I : Int), s = .string A ∧ z = .string B ∧ i = .int .i64 I ∧ 0 ≤ I ∧ I ≤ M ∧ Hid (I = (l.length : Int) ∧ A.data.toList = openB l ∧ B.size ≤ l.length ∧ g = M.toNat - l.length) ∧ wx = w1)
  case atStart => exact ⟨[], ⟨#[]⟩, ⟨#[]⟩, 0, rfl, rfl, rfl, by omega, by omega, Lib.hid ⟨rfl, rfl, Nat.le_refl _, rfl⟩, rfl⟩
  case round =>
    obtain ⟨l, A, B, I, rfl, rfl, rfl, hI0, hI1, HI, rfl⟩ := hrel
    have HI2 := HI
    have hAs : A.size ≤ 200 := by have := HI.out; have h2 := openB_length l; rw [← this.2.1, ← Lib.size_eq] at h2; omega
    have hBs : B.size ≤ 200 := by have := HI.out; omega
    by_cases hI : I < M
    · have hc1 : ∀ W : World, (Op.stringOp .add A ⟨#[40]⟩).run Tryz.prog W = .ok (.string (A ++ ⟨#[40]⟩)) W := fun W => run_string_add_sum W _ _ (by show A.size + 1 ≤ _; omega)
      have hc2 : ∀ W : World, (Op.stringOp .add ⟨#[41]⟩ B).run Tryz.prog W = .ok (.string (⟨#[41]⟩ ++ B)) W := fun W => run_string_add_sum W _ _ (by show 1 + B.size ≤ _; omega)
      have hc3 : ∀ W : World, (Op.stringOp .add A ⟨#[110, 111, 116, 32]⟩).run Tryz.prog W = .ok (.string (A ++ ⟨#[110, 111, 116, 32]⟩)) W := fun W => run_string_add_sum W _ _ (by show A.size + 4 ≤ _; omega)
      have hi64 : I.tmod 64 = I := by rw [emod_tmod hI0]; omega
      clear hAs hBs HI2
      go_wp2_with fail
      · go_roundg (gk - 1)
        case measure => have := HI.out; omega
        case rel => exact ⟨l ++ [false], _, _, I + 1, rfl, rfl, rfl, by omega, by omega, Lib.hid ⟨by have := HI.out; rw [List.length_append, List.length_singleton]; omega, by rw [openB_append, ← HI.out.2.1, ByteArray.data_append, Array.toList_append]; rfl, by have := HI.out; rw [ByteArray.size_append, List.length_append, List.length_singleton]; show 1 + B.size ≤ _; omega, by have := HI.out; rw [List.length_append, List.length_singleton]; omega⟩, rfl⟩
      · go_roundg (gk - 1)
        case measure => have := HI.out; omega
        case rel => exact ⟨l ++ [true], _, _, I + 1, rfl, rfl, rfl, by omega, by omega, Lib.hid ⟨by have := HI.out; rw [List.length_append, List.length_singleton]; omega, by rw [openB_append, ← HI.out.2.1, ByteArray.data_append, Array.toList_append]; rfl, by have := HI.out; rw [List.length_append]; omega, by have := HI.out; rw [List.length_append, List.length_singleton]; omega⟩, rfl⟩
    · have hc1 : ∀ W : World, (Op.stringOp .add A ⟨#[36, 97]⟩).run Tryz.prog W = .ok (.string (A ++ ⟨#[36, 97]⟩)) W := fun W => run_string_add_sum W _ _ (by show A.size + 2 ≤ _; omega)
      have HL : Hid ((l.length : Int) = M) := Lib.hid (by have := HI.out; omega)
      have HA2 : Hid ((A ++ ⟨#[36, 97]⟩ : ByteArray).data.toList = openB l ++ [36, 97] ∧ A.size ≤ 200) := Lib.hid ⟨by rw [← HI.out.2.1, ByteArray.data_append, Array.toList_append], hAs⟩
      have HB2 := Lib.hid hBs
      clear hAs HI2 hBs HI
      go_wp2_with fail
      go_loopg [7, 42] R.toNat (fun g s i wx => ∃ (C : ByteArray) (r : List UInt8) (J : Int), s = .string C ∧ i = .int .u8 J ∧ 0 ≤ J ∧ J ≤ R ∧ Hid (C.data.toList = openB l ++ r ∧ (C.size : Int) ≤ 202 + 7 * J ∧ g = R.toNat - J.toNat) ∧ wx = wr)
      case atStart => exact ⟨_, [36, 97], 0, rfl, rfl, by omega, by omega, Lib.hid ⟨HA2.out.1, by rw [ByteArray.size_append]; have := HA2.out.2; show ((A.size + 2 : Nat) : Int) ≤ _; omega, rfl⟩, rfl⟩
      case round =>
        obtain ⟨C, r, J, rfl, rfl, hJ0, hJ1, HJ, rfl⟩ := hrel
        have hCs : C.size ≤ 700 := by have := HJ.out; omega
        by_cases hJ : J < R
        · have hc4 : ∀ W : World, (Op.stringOp .add C ⟨#[32, 97, 110, 100, 32, 36, 98]⟩).run Tryz.prog W = .ok (.string (C ++ ⟨#[32, 97, 110, 100, 32, 36, 98]⟩)) W := fun W => run_string_add_sum W _ _ (by show C.size + 7 ≤ _; omega)
          clear hCs
          go_wp2_with fail
          go_roundg (gk - 1)
          case measure => have := HJ.out; omega
          case rel => exact ⟨_, r ++ [32, 97, 110, 100, 32, 36, 98], J + 1, rfl, rfl, by omega, by omega, Lib.hid ⟨by rw [← List.append_assoc, ← HJ.out.1, ByteArray.data_append, Array.toList_append], by have := HJ.out; rw [ByteArray.size_append]; show ((C.size + 7 : Nat) : Int) ≤ _; omega, by have := HJ.out; omega⟩, rfl⟩
        · have hc4 : ∀ W : World, (Op.stringOp .add C B).run Tryz.prog W = .ok (.string (C ++ B)) W := fun W => run_string_add_sum W _ _ (by have := HB2.out; show C.size + B.size ≤ _; omega)
          have hT : (C ++ B).data.toList = openB l ++ (r ++ B.data.toList) := by rw [ByteArray.data_append, Array.toList_append, HJ.out.1, List.append_assoc]
          have hTs : (C ++ B).size ≤ 100000 := by rw [ByteArray.size_append]; have := HB2.out; omega
          obtain ⟨t, p, er, hp, hor⟩ := parseF_err (C ++ B).data.toList
          have hnod := parseF_nodes hp hor
          have HM : Hid (20 < M → er = 160) := Lib.hid (fun h => by
            obtain ⟨p2, h2⟩ := parse_openB (l := l) (r ++ B.data.toList) (by have := HL.out; omega)
            rw [← hT, hp] at h2
            simp only [Prod.mk.injEq] at h2
            exact h2.2.2)
          have L1 : Hid (∀ W : World, Laid W → Spc W → Calls Tryz.prog 10 #[.string (C ++ B)] W fun e w' => ParseAns W w' (t, p, er) e) := Lib.hid fun W h1 h2 => hp ▸ pparse_any W h1 h2 (C ++ B)
          have L2 : Hid (∀ W : World, Laid W → Calls Tryz.prog 11 #[.string (C ++ B)] W fun e w' => ParseRAns W w' (t, p, er) e) := Lib.hid fun W h1 => hp ▸ refParse_any W h1 (C ++ B) hTs
          have L3 : Hid (∀ (W : World) (a : Option Addr) (n c : Nat) (b : Option Addr) (m k : Nat), KSl W w.heap.size t.kids a n → KSl W w.heap.size t.kids b m → Calls Tryz.prog 12 #[t.val a n c, t.val b m k, .bool true] W fun e w' => e = .returned (.bool true) ∧ Below W.heap.size W w') := Lib.hid fun W a n c b m k h1 h2 => by
            have := sameR_any true 1000000 (Nat.le_refl _) t t hnod W _ _ a n c b m k h1 h2
            rw [same_self] at this
            exact this
          have Hnod := Lib.hid hnod
          generalize (C ++ B : ByteArray) = T at L1 L2 hc4
          clear hT hTs hp hnod hCs
          go_wp2_with fail
          refine (L1.out _ (Hl.out.below Hb1.out) (Hs.out.below Hb1.out)).mono ?_
          rintro e w2 ⟨hb2, a, n, c, rfl, hk⟩
          have Hb2 := Lib.hid (Hb1.out.trans (hb2.mono Hb1.out.size))
          have HA2 := Lib.hid (hk.mono Hb1.out.size)
          clear hb2 hk
          simp only [Tree.val]
          go_upto_region 17 with fail
          generalize hW : World.alloc w2 _ = W3
          have hbn : Below w2.heap.size w2 W3 := by rw [← hW]; exact Below.new _ _
          have hvn : KVar W3 w2.heap.size t a n c := by rw [← hW]; exact KVar.new w2 t a n c _
          have Hb3 := Lib.hid (Hb2.out.trans (hbn.mono Hb2.out.size))
          have HA3 := Lib.hid (HA2.out.later hbn)
          have HV3 := Lib.hid hvn
          clear hW hbn hvn
          go_wp2_with fail
          refine (L2.out _ (Hl.out.below Hb3.out)).mono ?_
          rintro e w4 ⟨hb4, b, m, k, rfl, hk⟩
          have Hb4 := Lib.hid (Hb3.out.trans (hb4.mono Hb3.out.size))
          have HA4 := Lib.hid (HA3.out.later hb4)
          have HB4 := Lib.hid (hk.mono Hb3.out.size)
          have HV4 := Lib.hid (HV3.out.below hb4 HV3.out.lt)
          clear hb4 hk
          simp only [Tree.val]
          go_upto_region 18 with fail
          generalize hW : World.alloc w4 _ = W5
          have hbn : Below w4.heap.size w4 W5 := by rw [← hW]; exact Below.new _ _
          have hvn : KVar W5 w4.heap.size t b m k := by rw [← hW]; exact KVar.new w4 t b m k _
          have Hb5 := Lib.hid (Hb4.out.trans (hbn.mono Hb4.out.size))
          have HA5 := Lib.hid (HA4.out.later hbn)
          have HB5 := Lib.hid (HB4.out.later hbn)
          have HV5 := Lib.hid (HV4.out.below hbn HV4.out.lt)
          have HU5 := Lib.hid hvn
          clear hW hbn hvn
          have Hsame : Hid (∀ X, Below W5.heap.size W5 X → Calls Tryz.prog 12 #[.agg #[.int .i64 t.k, .int .i64 t.pos, .string ⟨t.col.toArray⟩, .int .i64 t.v.k, .int .i64 t.v.n, .string t.v.s, .int .u64 t.v.f, .int .i64 t.op, .slice a n c], .agg #[.int .i64 t.k, .int .i64 t.pos, .string ⟨t.col.toArray⟩, .int .i64 t.v.k, .int .i64 t.v.n, .string t.v.s, .int .u64 t.v.f, .int .i64 t.op, .slice b m k], .bool true] X fun e w' => e = .returned (.bool true) ∧ Below X.heap.size X w') := Lib.hid fun X hb => L3.out X a n c b m k (HA5.out.later hb) (HB5.out.later hb)
          have Hd1 : Hid (∀ X, Below W5.heap.size W5 X → Calls Tryz.prog 13 #[.agg #[.int .i64 t.k, .int .i64 t.pos, .string ⟨t.col.toArray⟩, .int .i64 t.v.k, .int .i64 t.v.n, .string t.v.s, .int .u64 t.v.f, .int .i64 t.op, .slice a n c]] X fun e w' => e = .returned (.int .i64 (t.depth : Int)) ∧ Below X.heap.size X w') := Lib.hid fun X hb => depth_any 1000000 (Nat.le_refl _) t Hnod.out X _ a n c (HA5.out.later hb)
          have Hd2 : Hid (∀ X, Below W5.heap.size W5 X → Calls Tryz.prog 14 #[.agg #[.int .i64 t.k, .int .i64 t.pos, .string ⟨t.col.toArray⟩, .int .i64 t.v.k, .int .i64 t.v.n, .string t.v.s, .int .u64 t.v.f, .int .i64 t.op, .slice b m k]] X fun e w' => e = .returned (.int .i64 (t.depth : Int)) ∧ Below X.heap.size X w') := Lib.hid fun X hb => depthR_any 1000000 (Nat.le_refl _) t Hnod.out X _ b m k (HB5.out.later hb)
          have HKS : Hid (∀ X, Below W5.heap.size W5 X → Below W5.heap.size W5 X ∧ X.cell? ⟨w2.heap.size, 0, none⟩ = some (.int .i64 t.k) ∧ X.cell? ⟨w2.heap.size, 1, none⟩ = some (.int .i64 t.pos) ∧ X.cell? ⟨w2.heap.size, 2, none⟩ = some (.string ⟨t.col.toArray⟩) ∧ X.cell? ⟨w2.heap.size, 3, none⟩ = some (.int .i64 t.v.k) ∧ X.cell? ⟨w2.heap.size, 4, none⟩ = some (.int .i64 t.v.n) ∧ X.cell? ⟨w2.heap.size, 5, none⟩ = some (.string t.v.s) ∧ X.cell? ⟨w2.heap.size, 6, none⟩ = some (.int .u64 t.v.f) ∧ X.cell? ⟨w2.heap.size, 7, none⟩ = some (.int .i64 t.op) ∧ X.cell? ⟨w2.heap.size, 8, none⟩ = some (.slice a n c) ∧ X.cell? ⟨w4.heap.size, 0, none⟩ = some (.int .i64 t.k) ∧ X.cell? ⟨w4.heap.size, 1, none⟩ = some (.int .i64 t.pos) ∧ X.cell? ⟨w4.heap.size, 2, none⟩ = some (.string ⟨t.col.toArray⟩) ∧ X.cell? ⟨w4.heap.size, 3, none⟩ = some (.int .i64 t.v.k) ∧ X.cell? ⟨w4.heap.size, 4, none⟩ = some (.int .i64 t.v.n) ∧ X.cell? ⟨w4.heap.size, 5, none⟩ = some (.string t.v.s) ∧ X.cell? ⟨w4.heap.size, 6, none⟩ = some (.int .u64 t.v.f) ∧ X.cell? ⟨w4.heap.size, 7, none⟩ = some (.int .i64 t.op) ∧ X.cell? ⟨w4.heap.size, 8, none⟩ = some (.slice b m k)) := Lib.hid fun X hb => by
            have kA := HV5.out.below hb HV5.out.lt
            have kB := HU5.out.below hb HU5.out.lt
            exact ⟨hb, kA.c0, kA.c1, kA.c2, kA.c3, kA.c4, kA.c5, kA.c6, kA.c7, kA.c8, kB.c0, kB.c1, kB.c2, kB.c3, kB.c4, kB.c5, kB.c6, kB.c7, kB.c8⟩
          rcases hor with rfl | ⟨rfl, -⟩
          · have hM20 : M ≤ 20 := by
              by_cases h : 20 < M
              · exact absurd (HM.out h) (by decide)
              · omega
            refine wp_region_noPanic ?_
            refine wp_region_held_drew (S := fun X => Below W5.heap.size W5 X ∧ X.cell? ⟨w2.heap.size, 0, none⟩ = some (.int .i64 t.k) ∧ X.cell? ⟨w2.heap.size, 1, none⟩ = some (.int .i64 t.pos) ∧ X.cell? ⟨w2.heap.size, 2, none⟩ = some (.string ⟨t.col.toArray⟩) ∧ X.cell? ⟨w2.heap.size, 3, none⟩ = some (.int .i64 t.v.k) ∧ X.cell? ⟨w2.heap.size, 4, none⟩ = some (.int .i64 t.v.n) ∧ X.cell? ⟨w2.heap.size, 5, none⟩ = some (.string t.v.s) ∧ X.cell? ⟨w2.heap.size, 6, none⟩ = some (.int .u64 t.v.f) ∧ X.cell? ⟨w2.heap.size, 7, none⟩ = some (.int .i64 t.op) ∧ X.cell? ⟨w2.heap.size, 8, none⟩ = some (.slice a n c) ∧ X.cell? ⟨w4.heap.size, 0, none⟩ = some (.int .i64 t.k) ∧ X.cell? ⟨w4.heap.size, 1, none⟩ = some (.int .i64 t.pos) ∧ X.cell? ⟨w4.heap.size, 2, none⟩ = some (.string ⟨t.col.toArray⟩) ∧ X.cell? ⟨w4.heap.size, 3, none⟩ = some (.int .i64 t.v.k) ∧ X.cell? ⟨w4.heap.size, 4, none⟩ = some (.int .i64 t.v.n) ∧ X.cell? ⟨w4.heap.size, 5, none⟩ = some (.string t.v.s) ∧ X.cell? ⟨w4.heap.size, 6, none⟩ = some (.int .u64 t.v.f) ∧ X.cell? ⟨w4.heap.size, 7, none⟩ = some (.int .i64 t.op) ∧ X.cell? ⟨w4.heap.size, 8, none⟩ = some (.slice b m k)) (by kernel_rfl) (HKS.out _ (Below.refl _ _).drew) (fun hHeld => ?_)
            refine wpAnyH_take (i := 0) (oi := ⟨some 63, _, _, _, _, _⟩) (v := ?_) rfl (by kernel_rfl) (by kernel_rfl) (by kernel_rfl) (fun _ _ _ h => h) (Or.inl ⟨by rfl, ?_⟩) (by assumption) ?_; rotate_left
            · (intro X hSw; (try dsimp only at hSw); go_simp; all_goals with_reducible rfl)
            (try simp only [Act.put, List.setIfInBounds_toArray, List.set_cons_zero, List.set_cons_succ])
            refine wpAnyH_take (i := 1) (oi := ⟨some 64, _, _, _, _, _⟩) (v := ?_) rfl (by kernel_rfl) (by kernel_rfl) (by kernel_rfl) (fun _ _ _ h => h) (Or.inl ⟨by rfl, ?_⟩) (by assumption) ?_; rotate_left
            · (intro X hSw; (try dsimp only at hSw); go_simp; all_goals with_reducible rfl)
            (try simp only [Act.put, List.setIfInBounds_toArray, List.set_cons_zero, List.set_cons_succ])
            refine wpAnyH_ready (rs := [2]) (by kernel_rfl) (by simp) ?_
            refine AllReadyH.cons (o := _) rfl (fun K hK => ?_) AllReadyH.nil
            go_simp
            refine (Hsame.out _ hHeld.1).mono ?_
            rintro e wx ⟨rfl, hb0⟩
            have hbx := hHeld.1.trans (hb0.mono hHeld.1.size)
            clear hb0
            go_wp2_with fail
            refine hK.out _ _ ?_ (fun hHeld2 => ?_)
            · exact HKS.out _ hbx
            clear hK K hHeld
            have hHeld := hHeld2
            clear hHeld2
            (try simp only [Act.put, List.setIfInBounds_toArray, List.set_cons_zero, List.set_cons_succ])
            refine wpAnyH_take (i := 3) (oi := ⟨some 66, _, _, _, _, _⟩) (v := ?_) rfl (by kernel_rfl) (by kernel_rfl) (by kernel_rfl) (fun _ _ _ h => h) (Or.inl ⟨by rfl, ?_⟩) (by assumption) ?_; rotate_left
            · (intro X hSw; (try dsimp only at hSw); go_simp; all_goals with_reducible rfl)
            (try simp only [Act.put, List.setIfInBounds_toArray, List.set_cons_zero, List.set_cons_succ])
            refine wpAnyH_take (i := 4) (oi := ⟨some 67, _, _, _, _, _⟩) (v := ?_) rfl (by kernel_rfl) (by kernel_rfl) (by kernel_rfl) (fun _ _ _ h => h) (Or.inl ⟨by rfl, ?_⟩) (by assumption) ?_; rotate_left
            · (intro X hSw; (try dsimp only at hSw); go_simp; all_goals with_reducible rfl)
            (try simp only [Act.put, List.setIfInBounds_toArray, List.set_cons_zero, List.set_cons_succ])
            refine wpAnyH_take (i := 5) (oi := ⟨some 68, _, _, _, _, _⟩) (v := ?_) rfl (by kernel_rfl) (by kernel_rfl) (by kernel_rfl) (fun _ _ _ h => h) (Or.inl ⟨by rfl, ?_⟩) (by assumption) ?_; rotate_left
            · (intro X hSw; (try dsimp only at hSw); go_simp; all_goals with_reducible rfl)
            (try simp only [Act.put, List.setIfInBounds_toArray, List.set_cons_zero, List.set_cons_succ])
            refine wpAnyH_take (i := 6) (oi := ⟨some 69, _, _, _, _, _⟩) (v := ?_) rfl (by kernel_rfl) (by kernel_rfl) (by kernel_rfl) (fun _ _ _ h => h) (Or.inl ⟨by rfl, ?_⟩) (by assumption) ?_; rotate_left
            · (intro X hSw; (try dsimp only at hSw); go_simp; all_goals with_reducible rfl)
            (try simp only [Act.put, List.setIfInBounds_toArray, List.set_cons_zero, List.set_cons_succ])
            refine wpAnyH_take (i := 7) (oi := ⟨some 70, _, _, _, _, _⟩) (v := ?_) rfl (by kernel_rfl) (by kernel_rfl) (by kernel_rfl) (fun _ _ _ h => h) (Or.inl ⟨by rfl, ?_⟩) (by assumption) ?_; rotate_left
            · (intro X hSw; (try dsimp only at hSw); go_simp; all_goals with_reducible rfl)
            (try simp only [Act.put, List.setIfInBounds_toArray, List.set_cons_zero, List.set_cons_succ])
            refine wpAnyH_take (i := 8) (oi := ⟨some 71, _, _, _, _, _⟩) (v := ?_) rfl (by kernel_rfl) (by kernel_rfl) (by kernel_rfl) (fun _ _ _ h => h) (Or.inl ⟨by rfl, ?_⟩) (by assumption) ?_; rotate_left
            · (intro X hSw; (try dsimp only at hSw); go_simp; all_goals with_reducible rfl)
            (try simp only [Act.put, List.setIfInBounds_toArray, List.set_cons_zero, List.set_cons_succ])
            refine wpAnyH_take (i := 9) (oi := ⟨some 72, _, _, _, _, _⟩) (v := ?_) rfl (by kernel_rfl) (by kernel_rfl) (by kernel_rfl) (fun _ _ _ h => h) (Or.inl ⟨by rfl, ?_⟩) (by assumption) ?_; rotate_left
            · (intro X hSw; (try dsimp only at hSw); go_simp; all_goals with_reducible rfl)
            (try simp only [Act.put, List.setIfInBounds_toArray, List.set_cons_zero, List.set_cons_succ])
            refine wpAnyH_take (i := 10) (oi := ⟨some 73, _, _, _, _, _⟩) (v := ?_) rfl (by kernel_rfl) (by kernel_rfl) (by kernel_rfl) (fun _ _ _ h => h) (Or.inl ⟨by rfl, ?_⟩) (by assumption) ?_; rotate_left
            · (intro X hSw; (try dsimp only at hSw); go_simp; all_goals with_reducible rfl)
            (try simp only [Act.put, List.setIfInBounds_toArray, List.set_cons_zero, List.set_cons_succ])
            refine wpAnyH_take (i := 11) (oi := ⟨some 74, _, _, _, _, _⟩) (v := ?_) rfl (by kernel_rfl) (by kernel_rfl) (by kernel_rfl) (fun _ _ _ h => h) (Or.inl ⟨by rfl, ?_⟩) (by assumption) ?_; rotate_left
            · (intro X hSw; (try dsimp only at hSw); go_simp; all_goals with_reducible rfl)
            (try simp only [Act.put, List.setIfInBounds_toArray, List.set_cons_zero, List.set_cons_succ])
            refine wpAnyH_take (i := 12) (oi := ⟨some 75, _, _, _, _, _⟩) (v := ?_) rfl (by kernel_rfl) (by kernel_rfl) (by kernel_rfl) (fun _ _ _ h => h) (Or.inl ⟨by rfl, ?_⟩) (by assumption) ?_; rotate_left
            · (intro X hSw; (try dsimp only at hSw); go_simp; all_goals with_reducible rfl)
            (try simp only [Act.put, List.setIfInBounds_toArray, List.set_cons_zero, List.set_cons_succ])
            refine wpAnyH_take (i := 13) (oi := ⟨some 76, _, _, _, _, _⟩) (v := ?_) rfl (by kernel_rfl) (by kernel_rfl) (by kernel_rfl) (fun _ _ _ h => h) (Or.inl ⟨by rfl, ?_⟩) (by assumption) ?_; rotate_left
            · (intro X hSw; (try dsimp only at hSw); go_simp; all_goals with_reducible rfl)
            (try simp only [Act.put, List.setIfInBounds_toArray, List.set_cons_zero, List.set_cons_succ])
            refine wpAnyH_take (i := 14) (oi := ⟨some 77, _, _, _, _, _⟩) (v := ?_) rfl (by kernel_rfl) (by kernel_rfl) (by kernel_rfl) (fun _ _ _ h => h) (Or.inl ⟨by rfl, ?_⟩) (by assumption) ?_; rotate_left
            · (intro X hSw; (try dsimp only at hSw); go_simp; all_goals with_reducible rfl)
            (try simp only [Act.put, List.setIfInBounds_toArray, List.set_cons_zero, List.set_cons_succ])
            refine wpAnyH_take (i := 15) (oi := ⟨some 78, _, _, _, _, _⟩) (v := ?_) rfl (by kernel_rfl) (by kernel_rfl) (by kernel_rfl) (fun _ _ _ h => h) (Or.inl ⟨by rfl, ?_⟩) (by assumption) ?_; rotate_left
            · (intro X hSw; (try dsimp only at hSw); go_simp; all_goals with_reducible rfl)
            (try simp only [Act.put, List.setIfInBounds_toArray, List.set_cons_zero, List.set_cons_succ])
            refine wpAnyH_take (i := 16) (oi := ⟨some 79, _, _, _, _, _⟩) (v := ?_) rfl (by kernel_rfl) (by kernel_rfl) (by kernel_rfl) (fun _ _ _ h => h) (Or.inl ⟨by rfl, ?_⟩) (by assumption) ?_; rotate_left
            · (intro X hSw; (try dsimp only at hSw); go_simp; all_goals with_reducible rfl)
            (try simp only [Act.put, List.setIfInBounds_toArray, List.set_cons_zero, List.set_cons_succ])
            refine wpAnyH_take (i := 17) (oi := ⟨some 80, _, _, _, _, _⟩) (v := ?_) rfl (by kernel_rfl) (by kernel_rfl) (by kernel_rfl) (fun _ _ _ h => h) (Or.inl ⟨by rfl, ?_⟩) (by assumption) ?_; rotate_left
            · (intro X hSw; (try dsimp only at hSw); go_simp; all_goals with_reducible rfl)
            (try simp only [Act.put, List.setIfInBounds_toArray, List.set_cons_zero, List.set_cons_succ])
            refine wpAnyH_take (i := 18) (oi := ⟨some 81, _, _, _, _, _⟩) (v := ?_) rfl (by kernel_rfl) (by kernel_rfl) (by kernel_rfl) (fun _ _ _ h => h) (Or.inl ⟨by rfl, ?_⟩) (by assumption) ?_; rotate_left
            · (intro X hSw; (try dsimp only at hSw); go_simp; all_goals with_reducible rfl)
            (try simp only [Act.put, List.setIfInBounds_toArray, List.set_cons_zero, List.set_cons_succ])
            refine wpAnyH_take (i := 19) (oi := ⟨some 82, _, _, _, _, _⟩) (v := undef) rfl (by kernel_rfl) (by kernel_rfl) (by kernel_rfl) (fun _ _ _ h => h) (Or.inr ⟨by kernel_rfl, rfl⟩) (by assumption) ?_
            (try simp only [Act.put, List.setIfInBounds_toArray, List.set_cons_zero, List.set_cons_succ])
            refine wpAnyH_take (i := 20) (oi := ⟨some 83, _, _, _, _, _⟩) (v := undef) rfl (by kernel_rfl) (by kernel_rfl) (by kernel_rfl) (fun _ _ _ h => h) (Or.inr ⟨by kernel_rfl, rfl⟩) (by assumption) ?_
            (try simp only [Act.put, List.setIfInBounds_toArray, List.set_cons_zero, List.set_cons_succ])
            refine wpAnyH_take (i := 21) (oi := ⟨some 84, _, _, _, _, _⟩) (v := ?_) rfl (by kernel_rfl) (by kernel_rfl) (by kernel_rfl) (fun _ _ _ h => h) (Or.inl ⟨by rfl, ?_⟩) (by assumption) ?_; rotate_left
            · (intro X hSw; (try dsimp only at hSw); go_simp; all_goals with_reducible rfl)
            (try simp only [Act.put, List.setIfInBounds_toArray, List.set_cons_zero, List.set_cons_succ])
            refine wpAnyH_take (i := 22) (oi := ⟨some 85, _, _, _, _, _⟩) (v := ?_) rfl (by kernel_rfl) (by kernel_rfl) (by kernel_rfl) (fun _ _ _ h => h) (Or.inl ⟨by rfl, ?_⟩) (by assumption) ?_; rotate_left
            · (intro X hSw; (try dsimp only at hSw); go_simp; all_goals with_reducible rfl)
            (try simp only [Act.put, List.setIfInBounds_toArray, List.set_cons_zero, List.set_cons_succ])
            refine wpAnyH_take (i := 23) (oi := ⟨some 86, _, _, _, _, _⟩) (v := ?_) rfl (by kernel_rfl) (by kernel_rfl) (by kernel_rfl) (fun _ _ _ h => h) (Or.inl ⟨by rfl, ?_⟩) (by assumption) ?_; rotate_left
            · (intro X hSw; (try dsimp only at hSw); go_simp; all_goals with_reducible rfl)
            (try simp only [Act.put, List.setIfInBounds_toArray, List.set_cons_zero, List.set_cons_succ])
            refine wpAnyH_take (i := 24) (oi := ⟨some 87, _, _, _, _, _⟩) (v := ?_) rfl (by kernel_rfl) (by kernel_rfl) (by kernel_rfl) (fun _ _ _ h => h) (Or.inl ⟨by rfl, ?_⟩) (by assumption) ?_; rotate_left
            · (intro X hSw; (try dsimp only at hSw); go_simp; all_goals with_reducible rfl)
            (try simp only [Act.put, List.setIfInBounds_toArray, List.set_cons_zero, List.set_cons_succ])
            refine wpAnyH_take (i := 25) (oi := ⟨some 88, _, _, _, _, _⟩) (v := ?_) rfl (by kernel_rfl) (by kernel_rfl) (by kernel_rfl) (fun _ _ _ h => h) (Or.inl ⟨by rfl, ?_⟩) (by assumption) ?_; rotate_left
            · (intro X hSw; (try dsimp only at hSw); go_simp; all_goals with_reducible rfl)
            (try simp only [Act.put, List.setIfInBounds_toArray, List.set_cons_zero, List.set_cons_succ])
            refine wpAnyH_take (i := 26) (oi := ⟨some 89, _, _, _, _, _⟩) (v := ?_) rfl (by kernel_rfl) (by kernel_rfl) (by kernel_rfl) (fun _ _ _ h => h) (Or.inl ⟨by rfl, ?_⟩) (by assumption) ?_; rotate_left
            · (intro X hSw; (try dsimp only at hSw); go_simp; all_goals with_reducible rfl)
            (try simp only [Act.put, List.setIfInBounds_toArray, List.set_cons_zero, List.set_cons_succ])
            refine wpAnyH_take (i := 27) (oi := ⟨some 90, _, _, _, _, _⟩) (v := ?_) rfl (by kernel_rfl) (by kernel_rfl) (by kernel_rfl) (fun _ _ _ h => h) (Or.inl ⟨by rfl, ?_⟩) (by assumption) ?_; rotate_left
            · (intro X hSw; (try dsimp only at hSw); go_simp; all_goals with_reducible rfl)
            (try simp only [Act.put, List.setIfInBounds_toArray, List.set_cons_zero, List.set_cons_succ])
            refine wpAnyH_take (i := 29) (oi := ⟨some 92, _, _, _, _, _⟩) (v := ?_) rfl (by kernel_rfl) (by kernel_rfl) (by kernel_rfl) (fun _ _ _ h => h) (Or.inl ⟨by rfl, ?_⟩) (by assumption) ?_; rotate_left
            · (intro X hSw; (try dsimp only at hSw); go_simp; all_goals with_reducible rfl)
            (try simp only [Act.put, List.setIfInBounds_toArray, List.set_cons_zero, List.set_cons_succ])
            refine wpAnyH_ready (rs := [28]) (by kernel_rfl) (by simp) ?_
            refine AllReadyH.cons (o := _) rfl (fun K hK => ?_) AllReadyH.nil
            go_simp
            refine (Hd1.out _ hHeld.1).mono ?_
            rintro e wx ⟨rfl, hb0⟩
            have hbx := hHeld.1.trans (hb0.mono hHeld.1.size)
            clear hb0
            go_wp2_with fail
            refine hK.out _ _ ?_ (fun hHeld2 => ?_)
            · exact HKS.out _ hbx
            clear hK K hHeld
            have hHeld := hHeld2
            clear hHeld2
            (try simp only [Act.put, List.setIfInBounds_toArray, List.set_cons_zero, List.set_cons_succ])
            refine wpAnyH_ready (rs := [30]) (by kernel_rfl) (by simp) ?_
            refine AllReadyH.cons (o := _) rfl (fun K hK => ?_) AllReadyH.nil
            go_simp
            refine (Hd2.out _ hHeld.1).mono ?_
            rintro e wx ⟨rfl, hb0⟩
            have hbx := hHeld.1.trans (hb0.mono hHeld.1.size)
            clear hb0
            go_wp2_with fail
            refine hK.out _ _ ?_ (fun hHeld2 => ?_)
            · exact HKS.out _ hbx
            clear hK K hHeld
            have hHeld := hHeld2
            clear hHeld2
            (try simp only [Act.put, List.setIfInBounds_toArray, List.set_cons_zero, List.set_cons_succ])
            refine wpAnyH_take (i := 31) (oi := ⟨some 94, _, _, _, _, _⟩) (v := ?_) rfl (by kernel_rfl) (by kernel_rfl) (by kernel_rfl) (fun _ _ _ h => h) (Or.inl ⟨by rfl, ?_⟩) (by assumption) ?_; rotate_left
            · (intro X hSw; (try dsimp only at hSw); go_simp; all_goals with_reducible rfl)
            (try simp only [Act.put, List.setIfInBounds_toArray, List.set_cons_zero, List.set_cons_succ])
            refine wpAnyH_take (i := 32) (oi := ⟨some 95, _, _, _, _, _⟩) (v := ?_) rfl (by kernel_rfl) (by kernel_rfl) (by kernel_rfl) (fun _ _ _ h => h) (Or.inl ⟨by rfl, ?_⟩) (by assumption) ?_; rotate_left
            · (intro X hSw; (try dsimp only at hSw); go_simp; all_goals with_reducible rfl)
            (try simp only [Act.put, List.setIfInBounds_toArray, List.set_cons_zero, List.set_cons_succ])
            refine wpAnyH_take (i := 33) (oi := ⟨some 96, _, _, _, _, _⟩) (v := ?_) rfl (by kernel_rfl) (by kernel_rfl) (by kernel_rfl) (fun _ _ _ h => h) (Or.inl ⟨by rfl, ?_⟩) (by assumption) ?_; rotate_left
            · (intro X hSw; (try dsimp only at hSw); go_simp; all_goals with_reducible rfl)
            (try simp only [Act.put, List.setIfInBounds_toArray, List.set_cons_zero, List.set_cons_succ])
            refine wpAnyH_take (i := 34) (oi := ⟨some 6, _, _, _, _, _⟩) (v := ?_) rfl (by kernel_rfl) (by kernel_rfl) (by kernel_rfl) (fun _ _ _ h => h) (Or.inl ⟨by rfl, ?_⟩) (by assumption) ?_; rotate_left
            · (intro X hSw; (try dsimp only at hSw); go_simp; all_goals with_reducible rfl)
            (try simp only [Act.put, List.setIfInBounds_toArray, List.set_cons_zero, List.set_cons_succ])
            refine wpAnyH_done (by kernel_rfl) ?_ _
            refine NoPanic.normal ?_
            have HB6 := Lib.hid (Hb5.out.trans (hHeld.1.mono Hb5.out.size))
            clear HKS hHeld
            go_wp2_with fail
            go_ret
            exact ⟨rfl, HB6.out⟩
          · by_cases hM20 : M ≤ 20
            · have hMd : decide (M ≤ 20) = true := decide_eq_true hM20
              refine wp_region_noPanic ?_
              refine wp_region_held_drew (S := fun X => Below W5.heap.size W5 X ∧ X.cell? ⟨w2.heap.size, 0, none⟩ = some (.int .i64 t.k) ∧ X.cell? ⟨w2.heap.size, 1, none⟩ = some (.int .i64 t.pos) ∧ X.cell? ⟨w2.heap.size, 2, none⟩ = some (.string ⟨t.col.toArray⟩) ∧ X.cell? ⟨w2.heap.size, 3, none⟩ = some (.int .i64 t.v.k) ∧ X.cell? ⟨w2.heap.size, 4, none⟩ = some (.int .i64 t.v.n) ∧ X.cell? ⟨w2.heap.size, 5, none⟩ = some (.string t.v.s) ∧ X.cell? ⟨w2.heap.size, 6, none⟩ = some (.int .u64 t.v.f) ∧ X.cell? ⟨w2.heap.size, 7, none⟩ = some (.int .i64 t.op) ∧ X.cell? ⟨w2.heap.size, 8, none⟩ = some (.slice a n c) ∧ X.cell? ⟨w4.heap.size, 0, none⟩ = some (.int .i64 t.k) ∧ X.cell? ⟨w4.heap.size, 1, none⟩ = some (.int .i64 t.pos) ∧ X.cell? ⟨w4.heap.size, 2, none⟩ = some (.string ⟨t.col.toArray⟩) ∧ X.cell? ⟨w4.heap.size, 3, none⟩ = some (.int .i64 t.v.k) ∧ X.cell? ⟨w4.heap.size, 4, none⟩ = some (.int .i64 t.v.n) ∧ X.cell? ⟨w4.heap.size, 5, none⟩ = some (.string t.v.s) ∧ X.cell? ⟨w4.heap.size, 6, none⟩ = some (.int .u64 t.v.f) ∧ X.cell? ⟨w4.heap.size, 7, none⟩ = some (.int .i64 t.op) ∧ X.cell? ⟨w4.heap.size, 8, none⟩ = some (.slice b m k)) (by kernel_rfl) (HKS.out _ (Below.refl _ _).drew) (fun hHeld => ?_)
              refine wpAnyH_take (i := 0) (oi := ⟨some 63, _, _, _, _, _⟩) (v := ?_) rfl (by kernel_rfl) (by kernel_rfl) (by kernel_rfl) (fun _ _ _ h => h) (Or.inl ⟨by rfl, ?_⟩) (by assumption) ?_; rotate_left
              · (intro X hSw; (try dsimp only at hSw); go_simp; all_goals with_reducible rfl)
              (try simp only [Act.put, List.setIfInBounds_toArray, List.set_cons_zero, List.set_cons_succ])
              refine wpAnyH_take (i := 1) (oi := ⟨some 64, _, _, _, _, _⟩) (v := ?_) rfl (by kernel_rfl) (by kernel_rfl) (by kernel_rfl) (fun _ _ _ h => h) (Or.inl ⟨by rfl, ?_⟩) (by assumption) ?_; rotate_left
              · (intro X hSw; (try dsimp only at hSw); go_simp; all_goals with_reducible rfl)
              (try simp only [Act.put, List.setIfInBounds_toArray, List.set_cons_zero, List.set_cons_succ])
              refine wpAnyH_ready (rs := [2]) (by kernel_rfl) (by simp) ?_
              refine AllReadyH.cons (o := _) rfl (fun K hK => ?_) AllReadyH.nil
              go_simp
              refine (Hsame.out _ hHeld.1).mono ?_
              rintro e wx ⟨rfl, hb0⟩
              have hbx := hHeld.1.trans (hb0.mono hHeld.1.size)
              clear hb0
              go_wp2_with fail
              refine hK.out _ _ ?_ (fun hHeld2 => ?_)
              · exact HKS.out _ hbx
              clear hK K hHeld
              have hHeld := hHeld2
              clear hHeld2
              (try simp only [Act.put, List.setIfInBounds_toArray, List.set_cons_zero, List.set_cons_succ])
              refine wpAnyH_take (i := 3) (oi := ⟨some 66, _, _, _, _, _⟩) (v := ?_) rfl (by kernel_rfl) (by kernel_rfl) (by kernel_rfl) (fun _ _ _ h => h) (Or.inl ⟨by rfl, ?_⟩) (by assumption) ?_; rotate_left
              · (intro X hSw; (try dsimp only at hSw); go_simp; all_goals with_reducible rfl)
              (try simp only [Act.put, List.setIfInBounds_toArray, List.set_cons_zero, List.set_cons_succ])
              refine wpAnyH_take (i := 4) (oi := ⟨some 67, _, _, _, _, _⟩) (v := ?_) rfl (by kernel_rfl) (by kernel_rfl) (by kernel_rfl) (fun _ _ _ h => h) (Or.inl ⟨by rfl, ?_⟩) (by assumption) ?_; rotate_left
              · (intro X hSw; (try dsimp only at hSw); go_simp; all_goals with_reducible rfl)
              (try simp only [Act.put, List.setIfInBounds_toArray, List.set_cons_zero, List.set_cons_succ])
              refine wpAnyH_take (i := 5) (oi := ⟨some 68, _, _, _, _, _⟩) (v := ?_) rfl (by kernel_rfl) (by kernel_rfl) (by kernel_rfl) (fun _ _ _ h => h) (Or.inl ⟨by rfl, ?_⟩) (by assumption) ?_; rotate_left
              · (intro X hSw; (try dsimp only at hSw); go_simp; all_goals with_reducible rfl)
              (try simp only [Act.put, List.setIfInBounds_toArray, List.set_cons_zero, List.set_cons_succ])
              refine wpAnyH_take (i := 6) (oi := ⟨some 69, _, _, _, _, _⟩) (v := ?_) rfl (by kernel_rfl) (by kernel_rfl) (by kernel_rfl) (fun _ _ _ h => h) (Or.inl ⟨by rfl, ?_⟩) (by assumption) ?_; rotate_left
              · (intro X hSw; (try dsimp only at hSw); go_simp; all_goals with_reducible rfl)
              (try simp only [Act.put, List.setIfInBounds_toArray, List.set_cons_zero, List.set_cons_succ])
              refine wpAnyH_take (i := 7) (oi := ⟨some 70, _, _, _, _, _⟩) (v := ?_) rfl (by kernel_rfl) (by kernel_rfl) (by kernel_rfl) (fun _ _ _ h => h) (Or.inl ⟨by rfl, ?_⟩) (by assumption) ?_; rotate_left
              · (intro X hSw; (try dsimp only at hSw); go_simp; all_goals with_reducible rfl)
              (try simp only [Act.put, List.setIfInBounds_toArray, List.set_cons_zero, List.set_cons_succ])
              refine wpAnyH_take (i := 8) (oi := ⟨some 71, _, _, _, _, _⟩) (v := ?_) rfl (by kernel_rfl) (by kernel_rfl) (by kernel_rfl) (fun _ _ _ h => h) (Or.inl ⟨by rfl, ?_⟩) (by assumption) ?_; rotate_left
              · (intro X hSw; (try dsimp only at hSw); go_simp; all_goals with_reducible rfl)
              (try simp only [Act.put, List.setIfInBounds_toArray, List.set_cons_zero, List.set_cons_succ])
              refine wpAnyH_take (i := 9) (oi := ⟨some 72, _, _, _, _, _⟩) (v := ?_) rfl (by kernel_rfl) (by kernel_rfl) (by kernel_rfl) (fun _ _ _ h => h) (Or.inl ⟨by rfl, ?_⟩) (by assumption) ?_; rotate_left
              · (intro X hSw; (try dsimp only at hSw); go_simp; all_goals with_reducible rfl)
              (try simp only [Act.put, List.setIfInBounds_toArray, List.set_cons_zero, List.set_cons_succ])
              refine wpAnyH_take (i := 10) (oi := ⟨some 73, _, _, _, _, _⟩) (v := ?_) rfl (by kernel_rfl) (by kernel_rfl) (by kernel_rfl) (fun _ _ _ h => h) (Or.inl ⟨by rfl, ?_⟩) (by assumption) ?_; rotate_left
              · (intro X hSw; (try dsimp only at hSw); go_simp; all_goals with_reducible rfl)
              (try simp only [Act.put, List.setIfInBounds_toArray, List.set_cons_zero, List.set_cons_succ])
              refine wpAnyH_take (i := 11) (oi := ⟨some 74, _, _, _, _, _⟩) (v := ?_) rfl (by kernel_rfl) (by kernel_rfl) (by kernel_rfl) (fun _ _ _ h => h) (Or.inl ⟨by rfl, ?_⟩) (by assumption) ?_; rotate_left
              · (intro X hSw; (try dsimp only at hSw); go_simp; all_goals with_reducible rfl)
              (try simp only [Act.put, List.setIfInBounds_toArray, List.set_cons_zero, List.set_cons_succ])
              refine wpAnyH_take (i := 12) (oi := ⟨some 75, _, _, _, _, _⟩) (v := ?_) rfl (by kernel_rfl) (by kernel_rfl) (by kernel_rfl) (fun _ _ _ h => h) (Or.inl ⟨by rfl, ?_⟩) (by assumption) ?_; rotate_left
              · (intro X hSw; (try dsimp only at hSw); go_simp; all_goals with_reducible rfl)
              (try simp only [Act.put, List.setIfInBounds_toArray, List.set_cons_zero, List.set_cons_succ])
              refine wpAnyH_take (i := 13) (oi := ⟨some 76, _, _, _, _, _⟩) (v := ?_) rfl (by kernel_rfl) (by kernel_rfl) (by kernel_rfl) (fun _ _ _ h => h) (Or.inl ⟨by rfl, ?_⟩) (by assumption) ?_; rotate_left
              · (intro X hSw; (try dsimp only at hSw); go_simp; all_goals with_reducible rfl)
              (try simp only [Act.put, List.setIfInBounds_toArray, List.set_cons_zero, List.set_cons_succ])
              refine wpAnyH_take (i := 14) (oi := ⟨some 77, _, _, _, _, _⟩) (v := ?_) rfl (by kernel_rfl) (by kernel_rfl) (by kernel_rfl) (fun _ _ _ h => h) (Or.inl ⟨by rfl, ?_⟩) (by assumption) ?_; rotate_left
              · (intro X hSw; (try dsimp only at hSw); go_simp; all_goals with_reducible rfl)
              (try simp only [Act.put, List.setIfInBounds_toArray, List.set_cons_zero, List.set_cons_succ])
              refine wpAnyH_take (i := 15) (oi := ⟨some 78, _, _, _, _, _⟩) (v := ?_) rfl (by kernel_rfl) (by kernel_rfl) (by kernel_rfl) (fun _ _ _ h => h) (Or.inl ⟨by rfl, ?_⟩) (by assumption) ?_; rotate_left
              · (intro X hSw; (try dsimp only at hSw); go_simp; all_goals with_reducible rfl)
              (try simp only [Act.put, List.setIfInBounds_toArray, List.set_cons_zero, List.set_cons_succ])
              refine wpAnyH_take (i := 16) (oi := ⟨some 79, _, _, _, _, _⟩) (v := ?_) rfl (by kernel_rfl) (by kernel_rfl) (by kernel_rfl) (fun _ _ _ h => h) (Or.inl ⟨by rfl, ?_⟩) (by assumption) ?_; rotate_left
              · (intro X hSw; (try dsimp only at hSw); go_simp; all_goals with_reducible rfl)
              (try simp only [Act.put, List.setIfInBounds_toArray, List.set_cons_zero, List.set_cons_succ])
              refine wpAnyH_take (i := 17) (oi := ⟨some 80, _, _, _, _, _⟩) (v := ?_) rfl (by kernel_rfl) (by kernel_rfl) (by kernel_rfl) (fun _ _ _ h => h) (Or.inl ⟨by rfl, ?_⟩) (by assumption) ?_; rotate_left
              · (intro X hSw; (try dsimp only at hSw); go_simp; all_goals with_reducible rfl)
              (try simp only [Act.put, List.setIfInBounds_toArray, List.set_cons_zero, List.set_cons_succ])
              refine wpAnyH_take (i := 18) (oi := ⟨some 81, _, _, _, _, _⟩) (v := ?_) rfl (by kernel_rfl) (by kernel_rfl) (by kernel_rfl) (fun _ _ _ h => h) (Or.inl ⟨by rfl, ?_⟩) (by assumption) ?_; rotate_left
              · (intro X hSw; (try dsimp only at hSw); go_simp; all_goals with_reducible rfl)
              (try simp only [Act.put, List.setIfInBounds_toArray, List.set_cons_zero, List.set_cons_succ])
              refine wpAnyH_take (i := 19) (oi := ⟨some 82, _, _, _, _, _⟩) (v := undef) rfl (by kernel_rfl) (by kernel_rfl) (by kernel_rfl) (fun _ _ _ h => h) (Or.inr ⟨by kernel_rfl, rfl⟩) (by assumption) ?_
              (try simp only [Act.put, List.setIfInBounds_toArray, List.set_cons_zero, List.set_cons_succ])
              refine wpAnyH_take (i := 20) (oi := ⟨some 83, _, _, _, _, _⟩) (v := undef) rfl (by kernel_rfl) (by kernel_rfl) (by kernel_rfl) (fun _ _ _ h => h) (Or.inr ⟨by kernel_rfl, rfl⟩) (by assumption) ?_
              (try simp only [Act.put, List.setIfInBounds_toArray, List.set_cons_zero, List.set_cons_succ])
              refine wpAnyH_take (i := 21) (oi := ⟨some 84, _, _, _, _, _⟩) (v := ?_) rfl (by kernel_rfl) (by kernel_rfl) (by kernel_rfl) (fun _ _ _ h => h) (Or.inl ⟨by rfl, ?_⟩) (by assumption) ?_; rotate_left
              · (intro X hSw; (try dsimp only at hSw); go_simp; all_goals with_reducible rfl)
              (try simp only [Act.put, List.setIfInBounds_toArray, List.set_cons_zero, List.set_cons_succ])
              refine wpAnyH_take (i := 22) (oi := ⟨some 85, _, _, _, _, _⟩) (v := ?_) rfl (by kernel_rfl) (by kernel_rfl) (by kernel_rfl) (fun _ _ _ h => h) (Or.inl ⟨by rfl, ?_⟩) (by assumption) ?_; rotate_left
              · (intro X hSw; (try dsimp only at hSw); go_simp; all_goals with_reducible rfl)
              (try simp only [Act.put, List.setIfInBounds_toArray, List.set_cons_zero, List.set_cons_succ])
              refine wpAnyH_take (i := 23) (oi := ⟨some 86, _, _, _, _, _⟩) (v := ?_) rfl (by kernel_rfl) (by kernel_rfl) (by kernel_rfl) (fun _ _ _ h => h) (Or.inl ⟨by rfl, ?_⟩) (by assumption) ?_; rotate_left
              · (intro X hSw; (try dsimp only at hSw); go_simp; all_goals with_reducible rfl)
              (try simp only [Act.put, List.setIfInBounds_toArray, List.set_cons_zero, List.set_cons_succ])
              refine wpAnyH_take (i := 24) (oi := ⟨some 87, _, _, _, _, _⟩) (v := ?_) rfl (by kernel_rfl) (by kernel_rfl) (by kernel_rfl) (fun _ _ _ h => h) (Or.inl ⟨by rfl, ?_⟩) (by assumption) ?_; rotate_left
              · (intro X hSw; (try dsimp only at hSw); go_simp; all_goals with_reducible rfl)
              (try simp only [Act.put, List.setIfInBounds_toArray, List.set_cons_zero, List.set_cons_succ])
              refine wpAnyH_take (i := 25) (oi := ⟨some 88, _, _, _, _, _⟩) (v := ?_) rfl (by kernel_rfl) (by kernel_rfl) (by kernel_rfl) (fun _ _ _ h => h) (Or.inl ⟨by rfl, ?_⟩) (by assumption) ?_; rotate_left
              · (intro X hSw; (try dsimp only at hSw); go_simp; all_goals with_reducible rfl)
              (try simp only [Act.put, List.setIfInBounds_toArray, List.set_cons_zero, List.set_cons_succ])
              refine wpAnyH_take (i := 26) (oi := ⟨some 89, _, _, _, _, _⟩) (v := ?_) rfl (by kernel_rfl) (by kernel_rfl) (by kernel_rfl) (fun _ _ _ h => h) (Or.inl ⟨by rfl, ?_⟩) (by assumption) ?_; rotate_left
              · (intro X hSw; (try dsimp only at hSw); go_simp; all_goals with_reducible rfl)
              (try simp only [Act.put, List.setIfInBounds_toArray, List.set_cons_zero, List.set_cons_succ])
              refine wpAnyH_take (i := 27) (oi := ⟨some 90, _, _, _, _, _⟩) (v := undef) rfl (by kernel_rfl) (by kernel_rfl) (by kernel_rfl) (fun _ _ _ h => h) (Or.inr ⟨by kernel_rfl, rfl⟩) (by assumption) ?_
              (try simp only [Act.put, List.setIfInBounds_toArray, List.set_cons_zero, List.set_cons_succ])
              refine wpAnyH_take (i := 28) (oi := ⟨some 91, _, _, _, _, _⟩) (v := undef) rfl (by kernel_rfl) (by kernel_rfl) (by kernel_rfl) (fun _ _ _ h => h) (Or.inr ⟨by kernel_rfl, rfl⟩) (by assumption) ?_
              (try simp only [Act.put, List.setIfInBounds_toArray, List.set_cons_zero, List.set_cons_succ])
              refine wpAnyH_take (i := 29) (oi := ⟨some 92, _, _, _, _, _⟩) (v := undef) rfl (by kernel_rfl) (by kernel_rfl) (by kernel_rfl) (fun _ _ _ h => h) (Or.inr ⟨by kernel_rfl, rfl⟩) (by assumption) ?_
              (try simp only [Act.put, List.setIfInBounds_toArray, List.set_cons_zero, List.set_cons_succ])
              refine wpAnyH_take (i := 30) (oi := ⟨some 93, _, _, _, _, _⟩) (v := undef) rfl (by kernel_rfl) (by kernel_rfl) (by kernel_rfl) (fun _ _ _ h => h) (Or.inr ⟨by kernel_rfl, rfl⟩) (by assumption) ?_
              (try simp only [Act.put, List.setIfInBounds_toArray, List.set_cons_zero, List.set_cons_succ])
              refine wpAnyH_take (i := 31) (oi := ⟨some 94, _, _, _, _, _⟩) (v := undef) rfl (by kernel_rfl) (by kernel_rfl) (by kernel_rfl) (fun _ _ _ h => h) (Or.inr ⟨by kernel_rfl, rfl⟩) (by assumption) ?_
              (try simp only [Act.put, List.setIfInBounds_toArray, List.set_cons_zero, List.set_cons_succ])
              refine wpAnyH_take (i := 32) (oi := ⟨some 95, _, _, _, _, _⟩) (v := ?_) rfl (by kernel_rfl) (by kernel_rfl) (by kernel_rfl) (fun _ _ _ h => h) (Or.inl ⟨by rfl, ?_⟩) (by assumption) ?_; rotate_left
              · (intro X hSw; (try dsimp only at hSw); go_simp; all_goals with_reducible rfl)
              (try simp only [Act.put, List.setIfInBounds_toArray, List.set_cons_zero, List.set_cons_succ])
              refine wpAnyH_take (i := 33) (oi := ⟨some 96, _, _, _, _, _⟩) (v := ?_) rfl (by kernel_rfl) (by kernel_rfl) (by kernel_rfl) (fun _ _ _ h => h) (Or.inl ⟨by rfl, ?_⟩) (by assumption) ?_; rotate_left
              · (intro X hSw; (try dsimp only at hSw); go_simp; all_goals with_reducible rfl)
              (try simp only [Act.put, List.setIfInBounds_toArray, List.set_cons_zero, List.set_cons_succ])
              refine wpAnyH_take (i := 34) (oi := ⟨some 6, _, _, _, _, _⟩) (v := ?_) rfl (by kernel_rfl) (by kernel_rfl) (by kernel_rfl) (fun _ _ _ h => h) (Or.inl ⟨by rfl, ?_⟩) (by assumption) ?_; rotate_left
              · (intro X hSw; (try dsimp only at hSw); go_simp; all_goals with_reducible rfl)
              (try simp only [Act.put, List.setIfInBounds_toArray, List.set_cons_zero, List.set_cons_succ])
              refine wpAnyH_done (by kernel_rfl) ?_ _
              refine NoPanic.normal ?_
              have HB6 := Lib.hid (Hb5.out.trans (hHeld.1.mono Hb5.out.size))
              clear HKS hHeld
              go_wp2_with fail
              go_ret
              exact ⟨rfl, HB6.out⟩
            · have hMd : decide (M ≤ 20) = false := decide_eq_false hM20
              refine wp_region_noPanic ?_
              refine wp_region_held_drew (S := fun X => Below W5.heap.size W5 X ∧ X.cell? ⟨w2.heap.size, 0, none⟩ = some (.int .i64 t.k) ∧ X.cell? ⟨w2.heap.size, 1, none⟩ = some (.int .i64 t.pos) ∧ X.cell? ⟨w2.heap.size, 2, none⟩ = some (.string ⟨t.col.toArray⟩) ∧ X.cell? ⟨w2.heap.size, 3, none⟩ = some (.int .i64 t.v.k) ∧ X.cell? ⟨w2.heap.size, 4, none⟩ = some (.int .i64 t.v.n) ∧ X.cell? ⟨w2.heap.size, 5, none⟩ = some (.string t.v.s) ∧ X.cell? ⟨w2.heap.size, 6, none⟩ = some (.int .u64 t.v.f) ∧ X.cell? ⟨w2.heap.size, 7, none⟩ = some (.int .i64 t.op) ∧ X.cell? ⟨w2.heap.size, 8, none⟩ = some (.slice a n c) ∧ X.cell? ⟨w4.heap.size, 0, none⟩ = some (.int .i64 t.k) ∧ X.cell? ⟨w4.heap.size, 1, none⟩ = some (.int .i64 t.pos) ∧ X.cell? ⟨w4.heap.size, 2, none⟩ = some (.string ⟨t.col.toArray⟩) ∧ X.cell? ⟨w4.heap.size, 3, none⟩ = some (.int .i64 t.v.k) ∧ X.cell? ⟨w4.heap.size, 4, none⟩ = some (.int .i64 t.v.n) ∧ X.cell? ⟨w4.heap.size, 5, none⟩ = some (.string t.v.s) ∧ X.cell? ⟨w4.heap.size, 6, none⟩ = some (.int .u64 t.v.f) ∧ X.cell? ⟨w4.heap.size, 7, none⟩ = some (.int .i64 t.op) ∧ X.cell? ⟨w4.heap.size, 8, none⟩ = some (.slice b m k)) (by kernel_rfl) (HKS.out _ (Below.refl _ _).drew) (fun hHeld => ?_)
              refine wpAnyH_take (i := 0) (oi := ⟨some 63, _, _, _, _, _⟩) (v := ?_) rfl (by kernel_rfl) (by kernel_rfl) (by kernel_rfl) (fun _ _ _ h => h) (Or.inl ⟨by rfl, ?_⟩) (by assumption) ?_; rotate_left
              · (intro X hSw; (try dsimp only at hSw); go_simp; all_goals with_reducible rfl)
              (try simp only [Act.put, List.setIfInBounds_toArray, List.set_cons_zero, List.set_cons_succ])
              refine wpAnyH_take (i := 1) (oi := ⟨some 64, _, _, _, _, _⟩) (v := ?_) rfl (by kernel_rfl) (by kernel_rfl) (by kernel_rfl) (fun _ _ _ h => h) (Or.inl ⟨by rfl, ?_⟩) (by assumption) ?_; rotate_left
              · (intro X hSw; (try dsimp only at hSw); go_simp; all_goals with_reducible rfl)
              (try simp only [Act.put, List.setIfInBounds_toArray, List.set_cons_zero, List.set_cons_succ])
              refine wpAnyH_ready (rs := [2]) (by kernel_rfl) (by simp) ?_
              refine AllReadyH.cons (o := _) rfl (fun K hK => ?_) AllReadyH.nil
              go_simp
              refine (Hsame.out _ hHeld.1).mono ?_
              rintro e wx ⟨rfl, hb0⟩
              have hbx := hHeld.1.trans (hb0.mono hHeld.1.size)
              clear hb0
              go_wp2_with fail
              refine hK.out _ _ ?_ (fun hHeld2 => ?_)
              · exact HKS.out _ hbx
              clear hK K hHeld
              have hHeld := hHeld2
              clear hHeld2
              (try simp only [Act.put, List.setIfInBounds_toArray, List.set_cons_zero, List.set_cons_succ])
              refine wpAnyH_take (i := 3) (oi := ⟨some 66, _, _, _, _, _⟩) (v := ?_) rfl (by kernel_rfl) (by kernel_rfl) (by kernel_rfl) (fun _ _ _ h => h) (Or.inl ⟨by rfl, ?_⟩) (by assumption) ?_; rotate_left
              · (intro X hSw; (try dsimp only at hSw); go_simp; all_goals with_reducible rfl)
              (try simp only [Act.put, List.setIfInBounds_toArray, List.set_cons_zero, List.set_cons_succ])
              refine wpAnyH_take (i := 4) (oi := ⟨some 67, _, _, _, _, _⟩) (v := ?_) rfl (by kernel_rfl) (by kernel_rfl) (by kernel_rfl) (fun _ _ _ h => h) (Or.inl ⟨by rfl, ?_⟩) (by assumption) ?_; rotate_left
              · (intro X hSw; (try dsimp only at hSw); go_simp; all_goals with_reducible rfl)
              (try simp only [Act.put, List.setIfInBounds_toArray, List.set_cons_zero, List.set_cons_succ])
              refine wpAnyH_take (i := 5) (oi := ⟨some 68, _, _, _, _, _⟩) (v := ?_) rfl (by kernel_rfl) (by kernel_rfl) (by kernel_rfl) (fun _ _ _ h => h) (Or.inl ⟨by rfl, ?_⟩) (by assumption) ?_; rotate_left
              · (intro X hSw; (try dsimp only at hSw); go_simp; all_goals with_reducible rfl)
              (try simp only [Act.put, List.setIfInBounds_toArray, List.set_cons_zero, List.set_cons_succ])
              refine wpAnyH_take (i := 6) (oi := ⟨some 69, _, _, _, _, _⟩) (v := ?_) rfl (by kernel_rfl) (by kernel_rfl) (by kernel_rfl) (fun _ _ _ h => h) (Or.inl ⟨by rfl, ?_⟩) (by assumption) ?_; rotate_left
              · (intro X hSw; (try dsimp only at hSw); go_simp; all_goals with_reducible rfl)
              (try simp only [Act.put, List.setIfInBounds_toArray, List.set_cons_zero, List.set_cons_succ])
              refine wpAnyH_take (i := 7) (oi := ⟨some 70, _, _, _, _, _⟩) (v := ?_) rfl (by kernel_rfl) (by kernel_rfl) (by kernel_rfl) (fun _ _ _ h => h) (Or.inl ⟨by rfl, ?_⟩) (by assumption) ?_; rotate_left
              · (intro X hSw; (try dsimp only at hSw); go_simp; all_goals with_reducible rfl)
              (try simp only [Act.put, List.setIfInBounds_toArray, List.set_cons_zero, List.set_cons_succ])
              refine wpAnyH_take (i := 8) (oi := ⟨some 71, _, _, _, _, _⟩) (v := ?_) rfl (by kernel_rfl) (by kernel_rfl) (by kernel_rfl) (fun _ _ _ h => h) (Or.inl ⟨by rfl, ?_⟩) (by assumption) ?_; rotate_left
              · (intro X hSw; (try dsimp only at hSw); go_simp; all_goals with_reducible rfl)
              (try simp only [Act.put, List.setIfInBounds_toArray, List.set_cons_zero, List.set_cons_succ])
              refine wpAnyH_take (i := 9) (oi := ⟨some 72, _, _, _, _, _⟩) (v := ?_) rfl (by kernel_rfl) (by kernel_rfl) (by kernel_rfl) (fun _ _ _ h => h) (Or.inl ⟨by rfl, ?_⟩) (by assumption) ?_; rotate_left
              · (intro X hSw; (try dsimp only at hSw); go_simp; all_goals with_reducible rfl)
              (try simp only [Act.put, List.setIfInBounds_toArray, List.set_cons_zero, List.set_cons_succ])
              refine wpAnyH_take (i := 10) (oi := ⟨some 73, _, _, _, _, _⟩) (v := ?_) rfl (by kernel_rfl) (by kernel_rfl) (by kernel_rfl) (fun _ _ _ h => h) (Or.inl ⟨by rfl, ?_⟩) (by assumption) ?_; rotate_left
              · (intro X hSw; (try dsimp only at hSw); go_simp; all_goals with_reducible rfl)
              (try simp only [Act.put, List.setIfInBounds_toArray, List.set_cons_zero, List.set_cons_succ])
              refine wpAnyH_take (i := 11) (oi := ⟨some 74, _, _, _, _, _⟩) (v := ?_) rfl (by kernel_rfl) (by kernel_rfl) (by kernel_rfl) (fun _ _ _ h => h) (Or.inl ⟨by rfl, ?_⟩) (by assumption) ?_; rotate_left
              · (intro X hSw; (try dsimp only at hSw); go_simp; all_goals with_reducible rfl)
              (try simp only [Act.put, List.setIfInBounds_toArray, List.set_cons_zero, List.set_cons_succ])
              refine wpAnyH_take (i := 12) (oi := ⟨some 75, _, _, _, _, _⟩) (v := ?_) rfl (by kernel_rfl) (by kernel_rfl) (by kernel_rfl) (fun _ _ _ h => h) (Or.inl ⟨by rfl, ?_⟩) (by assumption) ?_; rotate_left
              · (intro X hSw; (try dsimp only at hSw); go_simp; all_goals with_reducible rfl)
              (try simp only [Act.put, List.setIfInBounds_toArray, List.set_cons_zero, List.set_cons_succ])
              refine wpAnyH_take (i := 13) (oi := ⟨some 76, _, _, _, _, _⟩) (v := ?_) rfl (by kernel_rfl) (by kernel_rfl) (by kernel_rfl) (fun _ _ _ h => h) (Or.inl ⟨by rfl, ?_⟩) (by assumption) ?_; rotate_left
              · (intro X hSw; (try dsimp only at hSw); go_simp; all_goals with_reducible rfl)
              (try simp only [Act.put, List.setIfInBounds_toArray, List.set_cons_zero, List.set_cons_succ])
              refine wpAnyH_take (i := 14) (oi := ⟨some 77, _, _, _, _, _⟩) (v := ?_) rfl (by kernel_rfl) (by kernel_rfl) (by kernel_rfl) (fun _ _ _ h => h) (Or.inl ⟨by rfl, ?_⟩) (by assumption) ?_; rotate_left
              · (intro X hSw; (try dsimp only at hSw); go_simp; all_goals with_reducible rfl)
              (try simp only [Act.put, List.setIfInBounds_toArray, List.set_cons_zero, List.set_cons_succ])
              refine wpAnyH_take (i := 15) (oi := ⟨some 78, _, _, _, _, _⟩) (v := ?_) rfl (by kernel_rfl) (by kernel_rfl) (by kernel_rfl) (fun _ _ _ h => h) (Or.inl ⟨by rfl, ?_⟩) (by assumption) ?_; rotate_left
              · (intro X hSw; (try dsimp only at hSw); go_simp; all_goals with_reducible rfl)
              (try simp only [Act.put, List.setIfInBounds_toArray, List.set_cons_zero, List.set_cons_succ])
              refine wpAnyH_take (i := 16) (oi := ⟨some 79, _, _, _, _, _⟩) (v := ?_) rfl (by kernel_rfl) (by kernel_rfl) (by kernel_rfl) (fun _ _ _ h => h) (Or.inl ⟨by rfl, ?_⟩) (by assumption) ?_; rotate_left
              · (intro X hSw; (try dsimp only at hSw); go_simp; all_goals with_reducible rfl)
              (try simp only [Act.put, List.setIfInBounds_toArray, List.set_cons_zero, List.set_cons_succ])
              refine wpAnyH_take (i := 17) (oi := ⟨some 80, _, _, _, _, _⟩) (v := ?_) rfl (by kernel_rfl) (by kernel_rfl) (by kernel_rfl) (fun _ _ _ h => h) (Or.inl ⟨by rfl, ?_⟩) (by assumption) ?_; rotate_left
              · (intro X hSw; (try dsimp only at hSw); go_simp; all_goals with_reducible rfl)
              (try simp only [Act.put, List.setIfInBounds_toArray, List.set_cons_zero, List.set_cons_succ])
              refine wpAnyH_take (i := 18) (oi := ⟨some 81, _, _, _, _, _⟩) (v := ?_) rfl (by kernel_rfl) (by kernel_rfl) (by kernel_rfl) (fun _ _ _ h => h) (Or.inl ⟨by rfl, ?_⟩) (by assumption) ?_; rotate_left
              · (intro X hSw; (try dsimp only at hSw); go_simp; all_goals with_reducible rfl)
              (try simp only [Act.put, List.setIfInBounds_toArray, List.set_cons_zero, List.set_cons_succ])
              refine wpAnyH_take (i := 19) (oi := ⟨some 82, _, _, _, _, _⟩) (v := ?_) rfl (by kernel_rfl) (by kernel_rfl) (by kernel_rfl) (fun _ _ _ h => h) (Or.inl ⟨by rfl, ?_⟩) (by assumption) ?_; rotate_left
              · (intro X hSw; (try dsimp only at hSw); go_simp; all_goals with_reducible rfl)
              (try simp only [Act.put, List.setIfInBounds_toArray, List.set_cons_zero, List.set_cons_succ])
              refine wpAnyH_take (i := 20) (oi := ⟨some 83, _, _, _, _, _⟩) (v := ?_) rfl (by kernel_rfl) (by kernel_rfl) (by kernel_rfl) (fun _ _ _ h => h) (Or.inl ⟨by rfl, ?_⟩) (by assumption) ?_; rotate_left
              · (intro X hSw; (try dsimp only at hSw); go_simp; all_goals with_reducible rfl)
              (try simp only [Act.put, List.setIfInBounds_toArray, List.set_cons_zero, List.set_cons_succ])
              refine wpAnyH_take (i := 21) (oi := ⟨some 84, _, _, _, _, _⟩) (v := ?_) rfl (by kernel_rfl) (by kernel_rfl) (by kernel_rfl) (fun _ _ _ h => h) (Or.inl ⟨by rfl, ?_⟩) (by assumption) ?_; rotate_left
              · (intro X hSw; (try dsimp only at hSw); go_simp; all_goals with_reducible rfl)
              (try simp only [Act.put, List.setIfInBounds_toArray, List.set_cons_zero, List.set_cons_succ])
              refine wpAnyH_take (i := 22) (oi := ⟨some 85, _, _, _, _, _⟩) (v := ?_) rfl (by kernel_rfl) (by kernel_rfl) (by kernel_rfl) (fun _ _ _ h => h) (Or.inl ⟨by rfl, ?_⟩) (by assumption) ?_; rotate_left
              · (intro X hSw; (try dsimp only at hSw); go_simp; all_goals with_reducible rfl)
              (try simp only [Act.put, List.setIfInBounds_toArray, List.set_cons_zero, List.set_cons_succ])
              refine wpAnyH_take (i := 23) (oi := ⟨some 86, _, _, _, _, _⟩) (v := ?_) rfl (by kernel_rfl) (by kernel_rfl) (by kernel_rfl) (fun _ _ _ h => h) (Or.inl ⟨by rfl, ?_⟩) (by assumption) ?_; rotate_left
              · (intro X hSw; (try dsimp only at hSw); go_simp; all_goals with_reducible rfl)
              (try simp only [Act.put, List.setIfInBounds_toArray, List.set_cons_zero, List.set_cons_succ])
              refine wpAnyH_take (i := 24) (oi := ⟨some 87, _, _, _, _, _⟩) (v := ?_) rfl (by kernel_rfl) (by kernel_rfl) (by kernel_rfl) (fun _ _ _ h => h) (Or.inl ⟨by rfl, ?_⟩) (by assumption) ?_; rotate_left
              · (intro X hSw; (try dsimp only at hSw); go_simp; all_goals with_reducible rfl)
              (try simp only [Act.put, List.setIfInBounds_toArray, List.set_cons_zero, List.set_cons_succ])
              refine wpAnyH_take (i := 25) (oi := ⟨some 88, _, _, _, _, _⟩) (v := ?_) rfl (by kernel_rfl) (by kernel_rfl) (by kernel_rfl) (fun _ _ _ h => h) (Or.inl ⟨by rfl, ?_⟩) (by assumption) ?_; rotate_left
              · (intro X hSw; (try dsimp only at hSw); go_simp; all_goals with_reducible rfl)
              (try simp only [Act.put, List.setIfInBounds_toArray, List.set_cons_zero, List.set_cons_succ])
              refine wpAnyH_take (i := 26) (oi := ⟨some 89, _, _, _, _, _⟩) (v := ?_) rfl (by kernel_rfl) (by kernel_rfl) (by kernel_rfl) (fun _ _ _ h => h) (Or.inl ⟨by rfl, ?_⟩) (by assumption) ?_; rotate_left
              · (intro X hSw; (try dsimp only at hSw); go_simp; all_goals with_reducible rfl)
              (try simp only [Act.put, List.setIfInBounds_toArray, List.set_cons_zero, List.set_cons_succ])
              refine wpAnyH_take (i := 27) (oi := ⟨some 90, _, _, _, _, _⟩) (v := undef) rfl (by kernel_rfl) (by kernel_rfl) (by kernel_rfl) (fun _ _ _ h => h) (Or.inr ⟨by kernel_rfl, rfl⟩) (by assumption) ?_
              (try simp only [Act.put, List.setIfInBounds_toArray, List.set_cons_zero, List.set_cons_succ])
              refine wpAnyH_take (i := 28) (oi := ⟨some 91, _, _, _, _, _⟩) (v := undef) rfl (by kernel_rfl) (by kernel_rfl) (by kernel_rfl) (fun _ _ _ h => h) (Or.inr ⟨by kernel_rfl, rfl⟩) (by assumption) ?_
              (try simp only [Act.put, List.setIfInBounds_toArray, List.set_cons_zero, List.set_cons_succ])
              refine wpAnyH_take (i := 29) (oi := ⟨some 92, _, _, _, _, _⟩) (v := undef) rfl (by kernel_rfl) (by kernel_rfl) (by kernel_rfl) (fun _ _ _ h => h) (Or.inr ⟨by kernel_rfl, rfl⟩) (by assumption) ?_
              (try simp only [Act.put, List.setIfInBounds_toArray, List.set_cons_zero, List.set_cons_succ])
              refine wpAnyH_take (i := 30) (oi := ⟨some 93, _, _, _, _, _⟩) (v := undef) rfl (by kernel_rfl) (by kernel_rfl) (by kernel_rfl) (fun _ _ _ h => h) (Or.inr ⟨by kernel_rfl, rfl⟩) (by assumption) ?_
              (try simp only [Act.put, List.setIfInBounds_toArray, List.set_cons_zero, List.set_cons_succ])
              refine wpAnyH_take (i := 31) (oi := ⟨some 94, _, _, _, _, _⟩) (v := undef) rfl (by kernel_rfl) (by kernel_rfl) (by kernel_rfl) (fun _ _ _ h => h) (Or.inr ⟨by kernel_rfl, rfl⟩) (by assumption) ?_
              (try simp only [Act.put, List.setIfInBounds_toArray, List.set_cons_zero, List.set_cons_succ])
              refine wpAnyH_take (i := 32) (oi := ⟨some 95, _, _, _, _, _⟩) (v := ?_) rfl (by kernel_rfl) (by kernel_rfl) (by kernel_rfl) (fun _ _ _ h => h) (Or.inl ⟨by rfl, ?_⟩) (by assumption) ?_; rotate_left
              · (intro X hSw; (try dsimp only at hSw); go_simp; all_goals with_reducible rfl)
              (try simp only [Act.put, List.setIfInBounds_toArray, List.set_cons_zero, List.set_cons_succ])
              refine wpAnyH_take (i := 33) (oi := ⟨some 96, _, _, _, _, _⟩) (v := ?_) rfl (by kernel_rfl) (by kernel_rfl) (by kernel_rfl) (fun _ _ _ h => h) (Or.inl ⟨by rfl, ?_⟩) (by assumption) ?_; rotate_left
              · (intro X hSw; (try dsimp only at hSw); go_simp; all_goals with_reducible rfl)
              (try simp only [Act.put, List.setIfInBounds_toArray, List.set_cons_zero, List.set_cons_succ])
              refine wpAnyH_take (i := 34) (oi := ⟨some 6, _, _, _, _, _⟩) (v := ?_) rfl (by kernel_rfl) (by kernel_rfl) (by kernel_rfl) (fun _ _ _ h => h) (Or.inl ⟨by rfl, ?_⟩) (by assumption) ?_; rotate_left
              · (intro X hSw; (try dsimp only at hSw); go_simp; all_goals with_reducible rfl)
              (try simp only [Act.put, List.setIfInBounds_toArray, List.set_cons_zero, List.set_cons_succ])
              refine wpAnyH_done (by kernel_rfl) ?_ _
              refine NoPanic.normal ?_
              have HB6 := Lib.hid (Hb5.out.trans (hHeld.1.mono Hb5.out.size))
              clear HKS hHeld
              go_wp2_with fail
              go_ret
              exact ⟨rfl, HB6.out⟩
end Go.Proofs.YthhghlnbpigcjaaGreatDoor
