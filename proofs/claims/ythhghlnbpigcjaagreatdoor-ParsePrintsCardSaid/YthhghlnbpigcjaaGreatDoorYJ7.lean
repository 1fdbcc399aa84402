/- Joined texts: Qd0; Qb2; Rs3. -/
import Derived.Test.YthhghlnbpigcjaaGreatDoorYPd0
import Derived.Test.YthhghlnbpigcjaaGreatDoorYQb1
import Derived.Test.YthhghlnbpigcjaaGreatDoorYPe1
import Derived.Test.YthhghlnbpigcjaaGreatDoorYGR
import Derived.Deep.RegionWith
import Derived.BigRegion
set_option linter.unusedVariables false
set_option linter.unusedSimpArgs false
namespace Go.Proofs.YthhghlnbpigcjaaGreatDoor
open Go.RowKit

set_option maxHeartbeats 16000000 in
set_option maxRecDepth 100000 in
theorem depthR_step (N : Nat) (ih : ∀ t : Tree, t.nodes ≤ N → ∀ (w : World) (S : Nat → Prop) (a : Option Addr) (n c : Nat), KSl w S t.kids a n → Calls Tryz.prog 14 #[t.val a n c] w fun e w' => e = .returned (.int .i64 (t.depth : Int)) ∧ Below w.heap.size w w')
    (hN : N ≤ 1000000) (t : Tree) (ht : t.nodes ≤ N + 1) (w : World) (S : Nat → Prop) (a : Option Addr) (n c : Nat) (hk : KSl w S t.kids a n) :
    Calls Tryz.prog 14 #[t.val a n c] w fun e w' => e = .returned (.int .i64 (t.depth : Int)) ∧ Below w.heap.size w w' := by
  have Hk := Lib.hid hk; have IH := Lib.hid ih
  have hn := hk.len
  have hdep : t.depth = Tree.deep t.kids + 1 := depth_eq t
  have Hn := Lib.hid hn; have Hdep := Lib.hid hdep
  have hcount : Tree.count t.kids ≤ N := by have := nodes_eq t; omega
  have HCN := Lib.hid hcount
  have HDN : Hid (Tree.deep t.kids ≤ N) := Lib.hid (Nat.le_trans (deep_count _) hcount)
  have HN := Lib.hid hN
  have hni : (n : Int) ≤ 1000000 := by have := len_count t.kids; omega
  clear hk ih hn hdep ht hN hcount
  generalize hdd : t.depth = dd at Hdep ⊢
  clear hdd
  simp only [Tree.val]
  go_enter Tryz.func14, Tryz.ntmps14
  go_wp2_with fail
  have hb0 := Below.new w (.cells (t.cells a n c) 31)
  have Hb0 := Lib.hid hb0
  have Hk0 := Lib.hid (Hk.out.later hb0)
  clear hb0
  go_loopg [3, 9] n (fun g s i wx => ∃ (j : Nat) (I M : Int), s = .int .i64 M ∧ i = .int .i64 I ∧ Hid (I = (j : Int) ∧ M = (Tree.deep (t.kids.take j) : Int) ∧ j + g = n) ∧ Below w.heap.size w wx)
  case atStart => exact ⟨0, 0, 0, rfl, rfl, Lib.hid ⟨rfl, by simp [Tree.deep], by omega⟩, Hb0.out⟩
  case round =>
    obtain ⟨j, I, M, rfl, rfl, HI, hb⟩ := hrel
    have Hb := Lib.hid hb; clear hb
    have hI0 : 0 ≤ I := by have := HI.out; omega
    have hM0 : 0 ≤ M := by have := HI.out; omega
    have hM1 : M ≤ 1000000 := by have := HI.out; have := deep_take_le (l := t.kids) j; have := HDN.out; have := HN.out; omega
    by_cases hm : gk = 0
    · have hI1 : ¬ I < (n : Int) := by have := HI.out; omega
      have HR : Hid (M + 1 = (dd : Int)) := Lib.hid (by
        have h1 := HI.out; have h2 := Hdep.out; have h3 := Hn.out
        have h4 : t.kids.take j = t.kids := List.take_of_length_le (by omega)
        rw [h4] at h1
        omega)
      clear hm
      go_wp2_with fail
      go_ret
      exact ⟨by rw [← HR.out]; rfl, Hb.out⟩
    · have hI1 : I < (n : Int) := by have := HI.out; omega
      have hIj : I.toNat = j := by have := HI.out; omega
      obtain ⟨k, hk⟩ : ∃ k, t.kids[j]? = some k := ⟨t.kids[j]'(by have := HI.out; have := Hn.out; omega), List.getElem?_eq_getElem _⟩
      obtain ⟨b, o, ka, kn, kc, e1, hka, hks⟩ := Hk.out.get hk
      subst e1
      have hkN : k.nodes ≤ N := Nat.le_trans (mem_nodes (get_mem hk)) HCN.out
      have HM : Hid (max M (k.depth : Int) = (Tree.deep (t.kids.take (j + 1)) : Int)) := Lib.hid (by
        have h1 := HI.out
        rw [deep_take_succ hk]
        omega)
      have hkd : (k.depth : Int) ≤ 1000000 := by have := depth_nodes k; have := HN.out; omega
      have Hka := Lib.hid (hka.map fun i v hc => (Hb.out.cell (World.block_lt_of_cell? w _ hc)).trans hc)
      have hksw : KSl wr S k.kids ka kn := hks.later Hb.out
      have Hm := Lib.hid hm
      obtain ⟨c0, c1, c2, c3, c4, c5, c6, c7, c8⟩ := Hka.out
      clear hk hka hks hm
      go_upto_region 5 with fail
      have hbn := Below.new wr (.cells (k.cells ka kn kc) 31)
      have hkv := KVar.new wr k ka kn kc 31
      have Hc := Lib.hid (IH.out k hkN _ S ka kn kc (hksw.later hbn))
      have Hbn := Lib.hid (Hb.out.trans (hbn.mono Hb.out.size))
      clear hksw hbn c0 c1 c2 c3 c4 c5 c6 c7 c8
      generalize (wr.alloc _) = W at hkv Hc Hbn ⊢
      obtain ⟨c0, c1, c2, c3, c4, c5, c6, c7, c8, -, -⟩ := hkv
      go_wp2_with fail
      refine Hc.out.mono ?_
      rintro e w2 ⟨rfl, hb2⟩
      have Hb2 := Lib.hid (Hbn.out.trans (hb2.mono Hbn.out.size))
      clear hb2
      go_wp2_with fail
      go_roundg (gk - 1)
      case measure => have := Hm.out; omega
      case rel => exact ⟨j + 1, I + 1, _, rfl, rfl, Lib.hid ⟨by have := HI.out; omega, HM.out, by have := HI.out; have := Hm.out; omega⟩, Hb2.out⟩
theorem depthR_any (N : Nat) (hN : N ≤ 1000000) : ∀ t : Tree, t.nodes ≤ N → ∀ (w : World) (S : Nat → Prop) (a : Option Addr) (n c : Nat), KSl w S t.kids a n → Calls Tryz.prog 14 #[t.val a n c] w fun e w' => e = .returned (.int .i64 (t.depth : Int)) ∧ Below w.heap.size w w' := by
  induction N with
  | zero => intro t ht; exact absurd (nodes_pos t) (by omega)
  | succ N ih => exact fun t ht w S a n c hk => depthR_step N (ih (by omega)) (by omega) t ht w S a n c hk
end Go.Proofs.YthhghlnbpigcjaaGreatDoor
set_option linter.unusedVariables false
set_option linter.unusedSimpArgs false
namespace Go.Proofs.YthhghlnbpigcjaaGreatDoor
open Go.RowKit

/-- what ref17.Parse answers: the test, the place, whether all is right -/
def ParseRAns (w w' : World) (r : Tree × Nat × Int) (en : Ending) : Prop := Below w.heap.size w w' ∧ ∃ a n c, en = .returned (.tuple #[r.1.val a n c, .int .i64 (r.2.1 : Int), .bool (r.2.2 == 0)]) ∧ KSl w' w.heap.size r.1.kids a n
theorem TSlB.slice {w : World} {R : Nat} {v : Value} {l : List Tk} (h : TSlB w R v l) : ∃ a c, v = .slice a l.length c := by
  rcases h with ⟨rfl, rfl⟩ | ⟨g, off, c, rfl, -⟩
  · exact ⟨none, 0, rfl⟩
  · exact ⟨_, _, rfl⟩
theorem TpAt.new {W : World} {v : Value} {l : List Tk} {e : Nat} (h : TSlB W W.heap.size v l) (ty : TypeId) : TpAt (W.alloc (.cells #[v, .int .i64 0, .int .i64 (e : Int), .int .i64 0, .int .i64 (-1)] ty)) W.heap.size l 0 e 0 (-1) :=
  ⟨⟨v, by simp, h.but (But.of (Below.new _ _))⟩, by simp, by simp, by simp, by simp, fun o => by simp, by simp⟩
theorem But.from_below {w X Y : World} {R : Nat} (h : But R X Y) (hb : Below w.heap.size w X) (hR : w.heap.size ≤ R) : Below w.heap.size w Y := hb.trans (h.below hR hb.size)
theorem below_put9r {w X : World} (h : Below w.heap.size w X) (v0 v1 v2 v3 v4 v5 v6 v7 v8 : Value) : Below w.heap.size w (st9 X w.heap.size v0 v1 v2 v3 v4 v5 v6 v7 v8) := below_put9 h (Nat.le_refl _) _ _ _ _ _ _ _ _ _
theorem pTest_nodes {s : List UInt8} {x : List Tk} {q0 : Nat} (h : lexL s = (some x, q0)) {e n : Nat} {t : Tree} {q : List Tk} (hp : pTest e n 0 x = .ok t q) : t.nodes ≤ 1000000 := by
  have h1 := lexL_length h
  have h2 := row_good (sz := s.length) (e := e) (.inr rfl) (fun l t r hl h => row_good (.inl rfl) (pPiece_good s.length e n 0) l t r hl h) x t q (lexL_ok h) hp
  have := h2.2.1
  omega
set_option maxHeartbeats 16000000 in
set_option maxRecDepth 100000 in
theorem refParse_any (w : World) (hl : Laid w) (s : ByteArray) (hn : s.size ≤ 100000) :
    Calls Tryz.prog 11 #[.string s] w fun en w' => ParseRAns w w' (parseF s.data.toList) en := by
  have Hl := Lib.hid hl
  have hlen : s.data.toList.length = s.size := (Lib.size_eq s).symm
  unfold parseF
  rw [hlen]
  generalize hL : lexL s.data.toList = L
  have HL := Lib.hid hL
  have Hx : Hid (∀ W, Laid W → Calls Tryz.prog 25 #[.string s] W fun e w' => RefAns W w' L e) := Lib.hid fun W h1 => hL ▸ lexR_any W h1 s hn
  clear hl hlen hL hn
  generalize hA : parseA s.size L = A
  have HA := Lib.hid hA
  clear hA
  go_enter Tryz.func11, Tryz.ntmps11
  go_upto_region 1 with fail
  have Hb := Lib.hid (Below.new w (.cells zcells 31))
  have Hz := Lib.hid (ZVar.new w 31)
  generalize World.alloc w _ = W at Hb Hz ⊢
  have Hx1 := Lib.hid (Hx.out W (Hl.out.below Hb.out))
  clear Hx
  go_wp2_with fail
  refine Hx1.out.mono ?_
  clear Hx1
  rintro en w1 ⟨v, rfl, hT⟩
  have HT := Lib.hid hT
  have Hb1 : Hid (Below w.heap.size w w1) := Lib.hid (Hb.out.trans (hT.below.mono Hb.out.size))
  have Hz1 := Lib.hid (Hz.out.below hT.below Hz.out.lt)
  clear hT
  obtain ⟨L1, q⟩ := L
  cases L1 with
  | none =>
    have Ha : Hid (A = (zeroT, q, 160)) := Lib.hid HA.out.symm
    obtain ⟨d0, d1, d2, d3, d4, d5, d6, d7, d8, dz, -⟩ := Hz1.out
    dsimp only [Option.isSome]
    go_wp2_with fail
    exact bodyPost_ret (v := .tuple #[zval, .int .i64 (q : Int), .bool false]) (by simp [results, Tryz.results11, go_sem, d0, d1, d2, d3, d4, d5, d6, d7, d8]) rfl (by rw [Ha.out]; exact ⟨below_put9r Hb1.out _ _ _ _ _ _ _ _ _, none, 0, 0, rfl, .empty⟩)
  | some x =>
    obtain ⟨hx1, hx2, rfl⟩ := lexL_length HL.out
    have Hx2 : Hid (x.length ≤ 2000) := Lib.hid (by omega)
    have hS : TSlB w1 w1.heap.size v x := HT.out.slb (X := w1) (R := w1.heap.size) (fun _ _ _ _ h => h) (fun _ _ => rfl) (Nat.le_refl _)
    obtain ⟨va, vc, hv⟩ := hS.slice
    subst hv
    have HM : Hid (Mute x) := Lib.hid (lexL_mute HL.out)
    have hs0 : (0 : Int) ≤ (s.size : Int) := by omega
    dsimp only [Option.isSome]
    go_upto_region 5 with fail
    have hbn := Below.new w1 (.cells #[.slice va x.length vc, .int .i64 0, .int .i64 (s.size : Int), .int .i64 0, .int .i64 (-1)] 61)
    have H2 := Lib.hid (TpAt.new (e := s.size) hS 61)
    have Hz2 := Lib.hid (Hz1.out.below hbn Hz1.out.lt)
    have Hb2 : Hid (Below w.heap.size w _) := Lib.hid (Hb1.out.trans (hbn.mono Hb1.out.size))
    have HwT : Hid (w.heap.size < w1.heap.size) := Lib.hid Hz1.out.lt
    clear hS hbn hx1 hx2 hs0
    generalize World.alloc w1 _ = W2 at H2 Hz2 Hb2 ⊢
    generalize w1.heap.size = T at H2 HwT ⊢
    have hlev := Lib.hid (tlevel_any s.size T x (by have := Hx2.out; omega) HM.out (x.length + 1) W2 0 H2.out (by simp))
    go_wp2_with fail
    refine hlev.out.mono ?_
    clear hlev
    rintro en w3 ⟨hb3, t, a, n, c, rfl, hk, hst⟩
    rw [List.drop_zero] at hst
    have hTl := H2.out.lt
    have hwT := HwT.out
    have Hb3 : Hid (Below w.heap.size w w3) := Lib.hid (hb3.from_below Hb2.out (Nat.le_of_lt hwT))
    have Hz3 : Hid (ZVar w3 w.heap.size) := Lib.hid (Hz2.out.map (fun i v hc => hb3.cell hc (by show w.heap.size ≠ T; omega)) (fun o => hb3.frozen (by show w.heap.size < W2.heap.size; omega) (by show w.heap.size ≠ T; omega)) hb3.size)
    have hkw : W2.heap.size ≤ w3.heap.size := hb3.size
    have hbn := Below.new w3 (.cells (t.cells a n c) 31)
    have HX4 := Lib.hid (KVar.new w3 t a n c 31)
    have Hk4 := Lib.hid ((hk.sub fun b hb => (show w.heap.size < b by have : W2.heap.size ≤ b := hb; omega)).later hbn)
    have Hz4 := Lib.hid (Hz3.out.below hbn Hz3.out.lt)
    have Hb4 : Hid (Below w.heap.size w _) := Lib.hid (Hb3.out.trans (hbn.mono Hb3.out.size))
    have Htp : Hid (∀ i e (d b : Int), TpAt w3 T x i e d b → TpAt (w3.alloc (.cells (t.cells a n c) 31)) T x i e d b) := Lib.hid fun i e d b h => h.below hbn
    have HXT : Hid (T < w3.heap.size) := Lib.hid (by omega)
    clear hb3 hk hTl hwT hkw hbn
    simp only [Tree.val]
    go_upto_region 6 with fail
    generalize World.alloc w3 _ = W4 at HX4 Hk4 Hz4 Hb4 Htp ⊢
    generalize w3.heap.size = X at HX4 HXT ⊢
    cases hr : pTest s.size (x.length + 1) 0 x with
    | bad pp =>
      rw [hr] at hst
      obtain ⟨i, D, hst⟩ := hst
      have H4 := Htp.out _ _ _ _ hst
      have Ha : Hid (A = (zeroT, pp, 160)) := Lib.hid (by rw [← HA.out]; simp only [parseA, parseL, hr])
      have t4 := H4.c4
      have hp0 : ¬ (pp : Int) < 0 := by omega
      have hp1 : (0 : Int) ≤ (pp : Int) := by omega
      clear hst H4 hr
      generalize hPP : (pp : Int) = P at t4 hp0 hp1
      go_upto_region 11 with fail
      obtain ⟨d0, d1, d2, d3, d4, d5, d6, d7, d8, dz, -⟩ := Hz4.out
      have hne : w.heap.size ≠ T := by have := HwT.out; omega
      have hne2 : T ≠ w.heap.size := Ne.symm hne
      have HPP := Lib.hid hPP
      clear hPP
      go_region_with (fail)
      all_goals simp only [List.getElem_toArray, List.getElem_cons_succ, List.getElem_cons_zero, Act.put, List.setIfInBounds_toArray, List.set_cons_zero, List.set_cons_succ]
      all_goals go_wp2_with fail
      all_goals exact bodyPost_ret (v := .tuple #[zval, .int .i64 P, .bool false]) (by simp [results, Tryz.results11, go_sem, d0, d1, d2, d3, d4, d5, d6, d7, d8]) rfl (by rw [Ha.out]; exact ⟨(below_put9r Hb4.out _ _ _ _ _ _ _ _ _).drew, none, 0, 0, by rw [← HPP.out]; rfl, .empty⟩)
    | ok u q2 =>
      rw [hr] at hst
      obtain ⟨rfl, j, hj, hst⟩ := hst
      have Hj := Lib.hid hj
      have H4 := Lib.hid (Htp.out _ _ _ _ hst)
      have Hnod : Hid (t.nodes ≤ 1000000) := Lib.hid (pTest_nodes HL.out hr)
      have hjx : Hid ((j < x.length) ↔ q2 ≠ []) := Lib.hid (by
        rw [← Hj.out]
        constructor
        · intro h e
          have := congrArg List.length e
          simp at this
          omega
        · intro h
          rcases Nat.lt_or_ge j x.length with h1 | h1
          · exact h1
          · exact absurd (List.drop_eq_nil_of_le h1) h)
      have t1 := H4.out.c1
      have t4 := H4.out.c4
      by_cases hq2 : q2 = []
      · have hjn : ¬ j < x.length := fun h => (hjx.out.1 h) hq2
        have hdn : ¬ (j : Int) < (x.length : Int) := by omega
        have Hd : Hid (∀ W, Below W4.heap.size W4 W → Calls Tryz.prog 14 #[.agg #[.int .i64 t.k, .int .i64 t.pos, .string ⟨t.col.toArray⟩, .int .i64 t.v.k, .int .i64 t.v.n, .string t.v.s, .int .u64 t.v.f, .int .i64 t.op, .slice a n c]] W fun e w' => e = .returned (.int .i64 (t.depth : Int)) ∧ Below W.heap.size W w') := Lib.hid fun W hb => depthR_any 1000000 (Nat.le_refl _) t Hnod.out W _ a n c (Hk4.out.later hb)
        obtain ⟨k0, k1, k2, k3, k4, k5, k6, k7, k8, -, -⟩ := HX4.out
        have hc := Lib.hid (Hd.out W4 (Below.refl _ _))
        have Hdep : Hid (t.depth = t.depth) := Lib.hid rfl
        by_cases h40 : 40 < t.depth
        · have Ha : Hid (A = (zeroT, 0, 160)) := Lib.hid (by rw [← HA.out]; simp only [parseA, parseL, hr]; rw [if_neg (fun h => h hq2), if_pos h40])
          have h40i : (40 : Int) < (t.depth : Int) := by omega
          clear hst hj hr hq2 h40 Hd Hdep
          go_wp2_with fail
          refine hc.out.mono ?_
          clear hc
          rintro en w5 ⟨rfl, hb5⟩
          have H5 := Lib.hid (H4.out.below hb5)
          have Hz5 := Lib.hid (Hz4.out.below hb5 Hz4.out.lt)
          have Hb5 : Hid (Below w.heap.size w w5) := Lib.hid (Hb4.out.trans (hb5.mono Hb4.out.size))
          have t4' := H5.out.c4
          have z4' := H5.out.z 4
          clear hb5 t1 t4 k0 k1 k2 k3 k4 k5 k6 k7 k8 hdn hjn
          go_upto_region 10 with fail
          generalize hv : World.setCell w5 _ _ = W6
          have hbx : But T w5 W6 := by rw [← hv]; exact (But.refl T w5).set 4 _
          have H6 : Hid (TpAt W6 T x j s.size 0 0) := Lib.hid (by rw [← hv]; exact H5.out.setB 0)
          have hwT := HwT.out
          have hz6 : ZVar W6 w.heap.size := Hz5.out.map (fun i v hc => hbx.cell hc (by show w.heap.size ≠ T; omega)) (fun o => hbx.frozen (by have := Hz5.out.lt; exact this) (by show w.heap.size ≠ T; omega)) hbx.size
          have Hb6 : Hid (Below w.heap.size w W6) := Lib.hid (hbx.from_below Hb5.out (Nat.le_of_lt hwT))
          have hne : w.heap.size ≠ T := by omega
          have hne2 : T ≠ w.heap.size := Ne.symm hne
          have t6 := H6.out.c4
          clear hv hbx t4' z4' hwT
          obtain ⟨d0, d1, d2, d3, d4, d5, d6, d7, d8, dz, -⟩ := hz6
          go_upto_region 11 with fail
          go_region_with (fail)
          all_goals simp only [List.getElem_toArray, List.getElem_cons_succ, List.getElem_cons_zero, Act.put, List.setIfInBounds_toArray, List.set_cons_zero, List.set_cons_succ]
          all_goals go_wp2_with fail
          all_goals exact bodyPost_ret (v := .tuple #[zval, .int .i64 0, .bool false]) (by simp [results, Tryz.results11, go_sem, d0, d1, d2, d3, d4, d5, d6, d7, d8]) rfl (by rw [Ha.out]; exact ⟨(below_put9r Hb6.out _ _ _ _ _ _ _ _ _).drew, none, 0, 0, rfl, .empty⟩)
        · have Ha : Hid (A = (t, 0, 0)) := Lib.hid (by rw [← HA.out]; simp only [parseA, parseL, hr]; rw [if_neg (fun h => h hq2), if_neg h40])
          have h40i : ¬ (40 : Int) < (t.depth : Int) := by omega
          clear hst hj hr hq2 h40 Hd Hdep
          go_wp2_with fail
          refine hc.out.mono ?_
          clear hc
          rintro en w5 ⟨rfl, hb5⟩
          have H5 := Lib.hid (H4.out.below hb5)
          have Hz5 := Lib.hid (Hz4.out.below hb5 Hz4.out.lt)
          have Hb5 : Hid (Below w.heap.size w w5) := Lib.hid (Hb4.out.trans (hb5.mono Hb4.out.size))
          have Hk5 := Lib.hid (Hk4.out.later hb5)
          have HX5 := Lib.hid (HX4.out.below hb5 HX4.out.lt)
          have t4' := H5.out.c4
          clear hb5 t1 t4 k0 k1 k2 k3 k4 k5 k6 k7 k8 hdn hjn
          obtain ⟨k0, k1, k2, k3, k4, k5, k6, k7, k8, -, -⟩ := HX5.out
          obtain ⟨d0, d1, d2, d3, d4, d5, d6, d7, d8, dz, -⟩ := Hz5.out
          go_wp2_with fail
          exact bodyPost_ret (v := .tuple #[t.val a n c, .int .i64 0, .bool true]) (by simp [results, Tryz.results11, go_sem, d0, d1, d2, d3, d4, d5, d6, d7, d8, Tree.val]) rfl (by rw [Ha.out]; exact ⟨below_put9r Hb5.out _ _ _ _ _ _ _ _ _, a, n, c, rfl, (Hk5.out.putS (fun h => Nat.lt_irrefl _ h) _ _ _ _ _ _ _ _ _).sub fun b hb => Nat.le_of_lt hb⟩)
      · have hjn : j < x.length := hjx.out.2 hq2
        have hdn : (j : Int) < (x.length : Int) := by omega
        have Ha : Hid (A = (zeroT, pAt s.size q2, 160)) := Lib.hid (by rw [← HA.out]; simp only [parseA, parseL, hr]; rw [if_pos hq2])
        have hc : Hid (Calls Tryz.prog 27 #[.pointer (some ⟨T, 0, none⟩)] W4 fun en w' => en = .returned zval ∧ TpAt w' T x j s.size 0 (pAt s.size q2 : Int) ∧ But T W4 w') := Lib.hid (by have := tfail_any W4 T x j s.size 0 (-1) (by decide) H4.out; rw [Hj.out] at this; exact this)
        clear hst hj hr hq2
        generalize pAt s.size q2 = pp at Ha hc
        go_wp2_with fail
        refine hc.out.mono ?_
        clear hc
        rintro en w5 ⟨rfl, h5, hb5⟩
        have hwT := HwT.out
        have hz5 : ZVar w5 w.heap.size := Hz4.out.map (fun i v hc => hb5.cell hc (by show w.heap.size ≠ T; omega)) (fun o => hb5.frozen (by have := Hz4.out.lt; exact this) (by show w.heap.size ≠ T; omega)) hb5.size
        have Hb5 : Hid (Below w.heap.size w w5) := Lib.hid (hb5.from_below Hb4.out (Nat.le_of_lt hwT))
        have hne : w.heap.size ≠ T := by omega
        have hne2 : T ≠ w.heap.size := Ne.symm hne
        have t5 := h5.c4
        have hp0 : ¬ (pp : Int) < 0 := by omega
        have hp1 : (0 : Int) ≤ (pp : Int) := by omega
        clear t1 t4 hdn hjn h5 hb5 hwT
        obtain ⟨P, hPP⟩ : ∃ P : Int, (pp : Int) = P := ⟨_, rfl⟩
        rw [hPP] at t5 hp0 hp1
        have HPP := Lib.hid hPP
        clear hPP
        obtain ⟨d0, d1, d2, d3, d4, d5, d6, d7, d8, dz, -⟩ := hz5
        go_upto_region 11 with fail
        go_region_with (fail)
        all_goals simp only [List.getElem_toArray, List.getElem_cons_succ, List.getElem_cons_zero, Act.put, List.setIfInBounds_toArray, List.set_cons_zero, List.set_cons_succ]
        all_goals go_wp2_with fail
        all_goals exact bodyPost_ret (v := .tuple #[zval, .int .i64 P, .bool false]) (by simp [results, Tryz.results11, go_sem, d0, d1, d2, d3, d4, d5, d6, d7, d8]) rfl (by rw [Ha.out]; exact ⟨(below_put9r Hb5.out _ _ _ _ _ _ _ _ _).drew, none, 0, 0, by rw [← HPP.out]; rfl, .empty⟩)
end Go.Proofs.YthhghlnbpigcjaaGreatDoor
set_option linter.unusedVariables false
set_option linter.unusedSimpArgs false
namespace Go.Proofs.YthhghlnbpigcjaaGreatDoor
open Go.RowKit

set_option maxHeartbeats 16000000 in
set_option maxRecDepth 100000 in
theorem lexR_long (w : World) (s : ByteArray) (h2 : 2000 < s.size) :
    Calls Tryz.prog 25 #[.string s] w fun e w' => RefAns w w' (none, 2000) e := by
  have h2i : 2000 < (s.size : Int) := by omega
  clear h2
  go_enter Tryz.func25, Tryz.ntmps25
  go_wp2_with fail
  exact bodyPost_ret (v := .tuple #[.slice none 0 0, .int .i64 2000, .bool false]) (by simp [results, Tryz.results25, go_sem]) rfl (refAns_none rfl rfl (Below.refl _ _))
set_option maxHeartbeats 16000000 in
set_option maxRecDepth 100000 in
theorem refParse_long (w : World) (s : ByteArray) (h2 : 2000 < s.size) :
    Calls Tryz.prog 11 #[.string s] w fun en w' => ParseRAns w w' (parseF s.data.toList) en := by
  have hlen : s.data.toList.length = s.size := (Lib.size_eq s).symm
  have hF : parseF s.data.toList = (zeroT, 2000, 160) := by
    unfold parseF lexL
    rw [hlen, if_pos h2]
    rfl
  rw [hF]
  have Hx : Hid (∀ W, Calls Tryz.prog 25 #[.string s] W fun e w' => RefAns W w' (none, 2000) e) := Lib.hid fun W => lexR_long W s h2
  clear hlen hF h2
  go_enter Tryz.func11, Tryz.ntmps11
  go_upto_region 1 with fail
  have Hb := Lib.hid (Below.new w (.cells zcells 31))
  have Hz := Lib.hid (ZVar.new w 31)
  generalize World.alloc w _ = W at Hb Hz ⊢
  go_wp2_with fail
  refine (Hx.out W).mono ?_
  rintro en w1 ⟨v, rfl, hT⟩
  have Hb1 : Hid (Below w.heap.size w w1) := Lib.hid (Hb.out.trans (hT.below.mono Hb.out.size))
  have Hz1 := Lib.hid (Hz.out.below hT.below Hz.out.lt)
  clear hT
  obtain ⟨d0, d1, d2, d3, d4, d5, d6, d7, d8, dz, -⟩ := Hz1.out
  dsimp only [Option.isSome]
  go_wp2_with fail
  exact bodyPost_ret (v := .tuple #[zval, .int .i64 2000, .bool false]) (by simp [results, Tryz.results11, go_sem, d0, d1, d2, d3, d4, d5, d6, d7, d8]) rfl ⟨below_put9r Hb1.out _ _ _ _ _ _ _ _ _, none, 0, 0, rfl, .empty⟩
theorem refParse_all (w : World) (hl : Laid w) (s : ByteArray) :
    Calls Tryz.prog 11 #[.string s] w fun en w' => ParseRAns w w' (parseF s.data.toList) en := by
  by_cases h2 : 2000 < s.size
  · exact refParse_long w s h2
  · exact refParse_any w hl s (by omega)
end Go.Proofs.YthhghlnbpigcjaaGreatDoor
