/- The walk of CacheAlone. -/
import Derived.Test.YtdblpcfkiiliiaaD1
set_option linter.unusedVariables false
set_option linter.unusedSimpArgs false
namespace Go.Proofs.Ytdblpcfkiiliiaa
open Go.RowKit

/-- two caches side by side, the first below block s, the second from there on; their first parts are alike -/
structure TwoAt (w wr : World) (s Ca aa ca Cb ab cb : Nat) (pa fa pb fb : Nat → Nat) (p r r' : Pt) (j : Int) : Prop where
  a : CaAt wr Ca aa ca pa fa [p, r]
  b : CaAt wr Cb ab cb pb fb [p, r']
  ok : p.ok j
  ok' : r'.ok j
  below : Below w.heap.size w wr
  la : w.heap.size ≤ Ca ∧ w.heap.size ≤ aa ∧ (∀ t, t < 2 → w.heap.size ≤ pa t ∧ w.heap.size ≤ fa t)
  lb : w.heap.size ≤ Cb ∧ w.heap.size ≤ ab ∧ (∀ t, t < 2 → w.heap.size ≤ pb t ∧ w.heap.size ≤ fb t)
  ua : Ca < s ∧ aa < s ∧ (∀ t, t < 2 → pa t < s ∧ fa t < s)
  ub : s ≤ Cb ∧ s ≤ ab ∧ (∀ t, t < 2 → s ≤ pb t ∧ s ≤ fb t)

theorem TwoAt.grown {w wr w' : World} {s Ca aa ca Cb ab cb : Nat} {pa fa pb fb : Nat → Nat} {p r r' : Pt} {j : Int} (h : TwoAt w wr s Ca aa ca Cb ab cb pa fa pb fb p r r' j) (k : Below wr.heap.size wr w') : TwoAt w w' s Ca aa ca Cb ab cb pa fa pb fb p r r' j :=
  ⟨h.a.below k, h.b.below k, h.ok, h.ok', h.below.trans (k.mono h.below.size), h.la, h.lb, h.ua, h.ub⟩
/-- an act upon the second cache's other part -/
theorem TwoAt.other {w wr w' : World} {s Ca aa ca Cb ab cb : Nat} {pa fa pb fb : Nat → Nat} {p r r' x : Pt} {j j' : Int} (h : TwoAt w wr s Ca aa ca Cb ab cb pa fa pb fb p r r' j) (hj : j ≤ j') (hc : CaAt w' Cb ab cb pb fb [p, x]) (hu : Upd (Of (pb 1) (fb 1)) wr w') (hx : x.ok j') :
    TwoAt w w' s Ca aa ca Cb ab cb pa fa pb fb p r x j' := by
  have l1 := h.lb.2.2 1 (by omega)
  have u1 := h.ub.2.2 1 (by omega)
  refine ⟨h.a.upd hu ?_ ?_ ?_, hc, h.ok.mono hj, hx, Upd.below h.below hu (fun i hi => by rcases hi with rfl | rfl <;> omega) h.below.size, h.la, h.lb, h.ua, h.ub⟩
  · rintro (e | e) <;> have := h.ua.1 <;> omega
  · rintro (e | e) <;> have := h.ua.2.1 <;> omega
  · intro t ht
    have := h.ua.2.2 t (by simpa using ht)
    exact ⟨by rintro (e | e) <;> omega, by rintro (e | e) <;> omega⟩
/-- the same act upon both first parts -/
theorem TwoAt.both {w wr w1 w2 : World} {s Ca aa ca Cb ab cb : Nat} {pa fa pb fb : Nat → Nat} {p r r' x : Pt} {j j' : Int} (h : TwoAt w wr s Ca aa ca Cb ab cb pa fa pb fb p r r' j) (hj : j ≤ j') (hc : CaAt w1 Ca aa ca pa fa [x, r]) (hu : Upd (Of (pa 0) (fa 0)) wr w1)
    (hc2 : CaAt w2 Cb ab cb pb fb [x, r']) (hu2 : Upd (Of (pb 0) (fb 0)) w1 w2) (hx : x.ok j') : TwoAt w w2 s Ca aa ca Cb ab cb pa fa pb fb x r r' j' := by
  have l1 := h.lb.2.2 0 (by omega)
  have u1 := h.ub.2.2 0 (by omega)
  have l2 := h.la.2.2 0 (by omega)
  have u2 := h.ua.2.2 0 (by omega)
  have hb1 := Upd.below h.below hu (fun i hi => by rcases hi with rfl | rfl <;> omega) h.below.size
  refine ⟨hc.upd hu2 ?_ ?_ ?_, hc2, hx, h.ok'.mono hj, Upd.below hb1 hu2 (fun i hi => by rcases hi with rfl | rfl <;> omega) hb1.size, h.la, h.lb, h.ua, h.ub⟩
  · rintro (e | e) <;> have := h.ua.1 <;> omega
  · rintro (e | e) <;> have := h.ua.2.1 <;> omega
  · intro t ht
    have := h.ua.2.2 t (by simpa using ht)
    exact ⟨by rintro (e | e) <;> omega, by rintro (e | e) <;> omega⟩
/-- the second cache, while the first is acted upon -/
theorem TwoAt.second {w wr w1 : World} {s Ca aa ca Cb ab cb : Nat} {pa fa pb fb : Nat → Nat} {p r r' : Pt} {j : Int} (h : TwoAt w wr s Ca aa ca Cb ab cb pa fa pb fb p r r' j) (hu : Upd (Of (pa 0) (fa 0)) wr w1) : CaAt w1 Cb ab cb pb fb [p, r'] := by
  have u2 := h.ua.2.2 0 (by omega)
  refine h.b.upd hu ?_ ?_ ?_
  · rintro (e | e) <;> have := h.ub.1 <;> omega
  · rintro (e | e) <;> have := h.ub.2.1 <;> omega
  · intro t ht
    have := h.ub.2.2 t (by simpa using ht)
    exact ⟨by rintro (e | e) <;> omega, by rintro (e | e) <;> omega⟩

set_option maxHeartbeats 4000000 in
set_option maxRecDepth 100000 in
theorem alone_walk (w : World) (qq : Int) (A1 A2 : Option Addr) (n1 c1 n2 c2 : Nat) (xs ys : List OpD) (hn1 : xs.length = n1) (hn2 : ys.length = n2) (hm1 : n1 ≤ 9223372036854775807) (hm2 : n2 ≤ 9223372036854775807) (hx : OpsAt w A1 xs) (hy : OpsAt w A2 ys) :
    Calls Try.prog 5 #[.int .i64 qq, .slice A1 n1 c1, .slice A2 n2 c2] w fun e w' => e = .returned (.bool true) ∧ Below w.heap.size w w' := by
  have Hx := Lib.hid hx; clear hx
  have Hy := Lib.hid hy; clear hy
  have Hn1 := Lib.hid hn1; clear hn1
  have Hn2 := Lib.hid hn2; clear hn2
  go_enter Try.func5, Try.ntmps5
  go_wp2_with fail
  refine (first_any w).mono ?_
  rintro e w1 ⟨rfl, hb1⟩
  go_wp2_with fail
  obtain ⟨q, hq1, hq8, hq⟩ := quota_of qq
  rw [hq]
  clear hq
  refine (new_two _ w1.heap.size q 3 hq1 (by omega) (by omega) (by omega) (by simp) (by simp) (by simp)).mono ?_
  rintro e w2 ⟨Ca, aa, ca, pa, fa, rfl, hca, hb2, la1, la2, la3⟩
  have hs2 := hb2.size
  have hs1 := hb1.size
  simp at la1 la2 la3 hs2
  have hbb : Below w.heap.size w w2 := (hb1.alloc hb1.size _).trans (hb2.mono (by simp; omega))
  clear hb1 hb2
  have Hca := Lib.hid hca; clear hca
  have La3 := Lib.hid la3; clear la3
  go_wp2_with fail
  refine (new_two _ w2.heap.size q 3 hq1 (by omega) (by omega) (by omega) (by simp) (by simp) (by simp)).mono ?_
  rintro e w3 ⟨Cb, ab, cb, pb, fb, rfl, hcb, hb3, lb1, lb2, lb3⟩
  have hs3 := hb3.size
  simp at lb1 lb2 lb3 hs3
  have htwo : TwoAt w w3 w2.heap.size Ca aa ca Cb ab cb pa fa pb fb (newPt q) (newPt 3) (newPt 3) 0 := by
    have hb4 : Below w2.heap.size w2 w3 := ((Below.refl _ _).alloc (Nat.le_refl _) _).trans (hb3.mono (by simp))
    have hca := Hca.out
    refine ⟨hca.below hb4, hcb, newPt_ok q, newPt_ok 3, hbb.trans (hb4.mono (by omega)), ⟨by omega, by omega, fun t ht => by have := La3.out t ht; omega⟩, ⟨by omega, by omega, fun t ht => by have := lb3 t ht; omega⟩,
      ⟨hca.bc, hca.ba, fun t ht => ⟨(hca.pt t (by simpa using ht)).b1, (hca.pt t (by simpa using ht)).b2⟩⟩, ⟨by omega, by omega, fun t ht => by have := lb3 t ht; omega⟩⟩
  have Ht := Lib.hid htwo
  clear hcb hb3 lb1 lb2 lb3 hs1 hs2 hs3 la1 la2 hbb htwo Hca La3
  go_wp2_with fail
  go_loopg [40] n1 (fun k i wr => ∃ (j : Nat) (p r r' : Pt) (B : Int), 0 ≤ B ∧ B ≤ 2 * j ∧ j ≤ n1 ∧ j ≤ 150 ∧ k = n1 - j ∧ i = .int .i64 j ∧ TwoAt w wr w2.heap.size Ca aa ca Cb ab cb pa fa pb fb p r r' B)
  case atStart => exact ⟨0, _, _, _, 0, by omega, by omega, by omega, by omega, by omega, rfl, Ht.out⟩
  case round =>
    obtain ⟨j, p, r, r', B, hB0, hB1, hj, hj2, hk, rfl, ht⟩ := hrel
    have Hk := Lib.hid hk; clear hk Ht
    by_cases hjn : j < n1
    · have hlx : j < xs.length := by rw [Hn1.out]; exact hjn
      obtain ⟨b, off, hA, hbs, k0, k1, k2⟩ := Hx.out j hlx
      subst hA
      have e0 := (ht.below.cell (p := ⟨b, off + j * 3, none⟩) hbs).trans k0
      have e1 := (ht.below.cell (p := ⟨b, off + j * 3 + 1, none⟩) hbs).trans k1
      have e2 := (ht.below.cell (p := ⟨b, off + j * 3 + 2, none⟩) hbs).trans k2
      clear k0 k1 k2
      have Ht := Lib.hid ht; clear ht
      by_cases hj150 : j < 150
      · have hge : ¬ (150 : Int) ≤ j := by omega
        by_cases hy : j < n2
        · skip
          have hly : j < ys.length := by rw [Hn2.out]; exact hy
          obtain ⟨b2, off2, hA2, hbs2, k0, k1, k2⟩ := Hy.out j hly
          subst hA2
          have y0 := (Ht.out.below.cell (p := ⟨b2, off2 + j * 3, none⟩) hbs2).trans k0
          have y1 := (Ht.out.below.cell (p := ⟨b2, off2 + j * 3 + 1, none⟩) hbs2).trans k1
          have y2 := (Ht.out.below.cell (p := ⟨b2, off2 + j * 3 + 2, none⟩) hbs2).trans k2
          clear k0 k1 k2
          have hbs3 : b2 < wr.heap.size := Nat.lt_of_lt_of_le hbs2 Ht.out.below.size
          go_wp2_with fail
          have Ht1 := Lib.hid (show (pa 0 < wr.heap.size ∧ fa 0 < wr.heap.size ∧ pb 1 < wr.heap.size ∧ fb 1 < wr.heap.size) from ⟨(Ht.out.a.pt 0 (by simp)).b1, (Ht.out.a.pt 0 (by simp)).b2, (Ht.out.b.pt 1 (by simp)).b1, (Ht.out.b.pt 1 (by simp)).b2⟩)
          have Ht0 := Lib.hid (Ht.out.grown (w' := (wr.alloc (.cells #[.int .i64 xs[j].kind, .int .i64 0, .int .i64 xs[j].page] 43)).alloc (.cells #[.int .i64 ys[j].kind, .int .i64 1, .int .i64 ys[j].page] 43)) (((Below.refl _ _).alloc (Nat.le_refl _) _).alloc (by simp) _))
          clear Ht e0 e1 e2 y0 y1 y2
          refine (do1 Ht0.out.b ys[j].kind ys[j].page (Ht0.out.ok'.mono (by omega))).mono ?_
          rintro e w0 ⟨rfl, hc0, hu0⟩
          have Hbx0 := Lib.hid (((Box.new wr xs[j].kind 0 xs[j].page).upd (S := Of (pb 1) (fb 1)) ((Upd.refl _ _).alloc (.cells #[.int .i64 ys[j].kind, .int .i64 1, .int .i64 ys[j].page] 43)) (by have := Ht1.out; rintro (e | e) <;> omega)).upd hu0 (by have := Ht1.out; rintro (e | e) <;> omega))
          have Ht2 := Lib.hid (Ht0.out.other (j' := B + 1) (by omega) hc0 hu0 (act_ok Ht0.out.ok' (by omega) _ _))
          clear Ht0 hc0 hu0
          have e0 := Hbx0.out.c0
          have e1 := Hbx0.out.c1
          have e2 := Hbx0.out.c2
          generalize act r' (kd ys[j].kind) ys[j].page = ar at Ht2 ⊢
          go_wp2_with fail
          clear e0 e1 e2
          refine (do0 Ht2.out.a xs[j].kind xs[j].page (Ht2.out.ok.mono (by omega))).mono ?_
          rintro e w4 ⟨rfl, hc4, hu4⟩
          have hw0 := Ht2.out.a.pt 0 (by simp)
          have hbx := Hbx0.out.upd hu4 (by have := hw0.b1; have := hw0.b2; have := Ht1.out; rintro (e | e) <;> omega)
          have e0 := hbx.c0
          have e1 := hbx.c1
          have e2 := hbx.c2
          have Hc4 := Lib.hid hc4
          have Hu4 := Lib.hid hu4
          clear hc4 hu4 hw0 hbx
          go_wp2_with fail
          refine (do0 (Ht2.out.second Hu4.out) xs[j].kind xs[j].page (Ht2.out.ok.mono (by omega))).mono ?_
          rintro e w5 ⟨rfl, hc5, hu5⟩
          have ht5 := Ht2.out.both (j' := B + 1 + 1) (by omega) Hc4.out Hu4.out hc5 hu5 (act_ok (Ht2.out.ok.mono (by omega)) (by omega) _ _)
          clear hc5 hu5 e0 e1 e2 Hc4 Hu4 Ht2 Hbx0
          generalize act p (kd xs[j].kind) xs[j].page = ac at ht5 ⊢
          have Ht5 := Lib.hid ht5; clear ht5
          go_wp2_with fail
          refine (counts0 Ht5.out.a).mono ?_
          rintro e w6 ⟨rfl, hb6⟩
          have Ht6 := Lib.hid (Ht5.out.grown hb6)
          clear Ht5 hb6
          go_wp2_with fail
          refine (counts0 Ht6.out.b).mono ?_
          rintro e w7 ⟨rfl, hb7⟩
          have Ht7 := Lib.hid (Ht6.out.grown hb7)
          clear Ht6 hb7
          go_wp2_with fail
          go_roundg (n1 - (j + 1))
          case measure => have := Hk.out; omega
          case rel => exact ⟨j + 1, _, _, _, _, by omega, by omega, by omega, by omega, rfl, by go_num, Ht7.out⟩
        · have hy' : ¬ (j : Int) < n2 := by omega
          go_wp2_with fail
          have Ht1 := Lib.hid (show (pa 0 < wr.heap.size ∧ fa 0 < wr.heap.size) from ⟨(Ht.out.a.pt 0 (by simp)).b1, (Ht.out.a.pt 0 (by simp)).b2⟩)
          have Ht2 := Lib.hid (Ht.out.grown (w' := wr.alloc (.cells #[.int .i64 xs[j].kind, .int .i64 0, .int .i64 xs[j].page] 43)) ((Below.refl _ _).alloc (Nat.le_refl _) _))
          clear Ht e0 e1 e2
          refine (do0 Ht2.out.a xs[j].kind xs[j].page (Ht2.out.ok.mono (by omega))).mono ?_
          rintro e w4 ⟨rfl, hc4, hu4⟩
          have hw0 := Ht2.out.a.pt 0 (by simp)
          have hbx := (Box.new wr xs[j].kind 0 xs[j].page).upd hu4 (by have := hw0.b1; have := hw0.b2; have := Ht1.out; rintro (e | e) <;> omega)
          have e0 := hbx.c0
          have e1 := hbx.c1
          have e2 := hbx.c2
          have Hc4 := Lib.hid hc4
          have Hu4 := Lib.hid hu4
          clear hc4 hu4 hw0 hbx
          go_wp2_with fail
          refine (do0 (Ht2.out.second Hu4.out) xs[j].kind xs[j].page (Ht2.out.ok.mono (by omega))).mono ?_
          rintro e w5 ⟨rfl, hc5, hu5⟩
          have ht5 := Ht2.out.both (j' := B + 1) (by omega) Hc4.out Hu4.out hc5 hu5 (act_ok (Ht2.out.ok.mono (by omega)) (by omega) _ _)
          clear hc5 hu5 e0 e1 e2 Hc4 Hu4 Ht2
          generalize act p (kd xs[j].kind) xs[j].page = ac at ht5 ⊢
          have Ht5 := Lib.hid ht5; clear ht5
          go_wp2_with fail
          refine (counts0 Ht5.out.a).mono ?_
          rintro e w6 ⟨rfl, hb6⟩
          have Ht6 := Lib.hid (Ht5.out.grown hb6)
          clear Ht5 hb6
          go_wp2_with fail
          refine (counts0 Ht6.out.b).mono ?_
          rintro e w7 ⟨rfl, hb7⟩
          have Ht7 := Lib.hid (Ht6.out.grown hb7)
          clear Ht6 hb7
          go_wp2_with fail
          go_roundg (n1 - (j + 1))
          case measure => have := Hk.out; omega
          case rel => exact ⟨j + 1, _, _, _, _, by omega, by omega, by omega, by omega, rfl, by go_num, Ht7.out⟩
      · have hge : (150 : Int) ≤ j := by omega
        go_wp2_with fail
        go_ret
        exact ⟨rfl, Ht.out.below.alloc Ht.out.below.size _⟩
    · go_wp2_with fail
      go_ret
      exact ⟨rfl, ht.below⟩
end Go.Proofs.Ytdblpcfkiiliiaa
