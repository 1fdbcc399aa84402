/- The walk of CachePlays. -/
import Derived.Test.YtdblpcfkiiliiaaP0
set_option linter.unusedVariables false
set_option linter.unusedSimpArgs false
namespace Go.Proofs.Ytdblpcfkiiliiaa
open Go.RowKit

set_option maxHeartbeats 8000000 in
set_option maxRecDepth 100000 in
theorem plays_walk (w : World) (A1 A2 : Option Addr) (n1 c1 n2 c2 : Nat) (qs : List Int) (ys : List OpD) (hn1 : qs.length = n1) (hn2 : ys.length = n2) (hm1 : n1 ≤ 9223372036854775807) (hm2 : n2 ≤ 9223372036854775807) (hq : NumsAt w A1 qs) (hy : OpsAt w A2 ys) :
    Calls Try.prog 4 #[.slice A1 n1 c1, .slice A2 n2 c2] w fun e w' => e = .returned (.bool true) ∧ Below w.heap.size w w' := by
  have Hq := Lib.hid hq; clear hq
  have Hy := Lib.hid hy; clear hy
  have Hn1 := Lib.hid hn1; clear hn1
  have Hn2 := Lib.hid hn2; clear hn2
  go_enter Try.func4, Try.ntmps4
  go_wp2_with fail
  refine (first_any w).mono ?_
  rintro e w1 ⟨rfl, hb1⟩
  by_cases h20 : n1 ≤ 20
  · have h20' : ¬ 20 < n1 := by omega
    have Hqs := Lib.hid (Hq.out.below hb1)
    obtain ⟨m, hml, hmr, hmx⟩ := first_wrong qs
    have Hmr := Lib.hid hmr; have Hmx := Lib.hid hmx; clear hmr hmx
    rw [Hn1.out] at hml
    have Hb1 := Lib.hid hb1; clear hb1
    go_wp2_with fail
    by_cases hgood : m = n1 ∧ 1 ≤ n1 ∧ n1 ≤ 8
    · obtain ⟨hmn, h1, h8⟩ := hgood
      subst hmn
      have Hr := Lib.hid (show ∀ i, ∀ h : i < qs.length, 1 ≤ qs[i] ∧ qs[i] ≤ 64 from fun i h => Hmr.out i h (by rw [← Hn1.out]; exact h))
      clear Hmr Hmx hml h20
      refine (new_good w1 A1 m c1 qs Hn1.out h1 h8 Hqs.out Hr.out).mono ?_
      rintro e w2 ⟨C, a, ca, pb, fb, rfl, hca, hb2, lc, la, lp⟩
      have Hb2 := Lib.hid (Hb1.out.trans (hb2.mono Hb1.out.size))
      have Hq2 := Lib.hid (Hqs.out.below hb2)
      have Hca := Lib.hid hca
      have Hlp := Lib.hid (show (∀ t, t < m → w.heap.size ≤ pb t ∧ w.heap.size ≤ fb t) from fun t ht => by have := lp t ht; have := Hb1.out.size; omega)
      clear hca hb2 lc la lp Hqs Hb1
      go_wp2_with fail
      refine (right_all w2 A1 m c1 qs Hn1.out (by omega) Hq2.out Hr.out true (by simp; omega)).mono ?_
      rintro e w3 ⟨rfl, rfl⟩
      go_wp2_with fail
      go_loopg [10, 78] m (fun k v i wr => ∃ (j : Nat) (rp rf rc : Nat → Nat), j ≤ m ∧ k = m - j ∧ i = .int .i64 j ∧ MkAt w2 wr v j qs rp rf rc)
      case atStart =>
        refine ⟨0, fun _ => 0, fun _ => 0, fun _ => 0, by omega, by omega, rfl, Below.refl _ _, ?_, fun t ht => by omega, fun t s ht => by omega, fun k hk => by simp [Value.ownBlock] at hk⟩
        exact ⟨by simp [ptrs], .inl ⟨rfl, rfl⟩⟩
      case round =>
        obtain ⟨j, rp, rf, rc, hj, hk, rfl, hmk⟩ := hrel
        have Hk := Lib.hid hk; clear hk
        by_cases hjm : j < m
        · have hlj : j < qs.length := by rw [Hn1.out]; exact hjm
          obtain ⟨b, off, hA, hbs, hc⟩ := Hq2.out j hlj
          subst hA
          have hc' := (hmk.below.cell (p := ⟨b, off + j, none⟩) hbs).trans hc
          clear hc
          obtain ⟨hr1, hr2⟩ := Hr.out j hlj
          obtain ⟨q, hqv⟩ := Int.eq_ofNat_of_zero_le (show 0 ≤ qs[j] by omega)
          have hgd : qs.getD j 0 = q := by rw [← hqv]; simp [List.getD_eq_getElem?_getD, hlj]
          have Hgd := Lib.hid hgd
          rw [hqv] at hc' hr1 hr2
          have Hm := Lib.hid hmk
          clear hqv hgd hmk
          go_wp2_with fail
          refine (rnew_any wr q (by omega) (by omega)).mono ?_
          rintro e w4 ⟨rfl, hrp, hb4⟩
          have Hrp := Lib.hid hrp; have Hb4 := Lib.hid hb4
          clear hrp hb4
          go_wp2_with (at_builtin; refine wpList_push rfl rfl rfl w2 wr w4 _ j qs rp rf rc Hm.out (by omega) Hb4.out (.pointer (some ⟨wr.heap.size + 1, 0, none⟩)) rfl rfl rfl rfl ?_; intro g c w5 hg1 hg2 hg3; have Hs := Lib.hid (Hm.out.step q Hgd.out Hrp.out Hb4.out ((Below.refl _ _).alloc (Nat.le_refl _) _) hg1 hg2 hg3); clear hg1 hg2 hg3)
          go_roundg (m - (j + 1))
          case measure => have := Hk.out; omega
          case rel => exact ⟨j + 1, _, _, _, by omega, rfl, by go_num, Hs.out⟩
        · have hje : j = m := by omega
          subst hje
          obtain ⟨G, gc, rfl, hpl⟩ := hmk.play Hn1.out h1 Hb2.out Hca.out Hb2.out.size Hlp.out
          have Hpl := Lib.hid hpl
          clear hpl hmk Hlp Hca Hb2 Hk Hr Hq2 Hq
          go_wp2_with fail
          go_loopg [90] n2 (fun k v wr => ∃ (i : Nat) (ps : List Pt) (rf rc : Nat → Nat) (B : Int), 0 ≤ B ∧ B ≤ i ∧ i ≤ n2 ∧ i ≤ 200 ∧ k = n2 - i ∧ v = .int .i64 i ∧ PlAt w wr w2.heap.size C a ca j pb fb G gc rp rf rc ps B)
          case atStart => exact ⟨0, _, _, _, 0, by omega, by omega, by omega, by omega, by omega, rfl, Hpl.out⟩
          case round =>
            obtain ⟨i, ps, rf, rc, B, hB0, hB1, hi, hi2, hk, rfl, hp⟩ := hrel
            have Hk := Lib.hid hk; clear hk Hpl
            by_cases hin : i < n2
            · have hly : i < ys.length := by rw [Hn2.out]; exact hin
              obtain ⟨b, off, hA, hbs, k0, k1, k2⟩ := Hy.out i hly
              subst hA
              have e0 := (hp.below.cell (p := ⟨b, off + i * 3, none⟩) hbs).trans k0
              have e1 := (hp.below.cell (p := ⟨b, off + i * 3 + 1, none⟩) hbs).trans k1
              have e2 := (hp.below.cell (p := ⟨b, off + i * 3 + 2, none⟩) hbs).trans k2
              clear k0 k1 k2
              have Hp := Lib.hid hp; clear hp
              by_cases hi200 : i < 200
              · have hge : ¬ (200 : Int) ≤ i := by omega
                generalize hT : ys[i].tenant = T at e1
                generalize hK : ys[i].kind = K at e0
                generalize hP : ys[i].page = P at e2
                clear hT hK hP
                go_wp2_with fail
                have Hx := Lib.hid (Hp.out.grown (w' := wr.alloc (.cells #[.int .i64 K, .int .i64 T, .int .i64 P] 43)) ((Below.refl _ _).alloc (Nat.le_refl _) _))
                have Hbx := Lib.hid (Box.new wr K T P)
                have Hlt := Lib.hid (show ∀ t, t < j → pb t < wr.heap.size ∧ fb t < wr.heap.size ∧ rp t < wr.heap.size ∧ rf t < wr.heap.size from fun t ht => by
                  have h1 := Hp.out.sz
                  have h2 := Hp.out.low.2.2 t ht
                  have h3 := Hp.out.r t (by rw [Hp.out.len]; exact ht)
                  exact ⟨by omega, by omega, h3.b1, h3.b2⟩)
                clear Hp e0 e1 e2
                by_cases hout : T < 0 ∨ (j : Int) ≤ T
                · refine (do_out _ C T K P (fun W hb p => seek_out (Hx.out.c.below hb) T p (by have := Hx.out.len; omega))).mono ?_
                  rintro e w4 ⟨rfl, hb4⟩
                  have Hx4 := Lib.hid (Hx.out.grown hb4)
                  have hbx4 := Hbx.out.upd (S := fun _ => False) (Upd.of_below hb4) (fun h => h)
                  have e0 := hbx4.c0
                  have e1 := hbx4.c1
                  clear hbx4 hb4 Hx Hbx Hlt
                  cases hk0 : ((IntKind.u64.wrap K).tmod 5 == 0)
                  · rw [show outErr K = 0 from by unfold outErr kd; rw [if_neg (by simp [hk0])]]
                    by_cases hT : T < 0
                    · clear hout
                      go_wp2_with fail
                      refine (counts_no w4 C T (seek_out Hx4.out.c T 0 (.inl hT))).mono ?_
                      rintro e w5 ⟨rfl, hb5⟩
                      have Hx5 := Lib.hid (Hx4.out.grown hb5)
                      clear hb5 Hx4
                      go_wp2_with fail
                      go_roundg (n2 - (i + 1))
                      case measure => have := Hk.out; omega
                      case rel => exact ⟨i + 1, _, _, _, _, hB0, by omega, by omega, by omega, rfl, by go_num, Hx5.out⟩
                    · have hT2 : (j : Int) ≤ T := by omega
                      clear hout
                      go_wp2_with fail
                      refine (counts_no w4 C T (seek_out Hx4.out.c T 0 (.inr (by have := Hx4.out.len; omega)))).mono ?_
                      rintro e w5 ⟨rfl, hb5⟩
                      have Hx5 := Lib.hid (Hx4.out.grown hb5)
                      clear hb5 Hx4
                      go_wp2_with fail
                      go_roundg (n2 - (i + 1))
                      case measure => have := Hk.out; omega
                      case rel => exact ⟨i + 1, _, _, _, _, hB0, by omega, by omega, by omega, rfl, by go_num, Hx5.out⟩
                  · rw [show outErr K = 2 from by unfold outErr kd; rw [if_pos hk0]]
                    by_cases hT : T < 0
                    · clear hout
                      go_wp2_with fail
                      refine (counts_no w4 C T (seek_out Hx4.out.c T 0 (.inl hT))).mono ?_
                      rintro e w5 ⟨rfl, hb5⟩
                      have Hx5 := Lib.hid (Hx4.out.grown hb5)
                      clear hb5 Hx4
                      go_wp2_with fail
                      go_roundg (n2 - (i + 1))
                      case measure => have := Hk.out; omega
                      case rel => exact ⟨i + 1, _, _, _, _, hB0, by omega, by omega, by omega, rfl, by go_num, Hx5.out⟩
                    · have hT2 : (j : Int) ≤ T := by omega
                      clear hout
                      go_wp2_with fail
                      refine (counts_no w4 C T (seek_out Hx4.out.c T 0 (.inr (by have := Hx4.out.len; omega)))).mono ?_
                      rintro e w5 ⟨rfl, hb5⟩
                      have Hx5 := Lib.hid (Hx4.out.grown hb5)
                      clear hb5 Hx4
                      go_wp2_with fail
                      go_roundg (n2 - (i + 1))
                      case measure => have := Hk.out; omega
                      case rel => exact ⟨i + 1, _, _, _, _, hB0, by omega, by omega, by omega, rfl, by go_num, Hx5.out⟩
                · obtain ⟨t, rfl⟩ := Int.eq_ofNat_of_zero_le (show 0 ≤ T by omega)
                  have htj : t < j := by omega
                  have ht : t < ps.length := by rw [Hx.out.len]; exact htj
                  clear hout
                  refine (do_in _ C a ca pb fb ps Hx.out.c t ht t rfl K P ((Hx.out.ok t ht).mono (by omega))).mono ?_
                  rintro e w4 ⟨rfl, hc4, hu4⟩
                  have hbx4 := Hbx.out.upd hu4 (by have := Hlt.out t htj; rintro (h | h) <;> omega)
                  have e0 := hbx4.c0
                  have e1 := hbx4.c1
                  have e2 := hbx4.c2
                  have hg4 := (hu4.cell (p := ⟨G, t, none⟩) Hx.out.gl (by have := Hx.out.low.2.2 t htj; have := Hx.out.gs; rintro (e | e) <;> simp only at e <;> omega)).trans (Hx.out.g t htj)
                  have Hr4 := Lib.hid ((Hx.out.r t ht).upd hu4 (by have := Hx.out.low.2.2 t htj; have := Hx.out.high t htj; rintro (e | e) <;> omega) (by have := Hx.out.low.2.2 t htj; have := Hx.out.high t htj; rintro (e | e) <;> omega))
                  have Hbx4 := Lib.hid hbx4
                  have Hc4 := Lib.hid hc4
                  have Hu4 := Lib.hid hu4
                  clear hbx4 hc4 hu4 Hbx
                  go_wp2_with fail
                  refine (twin_any w4 (rp t) (rf t) (rc t) ps[t] Hr4.out K t P ((Hx.out.ok t ht).mono (by omega))).mono ?_
                  rintro e w5 ⟨rfl, g, c, hr5, hu5, hg5⟩
                  have hbx5 := Hbx4.out.upd hu5 (by have := Hlt.out t htj; rintro (h | h) <;> omega)
                  have e0 := hbx5.c0
                  have e1 := hbx5.c1
                  have Hbx5 := Lib.hid hbx5
                  obtain ⟨rf', rc', hs5⟩ : ∃ rf' rc', PlAt w w5 w2.heap.size C a ca j pb fb G gc rp rf' rc' (ps.set t (act ps[t] (kd K) P).1) (B + 1) :=
                    ⟨_, _, Hx.out.acted (by omega) t ht Hc4.out Hu4.out hr5 hu5 hg5 (act_ok (Hx.out.ok t ht) (by omega) _ _)⟩
                  clear hr5 hu5 hg5 hbx5 Hbx4 Hx Hr4 Hc4 Hu4 Hlt hg4
                  generalize hac : act ps[t] (kd K) P = ac at hs5 ⊢
                  clear hac
                  generalize hps : ps.set t ac.1 = ps' at hs5
                  clear hps
                  have ht5 : t < ps'.length := by rw [hs5.len]; exact htj
                  have Hs5 := Lib.hid hs5
                  clear hs5 ht
                  go_wp2_with fail
                  refine (counts_at w5 C a ca pb fb ps' Hs5.out.c t ht5 t rfl).mono ?_
                  rintro e w6 ⟨rfl, hb6⟩
                  have Hs6 := Lib.hid (Hs5.out.grown hb6)
                  have hbx6 := Hbx5.out.upd (S := fun _ => False) (Upd.of_below hb6) (fun h => h)
                  clear e0 e1
                  have e1 := hbx6.c1
                  have Hbx6 := Lib.hid hbx6
                  clear hb6 hbx6 Hs5 Hbx5
                  go_wp2_with fail
                  refine (rcounts_any w6 (rp t) (rf' t) (rc' t) ps'[t] (Hs6.out.r t ht5)).mono ?_
                  rintro e w7 ⟨rfl, hb7⟩
                  have Hs7 := Lib.hid (Hs6.out.grown hb7)
                  have hbx7 := Hbx6.out.upd (S := fun _ => False) (Upd.of_below hb7) (fun h => h)
                  clear e1
                  have e1 := hbx7.c1
                  have elt := hbx7.lt
                  have hrt := Hs7.out.r t ht5
                  have r0 := hrt.c0
                  have rb1 := hrt.b1
                  have rb2 := hrt.b2
                  have r64 := hrt.n64
                  have Hfr := Lib.hid hrt.fr
                  generalize hN : ps'[t].frames.length = N at r0 r64
                  have HN := Lib.hid hN
                  clear hb7 hbx7 Hs6 Hbx6 hrt hN
                  have Hm4 := Lib.hid (fun (W : World) (hb : Below w7.heap.size w7 W) => (hb.cell (p := ⟨wr.heap.size, 1, none⟩) elt).trans e1)
                  go_wp2_with fail
                  go_loopg [166] N (fun k v wr => ∃ (u : Nat), u ≤ N ∧ k = N - u ∧ v = .int .i64 u ∧ Below w7.heap.size w7 wr)
                  case atStart => exact ⟨0, by omega, by omega, rfl, Below.refl _ _⟩
                  case round =>
                    obtain ⟨u, hu, hk, rfl, hbu⟩ := hrel
                    have Hku := Lib.hid hk; clear hk
                    by_cases hun : u < N
                    · have hul : u < ps'[t].frames.length := by rw [HN.out]; exact hun
                      obtain ⟨f0, f1, f2, f3⟩ := Hfr.out.four u hul
                      have m0 := (hbu.cell (p := ⟨rf' t, u * 4, none⟩) rb2).trans f0
                      have m1 := (hbu.cell (p := ⟨rf' t, u * 4 + 1, none⟩) rb2).trans f1
                      have m2 := (hbu.cell (p := ⟨rf' t, u * 4 + 2, none⟩) rb2).trans f2
                      have m3 := (hbu.cell (p := ⟨rf' t, u * 4 + 3, none⟩) rb2).trans f3
                      have m4 := Hm4.out _ hbu
                      clear f0 f1 f2 f3 e1
                      have Hbu := Lib.hid hbu
                      have hsz := hbu.size
                      have elt2 := Nat.lt_of_lt_of_le elt hsz
                      clear hbu
                      cases hf : ps'[t].frames[u].full with
                      | false =>
                        rw [hf] at m2
                        clear hf
                        go_wp2_with fail
                        go_roundg (N - (u + 1))
                        case measure => have := Hku.out; omega
                        case rel => exact ⟨u + 1, by omega, rfl, by go_num, Hbu.out.alloc hsz _⟩
                      | true =>
                        rw [hf] at m2
                        have Hhas := Lib.hid (has_of_full hul hf)
                        clear hf
                        go_wp2_with fail
                        refine (has_at _ C a ca pb fb ps' (Hs7.out.c.below (Hbu.out.alloc hsz _)) t ht5 t rfl _).mono ?_
                        rintro e w8 ⟨rfl, hb8⟩
                        rw [Hhas.out]
                        have hb9 := (Hbu.out.alloc hsz _).trans (hb8.mono (by simp; omega))
                        have Hb9 := Lib.hid hb9
                        clear hb8 hb9
                        go_wp2_with fail
                        go_roundg (N - (u + 1))
                        case measure => have := Hku.out; omega
                        case rel => exact ⟨u + 1, by omega, rfl, by go_num, Hb9.out⟩
                    · have Hs8 := Lib.hid (Hs7.out.grown hbu)
                      clear Hs7 e1 hbu
                      go_wp2_with fail
                      go_roundg (n2 - (i + 1))
                      case measure => have := Hk.out; omega
                      case rel => exact ⟨i + 1, _, _, _, _, by omega, by omega, by omega, by omega, rfl, by go_num, Hs8.out⟩
              · have hge : (200 : Int) ≤ i := by omega
                go_wp2_with fail
                go_ret
                exact ⟨rfl, Hp.out.below.alloc Hp.out.below.size _⟩
            · go_wp2_with fail
              go_ret
              exact ⟨rfl, hp.below⟩
    · have Hnew := Lib.hid (new_not w1 A1 n1 c1 qs Hn1.out h20 Hqs.out m hml Hmr.out Hmx.out hgood)
      refine Hnew.out.mono ?_
      rintro e w2 ⟨rfl, hb2⟩
      have Hr2 := Lib.hid (right_not w2 A1 n1 c1 qs Hn1.out h20 (Hqs.out.below hb2) m hml Hmr.out Hmx.out hgood)
      have hbb := Hb1.out.trans (hb2.mono Hb1.out.size)
      clear hb2 Hnew Hb1 Hmr Hmx Hqs hgood
      go_wp2_with fail
      refine Hr2.out.mono ?_
      rintro e w3 ⟨rfl, rfl⟩
      clear Hr2
      go_wp2_with fail
      refine (touch_nil w2 0 0).mono ?_
      rintro e w3 ⟨rfl, hb⟩
      replace hbb := hbb.trans (hb.mono hbb.size); clear hb
      go_wp2_with fail
      refine (hold_nil w3 0 0).mono ?_
      rintro e w4 ⟨rfl, hb⟩
      replace hbb := hbb.trans (hb.mono hbb.size); clear hb
      go_wp2_with fail
      refine (release_nil w4 0 0).mono ?_
      rintro e w5 ⟨rfl, hb⟩
      replace hbb := hbb.trans (hb.mono hbb.size); clear hb
      go_wp2_with fail
      refine (drop_nil w5 0 0).mono ?_
      rintro e w6 ⟨rfl, hb⟩
      replace hbb := hbb.trans (hb.mono hbb.size); clear hb
      go_wp2_with fail
      refine (has_nil w6 0 0).mono ?_
      rintro e w7 ⟨rfl, hb⟩
      replace hbb := hbb.trans (hb.mono hbb.size); clear hb
      go_wp2_with fail
      refine (counts_nil w7 0).mono ?_
      rintro e w8 ⟨rfl, hb⟩
      replace hbb := hbb.trans (hb.mono hbb.size); clear hb
      go_wp2_with fail
      go_ret
      exact ⟨rfl, hbb⟩
  · have h20' : 20 < n1 := by omega
    go_wp2_with fail
    go_ret
    exact ⟨rfl, hb1⟩
end Go.Proofs.Ytdblpcfkiiliiaa
