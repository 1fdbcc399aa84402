/- The walk of ValuePuts. -/
import Derived.Test.YtacafhmagonngaaGreatDoorVGets
import Derived.Test.YtacafhmagonngaaGreatDoorGH
set_option linter.unusedVariables false
set_option linter.unusedSimpArgs false
namespace Go.Proofs.YtacafhmagonngaaGreatDoor
open Go.RowKit

theorem bytes_join (a b : List UInt8) : (⟨(a ++ b).toArray⟩ : ByteArray) = ⟨a.toArray⟩ ++ ⟨b.toArray⟩ := by
  apply ByteArray.ext
  rw [ByteArray.data_append]
  simp
theorem Sl.text {w W : World} {v : Value} {l : List UInt8} (h : Sl w v l) (hb : Below w.heap.size w W) : (convert 39 9 v).run Tryz.prog W = .ok (.string ⟨l.toArray⟩) W := by
  rcases h.below hb with ⟨rfl, rfl⟩ | ⟨a, c, rfl, h2, h3⟩
  · rw [run_convert_bytes_string W 39 9 5 none 0 0 Tryz.underlying39 Tryz.underlying5 Tryz.underlying9]
    rfl
  · have := conv_at W a c l.length l (Nat.le_refl _) (fun _ => h3)
    rwa [List.take_length] at this
theorem putL_pos (x : Val) : 0 < (putL x).length := by
  unfold putL
  split
  · simp
  · split
    · simp
    · split
      · simp
      · split <;> simp
theorem putL_len {x : Val} (h : RightC x) : (putL x).length ≤ 100 := by
  have hn := natF_length 9
  obtain ⟨k, n, s, f⟩ := x
  rcases h with ⟨hk, -⟩ | ⟨hk, -⟩ | ⟨hk, -⟩ | ⟨hk, h1, h2, h3⟩ | ⟨hk, -⟩
  · simp only at hk; subst hk; show 1 ≤ 100; omega
  · simp only at hk; subst hk
    have := hn (foldN n)
    show (natF 9 (foldN n)).length + 1 ≤ 100
    omega
  · simp only at hk; subst hk; show 2 ≤ 100; omega
  · simp only at hk h3; subst hk
    have := hn s.size
    have hl : s.data.toList.length = s.size := (Lib.size_eq s).symm
    show (natF 9 s.size ++ s.data.toList).length + 1 ≤ 100
    rw [List.length_append, hl]
    omega
  · simp only at hk; subst hk
    show (leN 8 f.toNat).length + 1 ≤ 100
    rw [leN_length]
    omega
set_option maxHeartbeats 16000000 in
set_option maxRecDepth 100000 in
theorem puts_walk (w : World) (hl : Laid w) (v : Value) (l : List UInt8) (hs : Sl w v l) (x : Val) (hx : x.Wf) :
    Calls Tryz.prog 7 #[v, x.v] w fun e w' => e = .returned (.bool true) ∧ Below w.heap.size w w' := by
  have hform : ∃ (ao : Option Addr) (cp : Nat), v = .slice ao l.length cp := by
    rcases hs with ⟨rfl, rfl⟩ | ⟨a, c, rfl, -, -⟩
    · exact ⟨none, 0, rfl⟩
    · exact ⟨some a, c, rfl⟩
  obtain ⟨ao, cp, rfl⟩ := hform
  have Hs := Lib.hid hs
  have HF : Hid (∀ W, Below w.heap.size w W → Calls Tryz.prog 8 #[] W fun e w' => e = .returned (.bool true) ∧ Below W.heap.size W w') := Lib.hid fun W h => firstV_any W (hl.below h)
  obtain ⟨N, hN⟩ : ∃ N, l.length = N := ⟨_, rfl⟩
  have Hat := Lib.hid (At.new w x.k x.n x.s x.f 26)
  have Hbw := Lib.hid (below_box1 w (.cells #[.int .i64 x.k, .int .i64 x.n, .string x.s, .int .u64 x.f] 26))
  have Hput : Hid (N ≤ 1000 → ∀ W, Below w.heap.size w W → Calls Tryz.prog 15 #[.slice ao l.length cp, x.v] W fun e w' => ∃ v', e = .returned v' ∧ Buf W w' v' (l ++ putL (rightOf x))) := Lib.hid fun h W hb => put_any W _ l x (hs.below hb) (by omega) hx
  have HputR : Hid (∀ W, Calls Tryz.prog 21 #[x.v] W fun e w' => ∃ v', e = .returned v' ∧ Buf W w' v' (putL (rightOf x))) := Lib.hid fun W => putR_any W x hx
  have Hrr : Hid (∀ W : World, Calls Tryz.prog 11 #[x.v] W fun e w' => e = .returned (.bool (rightB x)) ∧ Below W.heap.size W w') := Lib.hid fun W => rightR_any W x hx.f0 hx.f1
  have Hget : Hid (getL (putL (rightOf x)) = some (rightOf x, [])) := Lib.hid (by have := get_put (rightC x) (right_wf x hx) []; rwa [List.append_nil] at this)
  have Hq0 := Lib.hid (putL_pos (rightOf x))
  have Hq9 := Lib.hid (putL_len (rightC x))
  have Hcase : Hid ((rightB x = true ∧ rightOf x = x) ∨ (rightB x = false ∧ rightOf x = zeroVal)) := Lib.hid (by
    cases h : rightB x with
    | true => exact .inl ⟨rfl, right_self h⟩
    | false => exact .inr ⟨rfl, by unfold rightOf; rw [h]; rfl⟩)
  generalize putL (rightOf x) = q at *
  generalize hy : rightOf x = y at *
  generalize rightB x = rb at *
  obtain ⟨xk, xn, xs, xf⟩ := x
  obtain ⟨yk, yn, ys, yf⟩ := y
  simp only [Val.v] at *
  rw [hN] at Hs Hput ⊢
  have HN := Lib.hid hN
  clear hs hl hx hy hN
  go_enter Tryz.func7, Tryz.ntmps7
  go_wp2_with fail
  generalize (w.alloc _) = W0 at Hat Hbw ⊢
  generalize hA : w.heap.size = A at *
  refine (HF.out W0 (by first | exact Hbw.out | (rw [hA]; exact Hbw.out))).mono ?_
  rintro e w1 ⟨rfl, hb⟩
  have HA1 := Lib.hid (Hat.out.below hb Hat.out.lt)
  have Hb1 := Lib.hid (Hbw.out.trans (hb.mono (Nat.le_of_lt Hat.out.lt)))
  clear hb Hat Hbw HF
  obtain ⟨a0, a1, a2, a3⟩ := HA1.out.val
  by_cases hbig : 1000 < max (N : Int) (xs.size : Int)
  · go_wp2_with fail
    all_goals
      go_ret
      exact ⟨rfl, by first | exact Hb1.out | (rw [hA]; exact Hb1.out)⟩
  · have hN1 : (N : Int) ≤ 1000 := by omega
    have hN2 : (xs.size : Int) ≤ 1000 := by omega
    have HN1 : Hid (N ≤ 1000) := Lib.hid (by omega)
    clear hbig
    go_upto_region 5 with fail
    go_wp2_with fail
    refine (Hput.out HN1.out w1 Hb1.out).mono ?_
    rintro e w2 ⟨v2, rfl, hb⟩
    have HA2 := Lib.hid (HA1.out.below hb.below HA1.out.lt)
    have Hb2 := Lib.hid (Hb1.out.trans (hb.below.mono (Nat.le_of_lt HA1.out.lt)))
    have hsl := hb.sl
    obtain ⟨g2, cap2, hv2⟩ := hb.form
    subst hv2
    have Hsl := Lib.hid hsl
    have hlen : (l ++ q).length = N + q.length := by rw [List.length_append, HN.out]
    obtain ⟨BS, hBS⟩ : ∃ BS : ByteArray, BS = ⟨l.toArray⟩ := ⟨_, rfl⟩
    obtain ⟨QS, hQS⟩ : ∃ QS : ByteArray, QS = ⟨q.toArray⟩ := ⟨_, rfl⟩
    obtain ⟨M, hM⟩ : ∃ M, (l ++ q).length = M := ⟨_, rfl⟩
    rw [hM] at Hsl hlen ⊢
    have Tp : Hid (∀ W, Below w2.heap.size w2 W → (convert 39 9 (.slice g2 M cap2)).run Tryz.prog W = .ok (.string (BS ++ QS)) W) := Lib.hid fun W h => by
      have := Hsl.out.text h
      rwa [bytes_join, ← hBS, ← hQS] at this
    have Tb : Hid (∀ W, Below A w W → (convert 39 9 (.slice ao N cp)).run Tryz.prog W = .ok (.string BS) W) := Lib.hid fun W h => by
      have := Hs.out.text (by rw [hA]; exact h)
      rwa [← hBS] at this
    have HRp : Hid (∀ W, Calls Tryz.prog 21 #[.agg #[.int .i64 xk, .int .i64 xn, .string xs, .int .u64 xf]] W fun e w' => ∃ v', e = .returned v' ∧ Below W.heap.size W w' ∧ (convert 39 9 v').run Tryz.prog w' = .ok (.string QS) w') := Lib.hid fun W => (HputR.out W).mono fun e w' ⟨v', h1, h2⟩ => ⟨v', h1, h2.below, by have := h2.text; rwa [← hQS] at this⟩
    have HM := Lib.hid hM
    have hNM : (N : Int) ≤ (M : Int) := by omega
    have hcc : BS.size + QS.size ≤ 9223372036854775807 := by
      have h1 := HN.out; have h2 := HN1.out; have h3 := Hq9.out
      rw [hBS, hQS]
      show l.toArray.size + q.toArray.size ≤ _
      simp
      omega
    have HMN : Hid (M = N + q.length) := Lib.hid hlen
    clear hb hsl hlen hBS hQS hM a0 a1 a2 a3 HputR Hput HA1 Hb1
    go_upto_region 6 with fail
    have KS : Hid (∀ W : World, At W A xk xn xs xf ∧ Below w2.heap.size w2 W → (At W A xk xn xs xf ∧ Below w2.heap.size w2 W) ∧ W.cell? ⟨A, 0, none⟩ = some (.int .i64 xk) ∧ W.cell? ⟨A, 1, none⟩ = some (.int .i64 xn) ∧ W.cell? ⟨A, 2, none⟩ = some (.string xs) ∧ W.cell? ⟨A, 3, none⟩ = some (.int .u64 xf) ∧ (convert 39 9 (.slice g2 M cap2)).run Tryz.prog W = .ok (.string (BS ++ QS)) W ∧ (convert 39 9 (.slice ao N cp)).run Tryz.prog W = .ok (.string BS) W) := Lib.hid fun W h => ⟨h, h.1.c0, h.1.c1, h.1.c2, h.1.c3, Tp.out W h.2, Tb.out W (Hb2.out.trans (h.2.mono (Nat.le_of_lt HA2.out.lt)))⟩
    have hks := KS.out w2 ⟨HA2.out, Below.refl _ _⟩
    go_cut [29] (fun t wx => t = .bool false ∧ At wx A xk xn xs xf ∧ Below w2.heap.size w2 wx)
    case first =>
      have tp0 := Tp.out w2.drew (Below.refl _ _).drew
      have tb0 := Tb.out w2.drew Hb2.out.drew
      obtain ⟨-, d0, d1, d2, d3, -, -⟩ := hks
      clear KS
      have hd : At w2.drew A xk xn xs xf ∧ Below w2.heap.size w2 w2.drew := ⟨HA2.out.drew1, (Below.refl _ _).drew⟩
      go_region_with ((go_at_call 21; refine (HRp.out _).mono ?_; rintro e w' ⟨v3, rfl, hd0, t3⟩; have hd2 : At w' A xk xn xs xf ∧ Below w2.heap.size w2 w' := ⟨hd.1.below hd0 hd.1.lt, hd.2.trans (hd0.mono hd.2.size)⟩; have tp1 := Tp.out w' hd2.2; have tb1 := Tb.out w' (Hb2.out.trans (hd2.2.mono (Nat.le_of_lt HA2.out.lt))); have Hd2 := Lib.hid hd2; clear hd0 hd2))
      all_goals
        go_wp2_with fail
        go_meet
        exact ⟨rfl, (‹Hid (At _ A xk xn xs xf ∧ Below w2.heap.size w2 _)›).out⟩
    case rest =>
      obtain ⟨rfl, hat3, hb3⟩ := hcut
      rename World => w3
      have HA3 := Lib.hid hat3
      have Hb3 := Lib.hid (Hb2.out.trans (hb3.mono (Nat.le_of_lt HA2.out.lt)))
      have Hsl3 := Lib.hid (Hsl.out.below hb3)
      have Hfin : Hid (∀ W, Below A w W → Below w.heap.size w W) := Lib.hid fun W h => by rw [hA]; exact h
      have hslice : ∃ a, g2 = some a ∧ Hid ((cap2 = N → Sl w3 (.slice (some a) (M - N) 0) q) ∧ (¬ cap2 = N → Sl w3 (.slice (some (a.add N)) (M - N) (cap2 - N)) q)) := by
        rcases Hsl3.out with ⟨e, h0⟩ | ⟨a, c, e, h4, h5⟩
        · injection e with e1 e2 e3
          have h8 := HMN.out
          have h9 := Hq0.out
          omega
        · injection e with e1 e2 e3
          subst e1 e3
          refine ⟨a, rfl, Lib.hid ?_⟩
          have hc := Sl.cut (w := w3) (a := a) (c := cap2) (k := N) HM.out (by have := HM.out; omega) (by have := HMN.out; omega) h5
          have hd : (l ++ q).drop N = q := by rw [← HN.out]; simp
          rwa [hd] at hc
      obtain ⟨a, rfl, hcut⟩ := hslice
      have HO : Hid (∀ xv, Sl w3 xv q → Calls Tryz.prog 17 #[xv] w3 fun e w' => ∃ R, w3.heap.size ≤ R ∧ e = .returned (.pointer (some ⟨R, 0, none⟩)) ∧ RdAt w' R q ∧ Below w3.heap.size w3 w') := Lib.hid fun xv h => open_any w3 xv q h (by have := Hq9.out; omega)
      clear KS Tp Tb HRp hat3 hb3 hcc Hsl Hb2 HA2 Hsl3 hA
      go_wp2_with fail
      case inl h =>
        subst h
        refine (HO.out _ (hcut.out.1 (by trivial))).mono ?_
        rintro e w4 ⟨R, hR, rfl, hrd, hb⟩
        have HA4 := Lib.hid (HA3.out.below hb HA3.out.lt)
        have hb4 := Hb3.out.trans (hb.mono (Nat.le_of_lt HA3.out.lt))
        have HAR : Hid (A < R) := Lib.hid (Nat.lt_of_lt_of_le HA3.out.lt hR)
        have HR := Lib.hid hrd
        have Hb4 := Lib.hid hb4
        clear hb hb4 hrd hR
        go_wp2_with fail
        refine (get_any w4 R q HR.out (by have := Hq9.out; omega)).mono ?_
        rintro e w5 (⟨y, r, h1, rfl, h2, h3⟩ | ⟨h1, rfl, h3⟩)
        · obtain ⟨rfl, rfl⟩ : (⟨yk, yn, ys, yf⟩ : Val) = y ∧ [] = r := by
            have := Hget.out
            rw [h1] at this
            injection this with this
            injection this with e1 e2
            exact ⟨e1.symm, e2.symm⟩
          have hbox := below_box1 w5 (.cells #[.int .i64 yk, .int .i64 yn, .string ys, .int .u64 yf] 26)
          have hA5 := HA4.out.but h3 (Nat.ne_of_lt HAR.out)
          have HA6 := Lib.hid (hA5.below hbox hA5.lt)
          have Hy6 := Lib.hid (At.new w5 yk yn ys yf 26)
          have HR6 := Lib.hid (h2.below hbox)
          have hb5 := Hb4.out.trans (h3.below (Nat.le_of_lt HAR.out) (Nat.le_of_lt HA4.out.lt))
          have Hb6 := Lib.hid (hb5.trans (hbox.mono (Nat.le_of_lt hA5.lt)))
          clear h1 h2 h3 hbox hA5 hb5
          go_upto_region 10 with fail
          generalize w5.alloc _ = w6 at *
          generalize w5.heap.size = E at *
          have Hdone := Lib.hid (done_any w6 R [] HR6.out)
          go_wp2_with fail
          refine Hdone.out.mono ?_
          rintro e w7 ⟨rfl, rfl⟩
          obtain ⟨a0, a1, a2, a3⟩ := HA6.out.val
          obtain ⟨p0, p1, p2, p3⟩ := Hy6.out.val
          rcases Hcase.out with ⟨rfl, e⟩ | ⟨rfl, e⟩
          · injection e with e1 e2 e3 e4
            subst e1 e2 e3 e4
            go_wp2_with fail
            go_ret
            exact ⟨rfl, Hfin.out _ Hb6.out⟩
          · unfold zeroVal at e
            injection e with e1 e2 e3 e4
            subst e1 e2 e3 e4
            go_wp2_with fail
            · go_ret
              exact ⟨by simp, Hfin.out _ Hb6.out⟩
            all_goals
              subst_vars
              refine (Hrr.out _).mono ?_
              rintro e w8 ⟨rfl, hb8⟩
              have hy8 := Hy6.out.below hb8 Hy6.out.lt
              have Hb8 := Lib.hid (Hb6.out.trans (hb8.mono (Nat.le_of_lt HA6.out.lt)))
              clear hb8
              obtain ⟨s0, s1, s2, s3⟩ := hy8.val
              clear a0 a1 a2 a3 p0 p1 p2 p3
              go_wp2_with fail
              go_ret
              exact ⟨by simp, Hfin.out _ Hb8.out⟩
        · exact absurd (h1.symm.trans Hget.out) (by simp)
      case inr h =>
        refine (HO.out _ (hcut.out.2 h)).mono ?_
        rintro e w4 ⟨R, hR, rfl, hrd, hb⟩
        have HA4 := Lib.hid (HA3.out.below hb HA3.out.lt)
        have hb4 := Hb3.out.trans (hb.mono (Nat.le_of_lt HA3.out.lt))
        have HAR : Hid (A < R) := Lib.hid (Nat.lt_of_lt_of_le HA3.out.lt hR)
        have HR := Lib.hid hrd
        have Hb4 := Lib.hid hb4
        clear hb hb4 hrd hR
        go_wp2_with fail
        refine (get_any w4 R q HR.out (by have := Hq9.out; omega)).mono ?_
        rintro e w5 (⟨y, r, h1, rfl, h2, h3⟩ | ⟨h1, rfl, h3⟩)
        · obtain ⟨rfl, rfl⟩ : (⟨yk, yn, ys, yf⟩ : Val) = y ∧ [] = r := by
            have := Hget.out
            rw [h1] at this
            injection this with this
            injection this with e1 e2
            exact ⟨e1.symm, e2.symm⟩
          have hbox := below_box1 w5 (.cells #[.int .i64 yk, .int .i64 yn, .string ys, .int .u64 yf] 26)
          have hA5 := HA4.out.but h3 (Nat.ne_of_lt HAR.out)
          have HA6 := Lib.hid (hA5.below hbox hA5.lt)
          have Hy6 := Lib.hid (At.new w5 yk yn ys yf 26)
          have HR6 := Lib.hid (h2.below hbox)
          have hb5 := Hb4.out.trans (h3.below (Nat.le_of_lt HAR.out) (Nat.le_of_lt HA4.out.lt))
          have Hb6 := Lib.hid (hb5.trans (hbox.mono (Nat.le_of_lt hA5.lt)))
          clear h1 h2 h3 hbox hA5 hb5
          go_upto_region 10 with fail
          generalize w5.alloc _ = w6 at *
          generalize w5.heap.size = E at *
          have Hdone := Lib.hid (done_any w6 R [] HR6.out)
          go_wp2_with fail
          refine Hdone.out.mono ?_
          rintro e w7 ⟨rfl, rfl⟩
          obtain ⟨a0, a1, a2, a3⟩ := HA6.out.val
          obtain ⟨p0, p1, p2, p3⟩ := Hy6.out.val
          rcases Hcase.out with ⟨rfl, e⟩ | ⟨rfl, e⟩
          · injection e with e1 e2 e3 e4
            subst e1 e2 e3 e4
            go_wp2_with fail
            go_ret
            exact ⟨rfl, Hfin.out _ Hb6.out⟩
          · unfold zeroVal at e
            injection e with e1 e2 e3 e4
            subst e1 e2 e3 e4
            go_wp2_with fail
            · go_ret
              exact ⟨by simp, Hfin.out _ Hb6.out⟩
            all_goals
              subst_vars
              refine (Hrr.out _).mono ?_
              rintro e w8 ⟨rfl, hb8⟩
              have hy8 := Hy6.out.below hb8 Hy6.out.lt
              have Hb8 := Lib.hid (Hb6.out.trans (hb8.mono (Nat.le_of_lt HA6.out.lt)))
              clear hb8
              obtain ⟨s0, s1, s2, s3⟩ := hy8.val
              clear a0 a1 a2 a3 p0 p1 p2 p3
              go_wp2_with fail
              go_ret
              exact ⟨by simp, Hfin.out _ Hb8.out⟩
        · exact absurd (h1.symm.trans Hget.out) (by simp)
end Go.Proofs.YtacafhmagonngaaGreatDoor
