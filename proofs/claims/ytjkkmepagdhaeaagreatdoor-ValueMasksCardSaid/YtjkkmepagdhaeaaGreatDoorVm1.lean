/- The document's answer for masked values: the walk of Mask. -/
import Derived.Test.YtjkkmepagdhaeaaGreatDoorVr2
import Derived.Test.YtjkkmepagdhaeaaGreatDoorVm0
set_option linter.unusedVariables false
set_option linter.unusedSimpArgs false
namespace Go.Proofs.YtjkkmepagdhaeaaGreatDoor
open Go.RowKit

theorem extract_take (s : ByteArray) (n : Nat) : s.extract 0 n = ⟨(s.data.toList.take n).toArray⟩ := by
  apply bytes_eq
  rw [← ByteArray.toList_eq, Lib.extract_toList, List.drop_zero, Nat.sub_zero]
theorem extract_one (s : ByteArray) (j : Nat) (h : j < s.size) : s.extract j (j + 1) = ⟨#[s[j]]⟩ := by
  apply bytes_eq
  rw [← ByteArray.toList_eq, Lib.extract_toList, show j + 1 - j = 1 from by omega]
  have hl : j < s.data.toList.length := by rw [← Lib.size_eq]; exact h
  rw [List.drop_eq_getElem_cons hl]
  rfl
theorem maskX_zero {x : Val} (hx : RightC x) (h : x.k = 0) (mk mn : Int) : maskX x mk mn = x := by
  rcases hx with ⟨k, n, s, f⟩ | ⟨k, s, f⟩ | ⟨k, s, f, n⟩ | ⟨k, n, f, s⟩ | ⟨k, n, s, f⟩ <;> try omega
  obtain ⟨xk, xn, xs, xf⟩ := x
  simp only at k n s f
  subst k n s f
  unfold maskX zeroVal
  simp
set_option maxHeartbeats 8000000 in
set_option maxRecDepth 100000 in
theorem maskR_any (w : World) (x : Val) (mk mn : Int) (hx : x.Wf) (hm0 : -9223372036854775808 ≤ mn) (hm1 : mn ≤ 9223372036854775807) :
    Calls Tryz.prog 31 #[x.v, .agg #[.int .i64 mk, .int .i64 mn]] w fun e w' => e = .returned (maskX (rightOf x) mk mn).v ∧ Below w.heap.size w w' := by
  have Hr : Hid (∀ W : World, Calls Tryz.prog 45 #[x.v] W fun e w' => e = .returned (rightOf x).v ∧ Below W.heap.size W w') := Lib.hid fun W => rightofR_any W x hx.f0 hx.f1
  have hc := rightC x
  generalize rightOf x = y at *
  obtain ⟨xk, xn, sx, xf⟩ := x
  have hz := fun h => maskX_zero hc h mk mn
  have h3n : y.k = 3 → y.n = 0 ∧ y.f = 0 ∧ y.s.size ≤ 64 := by
    intro h
    rcases hc with ⟨k, n, s, f⟩ | ⟨k, s, f⟩ | ⟨k, s, f, n⟩ | ⟨k, n, f, s⟩ | ⟨k, n, s, f⟩ <;> first | omega | exact ⟨n, f, s⟩
  obtain ⟨k, n, s, f⟩ := y
  have hm : maskX ⟨k, n, s, f⟩ mk mn = if mk = 0 then ⟨k, n, s, f⟩ else if mk = 2 then ⟨k, 0, ⟨#[]⟩, 0⟩ else if mk = 3 ∧ k = 3 then ⟨k, n, s.extract 0 (min (s.size : Int) (max mn 0)).toNat, f⟩ else zeroVal := rfl
  have Ht := Lib.hid (Tri.new w xk xn sx xf mk mn)
  generalize maskX ⟨k, n, s, f⟩ mk mn = R at *
  have hr := hm
  clear hm hx hc
  simp only [Val.v] at Hr
  simp only at hz h3n
  by_cases h0 : mk = 0
  · subst h0
    rw [if_pos rfl] at hr
    have HR2 := Lib.hid hr
    clear hr hz h3n
    go_enter Tryz.func31, Tryz.ntmps31
    go_wp2_with fail
    generalize World.alloc _ _ = W0 at Ht ⊢
    generalize hA : w.heap.size = A at *
    refine (Hr.out W0).mono ?_
    rintro e w1 ⟨rfl, hb⟩
    have t1 := Ht.out.below hb
    have t2 := t1.below (below_box1 w1 (.cells #[.int .i64 k, .int .i64 n, .string s, .int .u64 f] 25))
    have t3 := At.new w1 k n s f 25
    have T2 := Lib.hid t2
    have T3 := Lib.hid t3
    clear t1 t2 t3 hb
    go_upto_region 2 with fail
    generalize World.alloc w1 _ = W2 at T2 T3 ⊢
    generalize w1.heap.size = C at *
    obtain ⟨e0, e1, e2, e3, -, -⟩ := T3.out
    obtain ⟨m0, m1, -⟩ := T2.out.two
    have t3 := T2.out.thr
    have z0 := t3.z 0; have z1 := t3.z 1; have z2 := t3.z 2; have z3 := t3.z 3
    obtain ⟨d0, d1, d2, d3, -, -⟩ := t3
    clear Ht Hr
    go_wp2_with fail
    exact bodyPost_ret (v := .agg #[.int .i64 k, .int .i64 n, .string s, .int .u64 f]) (by simp [results, Tryz.results31, go_sem, d0, d1, d2, d3]) rfl ⟨by rw [HR2.out] <;> rfl, by rw [hA]; exact ((((T2.out.bel).setCell (by simp; omega) _).setCell (by simp; omega) _).setCell (by simp; omega) _).setCell (by simp; omega) _⟩
  have b0 : (mk == 0) = false := by rw [beq_eq_false_iff_ne]; exact h0
  by_cases hk0 : k = 0
  · have hr := hz hk0
    subst hk0
    have HR2 := Lib.hid hr
    clear hr hz h3n
    go_enter Tryz.func31, Tryz.ntmps31
    go_wp2_with fail
    generalize World.alloc _ _ = W0 at Ht ⊢
    generalize hA : w.heap.size = A at *
    refine (Hr.out W0).mono ?_
    rintro e w1 ⟨rfl, hb⟩
    have t1 := Ht.out.below hb
    have t2 := t1.below (below_box1 w1 (.cells #[.int .i64 0, .int .i64 n, .string s, .int .u64 f] 25))
    have t3 := At.new w1 0 n s f 25
    have T2 := Lib.hid t2
    have T3 := Lib.hid t3
    clear t1 t2 t3 hb
    go_upto_region 2 with fail
    generalize World.alloc w1 _ = W2 at T2 T3 ⊢
    generalize w1.heap.size = C at *
    obtain ⟨e0, e1, e2, e3, -, -⟩ := T3.out
    obtain ⟨m0, m1, -⟩ := T2.out.two
    have t3 := T2.out.thr
    have z0 := t3.z 0; have z1 := t3.z 1; have z2 := t3.z 2; have z3 := t3.z 3
    obtain ⟨d0, d1, d2, d3, -, -⟩ := t3
    clear Ht Hr
    go_wp2_with fail
    exact bodyPost_ret (v := .agg #[.int .i64 0, .int .i64 n, .string s, .int .u64 f]) (by simp [results, Tryz.results31, go_sem, d0, d1, d2, d3]) rfl ⟨by rw [HR2.out] <;> rfl, by rw [hA]; exact ((((T2.out.bel).setCell (by simp; omega) _).setCell (by simp; omega) _).setCell (by simp; omega) _).setCell (by simp; omega) _⟩
  have bk0 : (k == 0) = false := by rw [beq_eq_false_iff_ne]; exact hk0
  rw [if_neg h0] at hr
  by_cases h2 : mk = 2
  · subst h2
    rw [if_pos rfl] at hr
    have HR2 := Lib.hid hr
    clear hr hz h3n
    go_enter Tryz.func31, Tryz.ntmps31
    go_wp2_with fail
    generalize World.alloc _ _ = W0 at Ht ⊢
    generalize hA : w.heap.size = A at *
    refine (Hr.out W0).mono ?_
    rintro e w1 ⟨rfl, hb⟩
    have t1 := Ht.out.below hb
    have t2 := t1.below (below_box1 w1 (.cells #[.int .i64 k, .int .i64 n, .string s, .int .u64 f] 25))
    have t3 := At.new w1 k n s f 25
    have T2 := Lib.hid t2
    have T3 := Lib.hid t3
    clear t1 t2 t3 hb
    go_upto_region 2 with fail
    generalize World.alloc w1 _ = W2 at T2 T3 ⊢
    generalize w1.heap.size = C at *
    obtain ⟨e0, e1, e2, e3, -, -⟩ := T3.out
    obtain ⟨m0, m1, -⟩ := T2.out.two
    have t3 := T2.out.thr
    have z0 := t3.z 0; have z1 := t3.z 1; have z2 := t3.z 2; have z3 := t3.z 3
    obtain ⟨d0, d1, d2, d3, -, -⟩ := t3
    clear Ht Hr
    go_wp2_with fail
    exact bodyPost_ret (v := .agg #[.int .i64 k, .int .i64 0, .string ⟨#[]⟩, .int .u64 0]) (by simp [results, Tryz.results31, go_sem, d0, d1, d2, d3]) rfl ⟨by rw [HR2.out] <;> rfl, by rw [hA]; exact ((((T2.out.bel).setCell (by simp; omega) _).setCell (by simp; omega) _).setCell (by simp; omega) _).setCell (by simp; omega) _⟩
  have b2 : (mk == 2) = false := by rw [beq_eq_false_iff_ne]; exact h2
  rw [if_neg h2] at hr
  by_cases h3 : mk = 3
  · subst h3
    by_cases hk : k = 3
    · subst hk
      obtain ⟨rfl, rfl, hs64⟩ := h3n rfl
      rw [if_pos ⟨rfl, rfl⟩, extract_take] at hr
      obtain ⟨N, hN⟩ : ∃ N, s.size = N := ⟨_, rfl⟩
      obtain ⟨l, hl⟩ : ∃ l, l = s.data.toList := ⟨_, rfl⟩
      have hlN : l.length = N := by rw [hl, ← hN, Lib.size_eq]
      rw [← hl, hN] at hr
      have HR2 := Lib.hid hr
      have Hl := Lib.hid hl; have HlN := Lib.hid hlN; have HN64 := Lib.hid hs64
      clear hr hz h3n hl hlN hs64
      go_enter Tryz.func31, Tryz.ntmps31
      go_wp2_with fail
      generalize World.alloc _ _ = W0 at Ht ⊢
      generalize hA : w.heap.size = A at *
      refine (Hr.out W0).mono ?_
      rintro e w1 ⟨rfl, hb⟩
      have t1 := Ht.out.below hb
      have t2 := t1.below (below_box1 w1 (.cells #[.int .i64 3, .int .i64 0, .string s, .int .u64 0] 25))
      have t3 := At.new w1 3 0 s 0 25
      have T2 := Lib.hid t2
      have T3 := Lib.hid t3
      clear t1 t2 t3 hb
      go_upto_region 2 with fail
      generalize World.alloc w1 _ = W2 at T2 T3 ⊢
      generalize w1.heap.size = C at *
      obtain ⟨e0, e1, e2, e3, -, -⟩ := T3.out
      obtain ⟨m0, m1, -⟩ := T2.out.two
      have t3 := T2.out.thr
      have z0 := t3.z 0; have z1 := t3.z 1; have z2 := t3.z 2; have z3 := t3.z 3
      obtain ⟨d0, d1, d2, d3, -, -⟩ := t3
      clear Ht Hr
      go_wp2_with fail
      go_loopg [6, 7] (N + 1) (fun mm sv i wr => ∃ (j : Nat) (I : Int) (X : List UInt8), j + mm = N + 1 ∧ Hid (I = (j : Int) ∧ X = l.take j ∧ j ≤ N ∧ (j = 0 ∨ (j : Int) ≤ mn)) ∧ sv = .string ⟨X.toArray⟩ ∧ i = .int .i64 I ∧ W2 = wr)
      case atStart => exact ⟨0, 0, [], by omega, Lib.hid ⟨rfl, rfl, Nat.zero_le _, .inl rfl⟩, rfl, rfl, rfl⟩
      case round =>
        obtain ⟨j, I, X, hj, HI, rfl, rfl, rfl⟩ := hrel
        have hI0 : 0 ≤ I := by have := HI.out.1; omega
        by_cases hg : j < N ∧ (j : Int) < mn
        · have hI1 : I < (N : Int) := by have := HI.out.1; omega
          have hI2 : I < mn := by have := HI.out.1; omega
          have hIj : I.toNat = j := by have := HI.out.1; omega
          have hIj2 : (I + 1).toNat = j + 1 := by omega
          have hjs : j < s.size := by omega
          have hcut := extract_one s j hjs
          have hsj : l[j]? = some s[j] := by rw [Hl.out, byte_at s j hjs]
          have hst : X ++ [s[j]] = l.take (j + 1) := by rw [HI.out.2.1, take_snoc hsj]
          have hN64 := HN64.out
          have hlen : X.length ≤ 64 := by rw [HI.out.2.1, List.length_take]; omega
          have hadd := add_lists X [s[j]] (by simp; omega)
          have hI64 : I ≤ 64 := by omega
          have Hst := Lib.hid hst
          have Hj := Lib.hid hj; have Hg := Lib.hid hg
          generalize s[j] = c at *
          clear hst hj hg hsj hlen
          go_wp2_with fail
          go_roundg (N - j)
          case measure => have := Hj.out; have := Hg.out; omega
          case rel => exact ⟨j + 1, I + 1, X ++ [c], by have := Hj.out; have := Hg.out; omega, Lib.hid ⟨by have := HI.out.1; omega, Hst.out, by have := Hg.out; omega, by have := Hg.out; omega⟩, by first | rfl | skip, by go_num, rfl⟩
        · have hX : X = l.take (min (N : Int) (max mn 0)).toNat := by
            rw [HI.out.2.1]
            have h1 := HI.out.2.2.1
            have h2 := HI.out.2.2.2
            congr 1
            omega
          have HX := Lib.hid hX
          clear hX
          by_cases hn1 : I < (N : Int)
          · have hn2 : ¬ I < mn := by have := HI.out.1; omega
            clear hg
            go_wp2_with fail
            exact bodyPost_ret (v := .agg #[.int .i64 3, .int .i64 0, .string ⟨X.toArray⟩, .int .u64 0]) (by simp [results, Tryz.results31, go_sem, d0, d1, d2, d3]) rfl ⟨by rw [HR2.out, ← HX.out] <;> rfl, ((((T2.out.bel).setCell (by simp; omega) _).setCell (by simp; omega) _).setCell (by simp; omega) _).setCell (by simp; omega) _⟩
          · clear hg
            go_wp2_with fail
            exact bodyPost_ret (v := .agg #[.int .i64 3, .int .i64 0, .string ⟨X.toArray⟩, .int .u64 0]) (by simp [results, Tryz.results31, go_sem, d0, d1, d2, d3]) rfl ⟨by rw [HR2.out, ← HX.out] <;> rfl, ((((T2.out.bel).setCell (by simp; omega) _).setCell (by simp; omega) _).setCell (by simp; omega) _).setCell (by simp; omega) _⟩
    · rw [if_neg (fun h => hk h.2)] at hr
      have bk : (k != 3) = true := by rw [bne_iff_ne]; exact hk
      have HR2 := Lib.hid hr
      clear hr hz h3n
      go_enter Tryz.func31, Tryz.ntmps31
      go_wp2_with fail
      generalize World.alloc _ _ = W0 at Ht ⊢
      generalize hA : w.heap.size = A at *
      refine (Hr.out W0).mono ?_
      rintro e w1 ⟨rfl, hb⟩
      have t1 := Ht.out.below hb
      have t2 := t1.below (below_box1 w1 (.cells #[.int .i64 k, .int .i64 n, .string s, .int .u64 f] 25))
      have t3 := At.new w1 k n s f 25
      have T2 := Lib.hid t2
      have T3 := Lib.hid t3
      clear t1 t2 t3 hb
      go_upto_region 2 with fail
      generalize World.alloc w1 _ = W2 at T2 T3 ⊢
      generalize w1.heap.size = C at *
      obtain ⟨e0, e1, e2, e3, -, -⟩ := T3.out
      obtain ⟨m0, m1, -⟩ := T2.out.two
      have t3 := T2.out.thr
      have z0 := t3.z 0; have z1 := t3.z 1; have z2 := t3.z 2; have z3 := t3.z 3
      obtain ⟨d0, d1, d2, d3, -, -⟩ := t3
      clear Ht Hr
      go_wp2_with fail
      exact bodyPost_ret (v := .agg #[.int .i64 0, .int .i64 0, .string ⟨#[]⟩, .int .u64 0]) (by simp [results, Tryz.results31, go_sem, d0, d1, d2, d3]) rfl ⟨by rw [HR2.out] <;> rfl, by rw [hA]; exact ((((T2.out.bel).setCell (by simp; omega) _).setCell (by simp; omega) _).setCell (by simp; omega) _).setCell (by simp; omega) _⟩
  · rw [if_neg (fun h => h3 h.1)] at hr
    have b3 : (mk != 3) = true := by rw [bne_iff_ne]; exact h3
    have HR2 := Lib.hid hr
    clear hr hz h3n
    go_enter Tryz.func31, Tryz.ntmps31
    go_wp2_with fail
    generalize World.alloc _ _ = W0 at Ht ⊢
    generalize hA : w.heap.size = A at *
    refine (Hr.out W0).mono ?_
    rintro e w1 ⟨rfl, hb⟩
    have t1 := Ht.out.below hb
    have t2 := t1.below (below_box1 w1 (.cells #[.int .i64 k, .int .i64 n, .string s, .int .u64 f] 25))
    have t3 := At.new w1 k n s f 25
    have T2 := Lib.hid t2
    have T3 := Lib.hid t3
    clear t1 t2 t3 hb
    go_upto_region 2 with fail
    generalize World.alloc w1 _ = W2 at T2 T3 ⊢
    generalize w1.heap.size = C at *
    obtain ⟨e0, e1, e2, e3, -, -⟩ := T3.out
    obtain ⟨m0, m1, -⟩ := T2.out.two
    have t3 := T2.out.thr
    have z0 := t3.z 0; have z1 := t3.z 1; have z2 := t3.z 2; have z3 := t3.z 3
    obtain ⟨d0, d1, d2, d3, -, -⟩ := t3
    clear Ht Hr
    go_wp2_with fail
    exact bodyPost_ret (v := .agg #[.int .i64 0, .int .i64 0, .string ⟨#[]⟩, .int .u64 0]) (by simp [results, Tryz.results31, go_sem, d0, d1, d2, d3]) rfl ⟨by rw [HR2.out] <;> rfl, by rw [hA]; exact ((((T2.out.bel).setCell (by simp; omega) _).setCell (by simp; omega) _).setCell (by simp; omega) _).setCell (by simp; omega) _⟩
end Go.Proofs.YtjkkmepagdhaeaaGreatDoor
