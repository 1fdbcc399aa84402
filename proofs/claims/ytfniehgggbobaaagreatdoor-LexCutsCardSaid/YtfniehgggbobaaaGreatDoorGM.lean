/- Joined texts: Vw1; Vw2. -/
import Derived.Test.YtfniehgggbobaaaGreatDoorGE
set_option linter.unusedVariables false
set_option linter.unusedSimpArgs false
namespace Go.Proofs.YtfniehgggbobaaaGreatDoor
open Go.RowKit

theorem empty_toList : (⟨#[]⟩ : ByteArray).toList = [] := by rw [ByteArray.toList_eq]
theorem right_of {x : Val} (h : RightC x) : rightB x = true := by
  obtain ⟨k, n, s, f⟩ := x
  rcases h with ⟨hk, hn, hs, hf⟩ | ⟨hk, hs, hf⟩ | ⟨hk, hs, hf, hn⟩ | ⟨hk, hn, hf, hs⟩ | ⟨hk, hn, hs, hf⟩
  · simp only at hk hn hs hf
    subst hk hn hs hf
    simp [rightB, empty_toList]
  · simp only at hk hs hf
    subst hk hs hf
    simp [rightB, empty_toList]
  · simp only at hk hs hf hn
    subst hk hs hf
    simp [rightB, empty_toList, hn]
  · simp only at hk hn hf hs
    subst hk hn hf
    simp [rightB, hs]
  · simp only at hk hn hs hf
    subst hk hn hs
    simp [rightB, empty_toList, hf]
theorem parse_forms {l : List UInt8} (h : okV l = true) : l = tNull ∨ l = tTrue ∨ l = tFalse ∨ parseOk l = true ∨ numOk l = true ∨ ∃ b : List UInt8, b.length ≤ 64 ∧ l = 120 :: hexL b := by
  have e : printVL (rightOf (candVal l)) = l := by unfold okV at h; exact beq_iff_eq.1 h
  have hr := rightC (candVal l)
  have hw := right_wf (candVal l) (candVal_wf l)
  generalize rightOf (candVal l) = v at *
  obtain ⟨k, n, s, f⟩ := v
  obtain ⟨-, -, n0, n1, f0, f1⟩ := hw
  simp only at n0 n1 f0 f1
  rcases hr with ⟨hk, hn, hs, hf⟩ | ⟨hk, hs, hf⟩ | ⟨hk, hs, hf, hn⟩ | ⟨hk, hn, hf, hs⟩ | ⟨hk, hn, hs, hf⟩
  · simp only at hk hn hs hf
    subst hk
    exact .inl e.symm
  · simp only at hk hs hf
    subst hk
    refine .inr (.inr (.inr (.inr (.inl ?_))))
    rw [← e]
    exact (num_itoa n n0 n1).1
  · simp only at hk hs hf hn
    subst hk
    rcases hn with rfl | rfl
    · exact .inr (.inr (.inl e.symm))
    · exact .inr (.inl e.symm)
  · simp only at hk hn hf hs
    subst hk
    exact .inr (.inr (.inr (.inr (.inr ⟨s.data.toList, by rw [← Lib.size_eq]; exact hs, e.symm⟩))))
  · simp only at hk hn hs hf
    subst hk
    refine .inr (.inr (.inr (.inl ?_)))
    rw [← e]
    exact (parse_print f f0 f1).1
theorem parse_right {v : Val} (h : RightC v) (w : v.Wf) {l : List UInt8} (hl : printVL v = l) : okV l = true ∧ parseVal l = v := by
  subst hl
  exact parse_printV h (right_self (right_of h)) w
theorem parse_float {l : List UInt8} (h : parseOk l = true) : okV l = true ∧ parseVal l = ⟨4, 0, ⟨#[]⟩, parseV l⟩ := by
  have hv : parseV l = candV l := by unfold parseV; rw [if_pos h]
  have hp := parseOk_print h
  have hr := parseV_range l
  have hc : canonF (parseV l) = parseV l := by
    have h2 := h
    unfold parseOk at h2
    rw [Bool.and_eq_true] at h2
    rw [hv]
    exact beq_iff_eq.1 h2.2
  refine parse_right (.float rfl rfl rfl hc) (wf_small _ _ _ _ (by omega) (by omega) (by omega) (by omega) hr.1 hr.2) ?_
  show printL (parseV l).toNat = l
  rw [hv]; exact hp
theorem parse_num {l : List UInt8} (h : numOk l = true) : okV l = true ∧ parseVal l = ⟨1, numV l, ⟨#[]⟩, 0⟩ := by
  obtain ⟨h1, h2, h3⟩ := num_back h
  exact parse_right (.int rfl rfl rfl) (wf_small _ _ _ _ (by omega) (by omega) h2 h3 (by omega) (by omega)) h1.symm
theorem parse_hex {l b : List UInt8} (h : l = 120 :: hexL b) (hb : b.length ≤ 64) : okV l = true ∧ parseVal l = ⟨3, 0, ⟨b.toArray⟩, 0⟩ := by
  refine parse_right (.bytes rfl rfl rfl (by simpa [ByteArray.size] using hb)) (wf_small _ _ _ _ (by omega) (by omega) (by omega) (by omega) (by omega) (by omega)) ?_
  rw [h]
  rfl
theorem parse_no {l : List UInt8} (h1 : l ≠ tNull) (h2 : l ≠ tFalse) (h3 : l ≠ tTrue) (h4 : parseOk l = false) (h5 : numOk l = false) (h6 : ∀ b : List UInt8, b.length ≤ 64 → l ≠ 120 :: hexL b) : okV l = false ∧ parseVal l = zeroVal := by
  have : okV l = false := by
    cases h : okV l with
    | false => rfl
    | true =>
      exfalso
      rcases parse_forms h with e | e | e | e | e | ⟨b, e1, e2⟩
      · exact h1 e
      · exact h3 e
      · exact h2 e
      · rw [h4] at e; cases e
      · rw [h5] at e; cases e
      · exact h6 b e1 e2
  exact ⟨this, by unfold parseVal; rw [this]; rfl⟩
theorem parse_words : (okV tNull = true ∧ parseVal tNull = ⟨0, 0, ⟨#[]⟩, 0⟩) ∧ (okV tFalse = true ∧ parseVal tFalse = ⟨2, 0, ⟨#[]⟩, 0⟩) ∧ (okV tTrue = true ∧ parseVal tTrue = ⟨2, 1, ⟨#[]⟩, 0⟩) := by
  refine ⟨?_, ?_, ?_⟩
  · exact parse_right (.null rfl rfl rfl rfl) (wf_small _ _ _ _ (by omega) (by omega) (by omega) (by omega) (by omega) (by omega)) rfl
  · exact parse_right (.bool rfl rfl rfl (.inl rfl)) (wf_small _ _ _ _ (by omega) (by omega) (by omega) (by omega) (by omega) (by omega)) rfl
  · exact parse_right (.bool rfl rfl rfl (.inr rfl)) (wf_small _ _ _ _ (by omega) (by omega) (by omega) (by omega) (by omega) (by omega)) rfl
theorem mem_hexL {b : List UInt8} {c : UInt8} (h : c ∈ hexL b) : ∃ d, d < 16 ∧ dig d = c := by
  induction b with
  | nil => cases h
  | cons x b ih =>
    have hx := x.toNat_lt
    rcases List.mem_cons.1 (show c ∈ dig (x.toNat / 16) :: dig (x.toNat % 16) :: hexL b from h) with e | e
    · exact ⟨_, by omega, e.symm⟩
    · rcases List.mem_cons.1 e with e | e
      · exact ⟨_, by omega, e.symm⟩
      · exact ih e
theorem hex_none {l : List UInt8} (h : l.head? ≠ some 120 ∨ l.length % 2 = 0 ∨ 129 < l.length ∨ ∃ j c, l[j + 1]? = some c ∧ ∀ d, d < 16 → dig d ≠ c) : ∀ b : List UInt8, b.length ≤ 64 → l ≠ 120 :: hexL b := by
  intro b hb e
  have hlen : l.length = 2 * b.length + 1 := by rw [e, List.length_cons, hexL_length]
  rcases h with h | h | h | ⟨j, c, h1, h2⟩
  · rw [e] at h; exact h rfl
  · omega
  · omega
  · rw [e, List.getElem?_cons_succ] at h1
    obtain ⟨d, hd, e2⟩ := mem_hexL (List.mem_of_getElem? h1)
    exact h2 d hd e2
end Go.Proofs.YtfniehgggbobaaaGreatDoor
namespace Go.Proofs.YtfniehgggbobaaaGreatDoor
open Go.RowKit

theorem hexN_two (U : Nat) (hU : U < 256) : hexN 2 U = hexL [UInt8.ofNat U] := by
  show _ = [dig ((UInt8.ofNat U).toNat / 16), dig ((UInt8.ofNat U).toNat % 16)]
  rw [UInt8.toNat_ofNat', Nat.mod_eq_of_lt (show U < 2 ^ 8 from hU)]
  have h1 := hexN_snoc 1 (U / 16) (U % 16) (by omega) (by omega)
  have h0 := hexN_snoc 0 0 (U / 16) (by omega) (by omega)
  rw [show U / 16 * 16 + U % 16 = U from by omega] at h1
  rw [show 0 * 16 + U / 16 = U / 16 from by omega] at h0
  rw [h1, h0]
  rfl
theorem below_at {B C : Nat} {a w : World} (h : Below B a w) (hC : B ≤ C) (o : Nat) (v : Value) : Below B a (w.setCell ⟨C, o, none⟩ v) := h.setCell hC v
set_option maxHeartbeats 16000000 in
set_option maxRecDepth 100000 in
theorem parseVR_any (w : World) (s : ByteArray) (hs : s.size ≤ 100000) :
    Calls Tryz.prog 41 #[.string s] w fun e w' => e = .returned (.tuple #[(parseVal s.data.toList).v, .bool (okV s.data.toList)]) ∧ Below w.heap.size w w' := by
  obtain ⟨⟨c1, c2⟩, ⟨c3, c4⟩, ⟨c5, c6⟩⟩ := parse_words
  have Hat := Lib.hid (At.new w 0 0 ⟨#[]⟩ 0 25)
  have Hbw := Lib.hid (show Below w.heap.size w (w.alloc (.cells #[.int .i64 0, .int .i64 0, .string ⟨#[]⟩, .int .u64 0] 25)) from (Below.refl _ _).alloc (Nat.le_refl _) _)
  by_cases k1 : s.data.toList = tNull
  · rw [k1]
    obtain rfl := bytes_eq k1
    have H1 := Lib.hid c1
    have H2 := Lib.hid (congrArg Val.v c2)
    simp only [Val.v] at H2 ⊢
    clear c1 c2 c3 c4 c5 c6 hs
    go_enter Tryz.func41, Tryz.ntmps41
    go_upto_region 1 with fail
    generalize (w.alloc _) = W0 at Hat Hbw ⊢
    generalize hA : w.heap.size = A at *
    have at1 := Hat.out.alloc (.cells #[.int .i64 0, .int .i64 0, .string ⟨#[]⟩, .int .u64 0] 25)
    have X1 := Lib.hid (At.new W0 0 0 ⟨#[]⟩ 0 25)
    have Hb := Lib.hid (Hbw.out.alloc (by have := Hat.out.lt; omega) (.cells #[.int .i64 0, .int .i64 0, .string ⟨#[]⟩, .int .u64 0] 25))
    have hAC : A < W0.heap.size := Hat.out.lt
    go_upto_region 3 with fail
    generalize W0.alloc _ = W1 at at1 X1 Hb ⊢
    generalize W0.heap.size = C at *
    have hAC1 : A ≠ C := by omega
    have hAC2 : C ≠ A := by omega
    have hAC3 : A ≤ C := by omega
    have z0 := at1.z 0; have z1 := at1.z 1; have z2 := at1.z 2; have z3 := at1.z 3
    obtain ⟨d0, d1, d2, d3, -, -⟩ := at1
    have xt := X1.out
    have x0 := xt.z 0; have x1 := xt.z 1
    obtain ⟨e0, e1, e2, e3, -, -⟩ := xt
    go_wp2_with fail
    exact bodyPost_ret (v := .tuple #[.agg #[.int .i64 0, .int .i64 0, .string ⟨#[]⟩, .int .u64 0], .bool true]) (by simp [results, Tryz.results41, go_sem, d0, d1, d2, d3, e0, e1, e2, e3, hAC1, hAC2]) rfl ⟨by rw [H1.out, H2.out], by (first | rw [hA] | skip); refine below_at (below_at (below_at (below_at ?_ (Nat.le_refl _) _ _) (Nat.le_refl _) _ _) (Nat.le_refl _) _ _) (Nat.le_refl _) _ _; first | exact Hb.out | exact below_at Hb.out hAC3 _ _ | exact below_at (below_at Hb.out hAC3 _ _) hAC3 _ _⟩
  by_cases k2 : s.data.toList = tFalse
  · rw [k2]
    obtain rfl := bytes_eq k2
    have H1 := Lib.hid c3
    have H2 := Lib.hid (congrArg Val.v c4)
    simp only [Val.v] at H2 ⊢
    clear c1 c2 c3 c4 c5 c6 hs
    go_enter Tryz.func41, Tryz.ntmps41
    go_upto_region 1 with fail
    generalize (w.alloc _) = W0 at Hat Hbw ⊢
    generalize hA : w.heap.size = A at *
    have at1 := Hat.out.alloc (.cells #[.int .i64 0, .int .i64 0, .string ⟨#[]⟩, .int .u64 0] 25)
    have X1 := Lib.hid (At.new W0 0 0 ⟨#[]⟩ 0 25)
    have Hb := Lib.hid (Hbw.out.alloc (by have := Hat.out.lt; omega) (.cells #[.int .i64 0, .int .i64 0, .string ⟨#[]⟩, .int .u64 0] 25))
    have hAC : A < W0.heap.size := Hat.out.lt
    go_upto_region 3 with fail
    generalize W0.alloc _ = W1 at at1 X1 Hb ⊢
    generalize W0.heap.size = C at *
    have hAC1 : A ≠ C := by omega
    have hAC2 : C ≠ A := by omega
    have hAC3 : A ≤ C := by omega
    have z0 := at1.z 0; have z1 := at1.z 1; have z2 := at1.z 2; have z3 := at1.z 3
    obtain ⟨d0, d1, d2, d3, -, -⟩ := at1
    have xt := X1.out
    have x0 := xt.z 0; have x1 := xt.z 1
    obtain ⟨e0, e1, e2, e3, -, -⟩ := xt
    go_wp2_with fail
    exact bodyPost_ret (v := .tuple #[.agg #[.int .i64 2, .int .i64 0, .string ⟨#[]⟩, .int .u64 0], .bool true]) (by simp [results, Tryz.results41, go_sem, d0, d1, d2, d3, e0, e1, e2, e3, hAC1, hAC2]) rfl ⟨by rw [H1.out, H2.out], by (first | rw [hA] | skip); refine below_at (below_at (below_at (below_at ?_ (Nat.le_refl _) _ _) (Nat.le_refl _) _ _) (Nat.le_refl _) _ _) (Nat.le_refl _) _ _; first | exact Hb.out | exact below_at Hb.out hAC3 _ _ | exact below_at (below_at Hb.out hAC3 _ _) hAC3 _ _⟩
  by_cases k3 : s.data.toList = tTrue
  · rw [k3]
    obtain rfl := bytes_eq k3
    have H1 := Lib.hid c5
    have H2 := Lib.hid (congrArg Val.v c6)
    simp only [Val.v] at H2 ⊢
    clear c1 c2 c3 c4 c5 c6 hs
    go_enter Tryz.func41, Tryz.ntmps41
    go_upto_region 1 with fail
    generalize (w.alloc _) = W0 at Hat Hbw ⊢
    generalize hA : w.heap.size = A at *
    have at1 := Hat.out.alloc (.cells #[.int .i64 0, .int .i64 0, .string ⟨#[]⟩, .int .u64 0] 25)
    have X1 := Lib.hid (At.new W0 0 0 ⟨#[]⟩ 0 25)
    have Hb := Lib.hid (Hbw.out.alloc (by have := Hat.out.lt; omega) (.cells #[.int .i64 0, .int .i64 0, .string ⟨#[]⟩, .int .u64 0] 25))
    have hAC : A < W0.heap.size := Hat.out.lt
    go_upto_region 3 with fail
    generalize W0.alloc _ = W1 at at1 X1 Hb ⊢
    generalize W0.heap.size = C at *
    have hAC1 : A ≠ C := by omega
    have hAC2 : C ≠ A := by omega
    have hAC3 : A ≤ C := by omega
    have z0 := at1.z 0; have z1 := at1.z 1; have z2 := at1.z 2; have z3 := at1.z 3
    obtain ⟨d0, d1, d2, d3, -, -⟩ := at1
    have xt := X1.out
    have x0 := xt.z 0; have x1 := xt.z 1
    obtain ⟨e0, e1, e2, e3, -, -⟩ := xt
    go_wp2_with fail
    exact bodyPost_ret (v := .tuple #[.agg #[.int .i64 2, .int .i64 1, .string ⟨#[]⟩, .int .u64 0], .bool true]) (by simp [results, Tryz.results41, go_sem, d0, d1, d2, d3, e0, e1, e2, e3, hAC1, hAC2]) rfl ⟨by rw [H1.out, H2.out], by (first | rw [hA] | skip); refine below_at (below_at (below_at (below_at ?_ (Nat.le_refl _) _ _) (Nat.le_refl _) _ _) (Nat.le_refl _) _ _) (Nat.le_refl _) _ _; first | exact Hb.out | exact below_at Hb.out hAC3 _ _ | exact below_at (below_at Hb.out hAC3 _ _) hAC3 _ _⟩
  clear c1 c2 c3 c4 c5 c6
  have b1 := bytes_ne k1
  have b2 := bytes_ne k2
  have b3 := bytes_ne k3
  have Hf : Hid (∀ W : World, Calls Tryz.prog 70 #[.string s] W fun e w' => PrEnds W w' e s.data.toList) := Lib.hid fun W => parseR_any W s (by omega)
  cases hf : parseOk s.data.toList with
  | true =>
    obtain ⟨q1, q2⟩ := parse_float hf
    have H1 := Lib.hid q1
    have H2 := Lib.hid (congrArg Val.v q2)
    simp only [Val.v] at H2 ⊢
    clear q1 q2 hs k1 k2 k3
    go_enter Tryz.func41, Tryz.ntmps41
    go_upto_region 1 with fail
    generalize (w.alloc _) = W0 at Hat Hbw ⊢
    generalize hA : w.heap.size = A at *
    go_wp2_with fail
    refine (Hf.out W0).mono ?_
    rintro e w2 ⟨v, rfl, hv, hb⟩
    have hv2 := hv hf
    subst hv2
    rw [hf]
    have Hb := Lib.hid (Hbw.out.trans (hb.mono (by have := Hat.out.lt; omega)))
    have at1 := Hat.out.below hb Hat.out.lt
    clear hv hb
    have z0 := at1.z 0; have z1 := at1.z 1; have z2 := at1.z 2; have z3 := at1.z 3
    obtain ⟨d0, d1, d2, d3, -, -⟩ := at1
    go_wp2_with fail
    exact bodyPost_ret (v := .tuple #[.agg #[.int .i64 4, .int .i64 0, .string ⟨#[]⟩, .int .u64 (parseV s.data.toList)], .bool true]) (by simp [results, Tryz.results41, go_sem, d0, d1, d2, d3]) rfl ⟨by first | rw [H1.out, H2.out] | rfl, by (first | rw [hA] | skip); exact ((((Hb.out).setCell (Nat.le_refl _) _).setCell (Nat.le_refl _) _).setCell (Nat.le_refl _) _).setCell (Nat.le_refl _) _⟩

  | false =>
    have Hnum : Hid (∀ W : World, Calls Tryz.prog 71 #[.string s] W fun e w' => NumEnds W w' e s.data.toList) := Lib.hid fun W => numberR_any W s hs
    cases hn : numOk s.data.toList with
    | true =>
      obtain ⟨q1, q2⟩ := parse_num hn
      have H1 := Lib.hid q1
      have H2 := Lib.hid (congrArg Val.v q2)
      simp only [Val.v] at H2 ⊢
      clear q1 q2 hs k1 k2 k3
      go_enter Tryz.func41, Tryz.ntmps41
      go_upto_region 1 with fail
      generalize (w.alloc _) = W0 at Hat Hbw ⊢
      generalize hA : w.heap.size = A at *
      go_wp2_with fail
      refine (Hf.out W0).mono ?_
      rintro e w2 ⟨v, rfl, -, hb⟩
      rw [hf]
      go_wp2_with fail
      refine (Hnum.out w2).mono ?_
      rintro e w3 ⟨v2, rfl, hv, hb2⟩
      have hv2 := hv hn
      subst hv2
      rw [hn]
      have hbx := hb.trans (hb2.mono hb.size)
      have Hb := Lib.hid (Hbw.out.trans (hbx.mono (by have := Hat.out.lt; omega)))
      have at1 := Hat.out.below hbx Hat.out.lt
      clear hv hb hb2 hbx
      have z0 := at1.z 0; have z1 := at1.z 1; have z2 := at1.z 2; have z3 := at1.z 3
      obtain ⟨d0, d1, d2, d3, -, -⟩ := at1
      go_wp2_with fail
      exact bodyPost_ret (v := .tuple #[.agg #[.int .i64 1, .int .i64 (numV s.data.toList), .string ⟨#[]⟩, .int .u64 0], .bool true]) (by simp [results, Tryz.results41, go_sem, d0, d1, d2, d3]) rfl ⟨by first | rw [H1.out, H2.out] | rfl, by (first | rw [hA] | skip); exact ((((Hb.out).setCell (Nat.le_refl _) _).setCell (Nat.le_refl _) _).setCell (Nat.le_refl _) _).setCell (Nat.le_refl _) _⟩

    | false =>
      obtain ⟨l, hl⟩ : ∃ l, l = s.data.toList := ⟨_, rfl⟩
      have hlen : l.length = s.size := by rw [hl, Lib.size_eq]
      have Hyes : Hid (∀ b : List UInt8, l = 120 :: hexL b → b.length ≤ 64 → okV s.data.toList = true ∧ (parseVal s.data.toList).v = .agg #[.int .i64 3, .int .i64 0, .string ⟨b.toArray⟩, .int .u64 0]) := Lib.hid fun b h1 h2 => by
        rw [hl] at h1
        obtain ⟨q1, q2⟩ := parse_hex h1 h2
        exact ⟨q1, by rw [q2]⟩
      have Hno : Hid ((l.head? ≠ some 120 ∨ l.length % 2 = 0 ∨ 129 < l.length ∨ ∃ j c, l[j + 1]? = some c ∧ ∀ d, d < 16 → dig d ≠ c) → okV s.data.toList = false ∧ (parseVal s.data.toList).v = .agg #[.int .i64 0, .int .i64 0, .string ⟨#[]⟩, .int .u64 0]) := Lib.hid fun h => by
        rw [hl] at h
        obtain ⟨q1, q2⟩ := parse_no k1 k2 k3 hf hn (hex_none h)
        exact ⟨q1, by rw [q2]; rfl⟩
      rw [← hl] at Hf Hnum hf hn
      generalize hR : (parseVal s.data.toList).v = R at *
      generalize hK : okV s.data.toList = K at *
      clear k1 k2 k3 hR hK
      obtain ⟨N, hN⟩ : ∃ N, s.size = N := ⟨_, rfl⟩
      rw [hN] at hlen hs
      have Hlen := Lib.hid hlen
      have Hl := Lib.hid hl
      by_cases h0 : N = 0
      · have hl0 : l = [] := List.length_eq_zero_iff.1 (by omega)
        obtain rfl : s = ⟨#[]⟩ := bytes_eq (by rw [← hl, hl0])
        clear hl Hl
        obtain ⟨q1, q2⟩ := Hno.out (.inl (by simp [hl0]))
        have q1 := Lib.hid q1; have q2 := Lib.hid q2
        clear hl0 hlen h0 hs hN
        go_enter Tryz.func41, Tryz.ntmps41
        go_upto_region 1 with fail
        generalize (w.alloc _) = W0 at Hat Hbw ⊢
        generalize hA : w.heap.size = A at *
        go_wp2_with fail
        refine (Hf.out W0).mono ?_
        rintro e w2 ⟨v, rfl, -, hb⟩
        rw [hf]
        go_wp2_with fail
        refine (Hnum.out w2).mono ?_
        rintro e w3 ⟨v2, rfl, -, hb2⟩
        rw [hn]
        have hbx := hb.trans (hb2.mono hb.size)
        have Hbb := Lib.hid (Hbw.out.trans (hbx.mono (by have := Hat.out.lt; omega)))
        have Hat3 := Lib.hid (Hat.out.below hbx Hat.out.lt)
        clear hb hb2 hbx
        have at1 := Hat3.out
        have z0 := at1.z 0; have z1 := at1.z 1; have z2 := at1.z 2; have z3 := at1.z 3
        obtain ⟨d0, d1, d2, d3, -, -⟩ := at1
        go_wp2_with fail
        exact bodyPost_ret (v := .tuple #[.agg #[.int .i64 0, .int .i64 0, .string ⟨#[]⟩, .int .u64 0], .bool false]) (by simp [results, Tryz.results41, go_sem, d0, d1, d2, d3]) rfl ⟨by first | rw [q1.out, q2.out] | rfl, by (first | rw [hA] | skip); exact ((((Hbb.out).setCell (Nat.le_refl _) _).setCell (Nat.le_refl _) _).setCell (Nat.le_refl _) _).setCell (Nat.le_refl _) _⟩
      have h0s : 0 < s.size := by omega
      obtain ⟨c0, r, hlr⟩ : ∃ c0 r, l = c0 :: r := by
        cases hdc : l with
        | nil => rw [hdc] at hlen; simp at hlen; omega
        | cons c0 r => exact ⟨c0, r, rfl⟩
      have hs0 : s[0] = c0 := by
        have h5 := byte_at s 0 h0s
        rw [← hl, hlr] at h5
        exact (Option.some.inj h5).symm
      have hne : (s.toList == []) = false := by
        rw [beq_eq_false_iff_ne, ByteArray.toList_eq, ← hl, hlr]; simp
      have Hlr := Lib.hid hlr
      clear hl hlr h0
      by_cases h120 : c0 ≠ 120
      · have hc120 : ((c0.toNat : Int) != 120) = true := by
          rw [bne_iff_ne]
          intro e
          exact h120 (UInt8.toNat_inj.1 (by simp; omega))
        obtain ⟨q1, q2⟩ := Hno.out (.inl (by rw [Hlr.out]; intro e; exact h120 (Option.some.inj e)))
        have q1 := Lib.hid q1; have q2 := Lib.hid q2
        clear h120 hlen
        go_enter Tryz.func41, Tryz.ntmps41
        go_upto_region 1 with fail
        generalize (w.alloc _) = W0 at Hat Hbw ⊢
        generalize hA : w.heap.size = A at *
        go_wp2_with fail
        refine (Hf.out W0).mono ?_
        rintro e w2 ⟨v, rfl, -, hb⟩
        rw [hf]
        go_wp2_with fail
        refine (Hnum.out w2).mono ?_
        rintro e w3 ⟨v2, rfl, -, hb2⟩
        rw [hn]
        have hbx := hb.trans (hb2.mono hb.size)
        have Hbb := Lib.hid (Hbw.out.trans (hbx.mono (by have := Hat.out.lt; omega)))
        have Hat3 := Lib.hid (Hat.out.below hbx Hat.out.lt)
        clear hb hb2 hbx
        have at1 := Hat3.out
        have z0 := at1.z 0; have z1 := at1.z 1; have z2 := at1.z 2; have z3 := at1.z 3
        obtain ⟨d0, d1, d2, d3, -, -⟩ := at1
        go_wp2_with fail
        exact bodyPost_ret (v := .tuple #[.agg #[.int .i64 0, .int .i64 0, .string ⟨#[]⟩, .int .u64 0], .bool false]) (by simp [results, Tryz.results41, go_sem, d0, d1, d2, d3]) rfl ⟨by first | rw [q1.out, q2.out] | rfl, by (first | rw [hA] | skip); exact ((((Hbb.out).setCell (Nat.le_refl _) _).setCell (Nat.le_refl _) _).setCell (Nat.le_refl _) _).setCell (Nat.le_refl _) _⟩
      have h120 : c0 = 120 := Decidable.not_not.1 h120
      have hc120 : ((c0.toNat : Int) != 120) = false := by rw [h120]; decide
      by_cases hodd : N % 2 = 0
      · have hm1 : (N : Int).tmod 2 = 0 := by rw [Int.tmod_eq_emod_of_nonneg (by omega)]; omega
        obtain ⟨q1, q2⟩ := Hno.out (.inr (.inl (by rw [hlen]; exact hodd)))
        have q1 := Lib.hid q1; have q2 := Lib.hid q2
        clear h120 hlen hodd
        go_enter Tryz.func41, Tryz.ntmps41
        go_upto_region 1 with fail
        generalize (w.alloc _) = W0 at Hat Hbw ⊢
        generalize hA : w.heap.size = A at *
        go_wp2_with fail
        refine (Hf.out W0).mono ?_
        rintro e w2 ⟨v, rfl, -, hb⟩
        rw [hf]
        go_wp2_with fail
        refine (Hnum.out w2).mono ?_
        rintro e w3 ⟨v2, rfl, -, hb2⟩
        rw [hn]
        have hbx := hb.trans (hb2.mono hb.size)
        have Hbb := Lib.hid (Hbw.out.trans (hbx.mono (by have := Hat.out.lt; omega)))
        have Hat3 := Lib.hid (Hat.out.below hbx Hat.out.lt)
        clear hb hb2 hbx
        have at1 := Hat3.out
        have z0 := at1.z 0; have z1 := at1.z 1; have z2 := at1.z 2; have z3 := at1.z 3
        obtain ⟨d0, d1, d2, d3, -, -⟩ := at1
        go_wp2_with fail
        exact bodyPost_ret (v := .tuple #[.agg #[.int .i64 0, .int .i64 0, .string ⟨#[]⟩, .int .u64 0], .bool false]) (by simp [results, Tryz.results41, go_sem, d0, d1, d2, d3]) rfl ⟨by first | rw [q1.out, q2.out] | rfl, by (first | rw [hA] | skip); exact ((((Hbb.out).setCell (Nat.le_refl _) _).setCell (Nat.le_refl _) _).setCell (Nat.le_refl _) _).setCell (Nat.le_refl _) _⟩
      have hm1 : (N : Int).tmod 2 = 1 := by rw [Int.tmod_eq_emod_of_nonneg (by omega)]; omega
      by_cases h129 : 129 < N
      · have h129i : 129 < (N : Int) := by omega
        obtain ⟨q1, q2⟩ := Hno.out (.inr (.inr (.inl (by rw [hlen]; exact h129))))
        have q1 := Lib.hid q1; have q2 := Lib.hid q2
        clear h120 hlen hodd h129
        go_enter Tryz.func41, Tryz.ntmps41
        go_upto_region 1 with fail
        generalize (w.alloc _) = W0 at Hat Hbw ⊢
        generalize hA : w.heap.size = A at *
        go_wp2_with fail
        refine (Hf.out W0).mono ?_
        rintro e w2 ⟨v, rfl, -, hb⟩
        rw [hf]
        go_wp2_with fail
        refine (Hnum.out w2).mono ?_
        rintro e w3 ⟨v2, rfl, -, hb2⟩
        rw [hn]
        have hbx := hb.trans (hb2.mono hb.size)
        have Hbb := Lib.hid (Hbw.out.trans (hbx.mono (by have := Hat.out.lt; omega)))
        have Hat3 := Lib.hid (Hat.out.below hbx Hat.out.lt)
        clear hb hb2 hbx
        have at1 := Hat3.out
        have z0 := at1.z 0; have z1 := at1.z 1; have z2 := at1.z 2; have z3 := at1.z 3
        obtain ⟨d0, d1, d2, d3, -, -⟩ := at1
        go_wp2_with fail
        exact bodyPost_ret (v := .tuple #[.agg #[.int .i64 0, .int .i64 0, .string ⟨#[]⟩, .int .u64 0], .bool false]) (by simp [results, Tryz.results41, go_sem, d0, d1, d2, d3]) rfl ⟨by first | rw [q1.out, q2.out] | rfl, by (first | rw [hA] | skip); exact ((((Hbb.out).setCell (Nat.le_refl _) _).setCell (Nat.le_refl _) _).setCell (Nat.le_refl _) _).setCell (Nat.le_refl _) _⟩
      have h129i : ¬ 129 < (N : Int) := by omega
      obtain ⟨J, hJ⟩ : ∃ J, N = 2 * J + 1 := ⟨N / 2, by omega⟩
      obtain ⟨t, ht⟩ : ∃ t, t = l.drop 1 := ⟨_, rfl⟩
      have hlt : l = 120 :: t := by rw [ht, Hlr.out, h120]; rfl
      have htl : t.length = 2 * J := by rw [hlt] at hlen; simp at hlen; omega
      have hget : Hid (∀ j, j < 2 * J → ∀ h : j + 1 < s.size, ∃ c, t[j]? = some c ∧ l[j + 1]? = some c ∧ s[j + 1] = c) := by
        refine Lib.hid fun j hj h => ⟨s[j + 1], ?_, ?_, rfl⟩
        · have h2 : l[j + 1]? = some s[j + 1] := by rw [Hl.out]; exact byte_at s (j + 1) h
          rw [hlt, List.getElem?_cons_succ] at h2
          exact h2
        · rw [Hl.out]; exact byte_at s (j + 1) h
      have Hlt := Lib.hid hlt
      have Htl := Lib.hid htl
      have HJ := Lib.hid hJ
      have hJ64 : J ≤ 64 := by omega
      clear hlt htl ht hJ h120 hlen hodd h129 hs
      go_enter Tryz.func41, Tryz.ntmps41
      go_upto_region 1 with fail
      generalize (w.alloc _) = W0 at Hat Hbw ⊢
      generalize hA : w.heap.size = A at *
      go_wp2_with fail
      refine (Hf.out W0).mono ?_
      rintro e w2 ⟨v, rfl, -, hb⟩
      rw [hf]
      go_wp2_with fail
      refine (Hnum.out w2).mono ?_
      rintro e w3 ⟨v2, rfl, -, hb2⟩
      rw [hn]
      have hbx := hb.trans (hb2.mono hb.size)
      have Hbb := Lib.hid (Hbw.out.trans (hbx.mono (by have := Hat.out.lt; omega)))
      have Hat3 := Lib.hid (Hat.out.below hbx Hat.out.lt)
      clear hb hb2 hbx
      go_wp2_with fail
      have hst := Buf.start w3
      go_loopg [8, 9] J (fun mm bv iv wr => ∃ (j : Nat) (I : Int) (acc : List UInt8), j + mm = J ∧ Hid (I = 2 * (j : Int) + 1 ∧ t.take (2 * j) = hexL acc ∧ acc.length = j) ∧ iv = .int .i64 I ∧ Buf w3 wr bv acc)
      case atStart => exact ⟨0, 1, [], by omega, Lib.hid ⟨rfl, rfl, rfl⟩, rfl, Buf.start w3⟩
      case round =>
        obtain ⟨j, I, acc, hj, HI, rfl, hB⟩ := hrel
        have HB := Lib.hid hB; clear hB
        have hA3 : Hid (A ≤ w3.heap.size) := Lib.hid (by have := Hat3.out.lt; omega)
        have at2 := Hat3.out.below HB.out.below Hat3.out.lt
        have Hat4 := Lib.hid at2; clear at2
        have hI0 : 0 ≤ I := by have := HI.out.1; omega
        by_cases hm : gk = 0
        · have hjJ : j = J := by omega
          have hI1 : ¬ I < (N : Int) := by have := HI.out.1; have := HJ.out; omega
          have hall : l = 120 :: hexL acc := by
            rw [Hlt.out, ← HI.out.2.1, List.take_of_length_le (by rw [Htl.out]; omega)]
          obtain ⟨q1, q2⟩ := Hyes.out acc hall (by rw [HI.out.2.2]; omega)
          have q1 := Lib.hid q1; have q2 := Lib.hid q2
          have htx := HB.out.text
          clear hm hj hjJ hall
          have at1 := Hat4.out
          have z0 := at1.z 0; have z1 := at1.z 1; have z2 := at1.z 2; have z3 := at1.z 3
          obtain ⟨d0, d1, d2, d3, -, -⟩ := at1
          go_wp2_with fail
          exact bodyPost_ret (v := .tuple #[.agg #[.int .i64 3, .int .i64 0, .string ⟨acc.toArray⟩, .int .u64 0], .bool true]) (by simp [results, Tryz.results41, go_sem, d0, d1, d2, d3]) rfl ⟨by first | rw [q1.out, q2.out] | rfl, by (first | rw [hA] | skip); exact ((((Hbb.out.trans (HB.out.below.mono hA3.out)).setCell (Nat.le_refl _) _).setCell (Nat.le_refl _) _).setCell (Nat.le_refl _) _).setCell (Nat.le_refl _) _⟩
        · have hjJ : j < J := by omega
          have hI1 : I < (N : Int) := by have := HI.out.1; have := HJ.out; omega
          have hI2 : I ≤ 127 := by have := HI.out.1; omega
          have Hj := Lib.hid hj; have Hm := Lib.hid hm; have HjJ := Lib.hid hjJ
          clear hm hj hjJ
          go_wp2_with fail
          go_loopg [10, 11] 2 (fun mm cv kv wx => ∃ (h U : Nat) (KI UI : Int), h + mm = 2 ∧ Hid (KI = I + (h : Int) ∧ UI = (U : Int)) ∧ cv = .int .i64 UI ∧ kv = .int .i64 KI ∧ Hid (XInv (t.drop (2 * j)) h U) ∧ ∃ q, wx = wr.drewN q)
          case atStart => exact ⟨0, 0, I, 0, rfl, Lib.hid ⟨by omega, rfl⟩, rfl, rfl, Lib.hid ⟨rfl, by decide⟩, 0, rfl⟩
          case round =>
            obtain ⟨h, U, KI, UI, hh, HK, rfl, rfl, HX, q, rfl⟩ := hrel
            have hU : U < 256 := by
              have h1 := HX.out.2
              have h3 : 16 ^ h ≤ 16 ^ 2 := Nat.pow_le_pow_right (by decide) (by omega)
              omega
            have hU0 : 0 ≤ UI := by have := HK.out.2; omega
            have hU1 : UI < 256 := by have := HK.out.2; omega
            have hK0 : 0 ≤ KI := by have := HK.out.1; omega
            have hK9 : KI ≤ 129 := by have := HK.out.1; omega
            by_cases hm : gk = 0
            · have hh2 : h = 2 := by omega
              have hK2 : ¬ KI < I + 2 := by have := HK.out.1; omega
              have hstep : t.take (2 * (j + 1)) = hexL (acc ++ [UInt8.ofNat U]) := by
                rw [show 2 * (j + 1) = 2 * j + 2 from by omega, List.take_add, HI.out.2.1, hexL_append]
                have := HX.out.1
                rw [hh2] at this
                rw [this]
                congr 1
                exact hexN_two U hU
              have Hst := Lib.hid hstep
              have hal : acc.length + 1 ≤ 1000000 := by rw [HI.out.2.2]; have := HjJ.out; omega
              have Hal := Lib.hid hal
              have hz : ((UInt8.ofNat U).toNat : Int) = UI := by
                rw [UInt8.toNat_ofNat', Nat.mod_eq_of_lt (show U < 2 ^ 8 from hU)]; exact HK.out.2.symm
              generalize UInt8.ofNat U = z at *
              have Hz := Lib.hid hz
              clear hstep hal hh2 hm hh hz hU HX HK
              go_wp2_with (at_builtin; refine wpList_bytes rfl (.tmp 98) (.tmp 101) rfl w3 wr _ _ [z] wr.heap.size 1 HB.out rfl (by decide) Hal.out ((below_drewN (Below.refl _ _) q).alloc (Nat.le_refl _) _) (alloc_cells (wr.drewN q) [z] _ _ (by simp [encB, Hz.out])) rfl rfl ?_; intro g2 cap2 w1 hb1; have Hb1 := Lib.hid hb1; clear hb1)
              go_roundg (J - (j + 1))
              case measure => have := Hj.out; have := Hm.out; omega
              case rel => exact ⟨j + 1, I + 2, acc ++ [z], by have := Hj.out; have := HjJ.out; omega, Lib.hid ⟨by have := HI.out.1; omega, Hst.out, by rw [List.length_append, HI.out.2.2]; rfl⟩, by go_num, Hb1.out⟩
            · have hh2 : h < 2 := by omega
              have hK2 : KI < I + 2 := by have := HK.out.1; omega
              have hKN : KI < (N : Int) := by have := HK.out.1; have := HI.out.1; have := HJ.out; have := HjJ.out; omega
              have hx : 2 * j + h + 1 < s.size := by have := HJ.out; have := HjJ.out; omega
              have hKn : KI.toNat = 2 * j + h + 1 := by have := HK.out.1; have := HI.out.1; omega
              obtain ⟨c, hc1, hc3, hc2⟩ := hget.out (2 * j + h) (by have := HjJ.out; omega) hx
              have hc1' : (t.drop (2 * j))[h]? = some c := by rw [List.getElem?_drop]; exact hc1
              have Hc1 := Lib.hid hc1'
              have Hc3 := Lib.hid hc3
              have Hh := Lib.hid hh; have Hm2 := Lib.hid hm
              clear hc1 hc1' hc3 hh hm hU
              go_wp2_with fail
              go_loopg [12] 16 (fun mm d wx => ∃ (D : Nat) (DI : Int), D + mm = 16 ∧ DI = (D : Int) ∧ d = .int .i64 DI ∧ Hid (∀ x, x < D → dig x ≠ c) ∧ ∃ q, wx = wr.drewN q)
              case atStart => exact ⟨0, 0, rfl, rfl, rfl, Lib.hid fun x hx => by omega, q, rfl⟩
              case round =>
                obtain ⟨D, DI, hD, hDI, rfl, hno, q2, rfl⟩ := hrel
                by_cases hm : gk = 0
                · have hD2 : DI = 16 := by omega
                  subst hD2
                  have hdd : decide ((16 : Int) < 16) = false := by decide
                  have hD16 : D = 16 := by omega
                  obtain ⟨q1, q2⟩ := Hno.out (.inr (.inr (.inr ⟨_, c, Hc3.out, fun d hd => hno.out d (by omega)⟩)))
                  have q1 := Lib.hid q1; have q2 := Lib.hid q2
                  clear hDI hm
                  go_wp2_with fail
                  go_quiet (fail)
                  have at1 := Hat4.out
                  have z0 := at1.z 0; have z1 := at1.z 1; have z2 := at1.z 2; have z3 := at1.z 3
                  obtain ⟨d0, d1, d2, d3, -, -⟩ := at1
                  go_wp2_with fail
                  exact bodyPost_ret (v := .tuple #[.agg #[.int .i64 0, .int .i64 0, .string ⟨#[]⟩, .int .u64 0], .bool false]) (by simp [results, Tryz.results41, go_sem, d0, d1, d2, d3]) rfl ⟨by first | rw [q1.out, q2.out] | rfl, by (first | rw [hA] | skip); exact ((((below_drewN (Hbb.out.trans (HB.out.below.mono hA3.out)) _).setCell (Nat.le_refl _) _).setCell (Nat.le_refl _) _).setCell (Nat.le_refl _) _).setCell (Nat.le_refl _) _⟩
                · have hD2 : D < 16 := by omega
                  have hDs : D < digits16.size := by rw [digits16_size]; exact hD2
                  have hD3 : DI < 16 := by omega
                  have hD0 : 0 ≤ DI := by omega
                  have hdd : decide (DI < 16) = true := by rw [decide_eq_true hD3]
                  have hat := digit16_at D hD2 hDs
                  have hDn : DI.toNat = D := by omega
                  have HDI := Lib.hid hDI; have HD := Lib.hid hD; have Hm3 := Lib.hid hm
                  clear hDI hD hm
                  by_cases hcd : dig D = c
                  · have hneq : ((((dig D).toNat : Int) != (c.toNat : Int))) = false := by rw [hcd]; simp
                    have Hcd := Lib.hid hcd
                    clear hcd
                    have hd16 : (DI == 16) = false := by rw [beq_eq_false_iff_ne]; omega
                    go_wp2_with fail
                    go_quiet (fail)
                    go_wp2_with fail
                    go_roundg (1 - h)
                    case measure => have := Hh.out; omega
                    case rel => exact ⟨h + 1, U * 16 + D, KI + 1, 16 * UI + DI, by have := Hh.out; omega, Lib.hid ⟨by have := HK.out.1; omega, by have := HK.out.2; have := HDI.out; omega⟩, by go_num, by go_num, Lib.hid (HX.out.next (by rw [Hc1.out, Hcd.out]) hD2), _, rfl⟩
                  · have hneq : ((((dig D).toNat : Int) != (c.toNat : Int))) = true := by
                      rw [bne_iff_ne]
                      intro e
                      exact hcd (UInt8.toNat_inj.1 (by omega))
                    have Hcd := Lib.hid hcd
                    clear hcd
                    go_wp2_with fail
                    go_quiet (fail)
                    go_wp2_with fail
                    go_roundg (15 - D)
                    case measure => have := HD.out; omega
                    case rel => exact ⟨D + 1, DI + 1, by have := HD.out; have := Hm3.out; omega, by have := HDI.out; omega, by go_num, Lib.hid fun x hx => by
                      rcases Nat.lt_or_eq_of_le (Nat.le_of_lt_succ hx) with h | h
                      · exact hno.out x h
                      · rw [h]; exact Hcd.out, _, rfl⟩
end Go.Proofs.YtfniehgggbobaaaGreatDoor
