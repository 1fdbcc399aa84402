/- Joined texts: Vg0; Vg1; Vm1; Vm2. -/
import Derived.Test.YtfniehgggbobaaaGreatDoorGD
import Derived.Test.YtfniehgggbobaaaGreatDoorGE
import Derived.Lib.SmallJoins
set_option linter.unusedVariables false
set_option linter.unusedSimpArgs false
namespace Go.Proofs.YtfniehgggbobaaaGreatDoor
open Go.ChangeShapes Go.WideShapes Go.ChangeAt Go.RowKit Go.Joins

structure Val.Ok (x : Val) : Prop where
  k : (Lit.int .i64 x.k).wf = true
  n : (Lit.int .i64 x.n).wf = true
  s : x.s.size ≤ maxLen
  f : (Lit.int .u64 x.f).wf = true
theorem u64_lt {f : Int} (h : f ≤ 18446744073709551615) : f < 18446744073709551616 := by omega
theorem Val.Ok.wf {x : Val} (h : x.Ok) : x.Wf := by
  obtain ⟨k, n, s, f⟩ := x
  obtain ⟨h1, h2, _, h4⟩ := h
  have b1 := bounds_i64 h1
  have b2 := bounds_i64 h2
  have b4 := bounds_u64 h4
  generalize hk : (Val.mk k n s f).k = k' at b1
  generalize hn : (Val.mk k n s f).n = n' at b2
  generalize hf : (Val.mk k n s f).f = f' at b4
  have hf2 := u64_lt b4.2
  exact ⟨hk ▸ b1.1, hk ▸ b1.2, hn ▸ b2.1, hn ▸ b2.2, hf ▸ b4.1, hf ▸ hf2⟩
section
variable {H : Type} {enc : TypeId × Value → H} {w : World} {base : Nat} {spare : Nat → Bool} {held : Bool}
def valD (x : Val) : DataW H := .agg [.lit (.int .i64 x.k), .lit (.int .i64 x.n), .lit (.string x.s.data.toList), .lit (.int .u64 x.f)]
set_option maxRecDepth 100000 in
theorem open_val {r : Reach} {b0 : Nat} {v : Value} {d : DataW H} {p : List MemPlace} (hv : Value.okWide Tryz.prog w r b0 25 v) (h : DataW.Trod enc Tryz.prog w base spare held 25 v d p) :
    ∃ x : Val, v = x.v ∧ d = valD x ∧ p = [] ∧ x.Ok := by
  obtain ⟨v0, v1, v2, v3, y0, y1, y2, y3, n, rfl, rfl, rfl, h0, h1, h2, h3⟩ := open_agg4 Tryz.underlying25 (by kernel_rfl) (by kernel_rfl) hv h
  obtain ⟨k, hk, rfl, wk⟩ := DataW.trod_int Tryz.underlying22 h0
  obtain ⟨m, hm, rfl, wm⟩ := DataW.trod_int Tryz.underlying3 h1
  obtain ⟨s, hs, rfl, ws⟩ := DataW.trod_string Tryz.underlying9 h2
  obtain ⟨f, hf, rfl, wf⟩ := DataW.trod_int Tryz.underlying23 h3
  simp only [List.cons.injEq, and_true] at hk hm hs hf
  subst hk hm hs hf
  exact ⟨⟨k, m, s, f⟩, rfl, rfl, rfl, wk, wm, ws, wf⟩
set_option maxRecDepth 100000 in
theorem shut_val {x : Val} (h : x.Ok) : DataW.Trod enc Tryz.prog w base spare held 25 x.v (valD x) [] := by
  exact shut_agg4 (enc := enc) (w := w) (base := base) (spare := spare) (held := held) (v0 := .int .i64 x.k) (v1 := .int .i64 x.n) (v2 := .string x.s) (v3 := .int .u64 x.f) (y0 := (.lit (.int .i64 x.k), [])) (y1 := (.lit (.int .i64 x.n), [])) (y2 := (.lit (.string x.s.data.toList), [])) (y3 := (.lit (.int .u64 x.f), [])) Tryz.underlying25 (by kernel_rfl) (by kernel_rfl)
    (shut_int Tryz.underlying22 h.k) (shut_int Tryz.underlying3 h.n) (Go.ChangeMaps.shut_string Tryz.underlying9 h.s) (shut_int Tryz.underlying23 h.f)
end
end Go.Proofs.YtfniehgggbobaaaGreatDoor
namespace Go.Proofs.YtfniehgggbobaaaGreatDoor
open Go.ChangeShapes Go.WideShapes Go.ChangeAt Go.RowKit Go.Joins

structure MOk (mk mn : Int) : Prop where
  k : (Lit.int .i64 mk).wf = true
  n : (Lit.int .i64 mn).wf = true
section
variable {H : Type} {enc : TypeId × Value → H} {w : World} {base : Nat} {spare : Nat → Bool} {held : Bool}
def maskD (mk mn : Int) : DataW H := .agg [.lit (.int .i64 mk), .lit (.int .i64 mn)]
set_option maxRecDepth 100000 in
theorem open_mask {r : Reach} {b0 : Nat} {v : Value} {d : DataW H} {p : List MemPlace} (hv : Value.okWide Tryz.prog w r b0 53 v) (h : DataW.Trod enc Tryz.prog w base spare held 53 v d p) :
    ∃ mk mn : Int, v = .agg #[.int .i64 mk, .int .i64 mn] ∧ d = maskD mk mn ∧ p = [] ∧ MOk mk mn := by
  obtain ⟨v0, v1, y0, y1, n, rfl, rfl, rfl, h0, h1⟩ := open_agg2 Tryz.underlying53 (by kernel_rfl) (by kernel_rfl) hv h
  obtain ⟨k, hk, rfl, wk⟩ := DataW.trod_int Tryz.underlying51 h0
  obtain ⟨m, hm, rfl, wm⟩ := DataW.trod_int Tryz.underlying3 h1
  simp only [List.cons.injEq, and_true] at hk hm
  subst hk hm
  exact ⟨k, m, rfl, rfl, rfl, wk, wm⟩
set_option maxRecDepth 100000 in
theorem shut_mask {mk mn : Int} (h : MOk mk mn) : DataW.Trod enc Tryz.prog w base spare held 53 (.agg #[.int .i64 mk, .int .i64 mn]) (maskD mk mn) [] := by
  exact shut_agg2 (enc := enc) (w := w) (base := base) (spare := spare) (held := held) (v0 := .int .i64 mk) (v1 := .int .i64 mn) (y0 := (.lit (.int .i64 mk), [])) (y1 := (.lit (.int .i64 mn), [])) Tryz.underlying53 (by kernel_rfl) (by kernel_rfl)
    (shut_int Tryz.underlying51 h.k) (shut_int Tryz.underlying3 h.n)
end
end Go.Proofs.YtfniehgggbobaaaGreatDoor
namespace Go.Proofs.YtfniehgggbobaaaGreatDoor
open Go.RowKit

theorem extract_take (s : ByteArray) (n : Nat) : s.extract 0 n = ⟨(s.data.toList.take n).toArray⟩ := by
  apply bytes_eq
  rw [← ByteArray.toList_eq, Lib.extract_toList, List.drop_zero, Nat.sub_zero]
theorem extract_one (s : ByteArray) (j : Nat) (h : j < s.size) : s.extract j (j + 1) = ⟨#[s[j]]⟩ := by
  apply bytes_eq
  rw [← ByteArray.toList_eq, Lib.extract_toList, show j + 1 - j = 1 from by omega]
  have hl : j < s.data.toList.length := by rw [← Lib.size_eq]; exact h
  rw [List.drop_eq_getElem_cons hl]
  rfl
theorem maskX_zero {x : Val} (hx : RightC x) (h : x.k = 0) (mk mn : Int) : maskX x mk mn = x := by
  rcases hx with ⟨k, n, s, f⟩ | ⟨k, s, f⟩ | ⟨k, s, f, n⟩ | ⟨k, n, f, s⟩ | ⟨k, n, s, f⟩ <;> try omega
  obtain ⟨xk, xn, xs, xf⟩ := x
  simp only at k n s f
  subst k n s f
  unfold maskX zeroVal
  simp
end Go.Proofs.YtfniehgggbobaaaGreatDoor
namespace Go.Proofs.YtfniehgggbobaaaGreatDoor
open Go.RowKit

theorem mask_right {x : Val} (h : RightC x) (mk mn : Int) (hx : rightB x = true) : rightB (maskX x mk mn) = true := by
  unfold maskX
  split
  · exact hx
  · split
    · rcases h with ⟨k, n, s, f⟩ | ⟨k, s, f⟩ | ⟨k, s, f, n⟩ | ⟨k, n, f, s⟩ | ⟨k, n, s, f⟩ <;> rw [k] <;> decide +kernel
    · split
      · rename_i h3
        rcases h with ⟨k, n, s, f⟩ | ⟨k, s, f⟩ | ⟨k, s, f, n⟩ | ⟨k, n, f, s⟩ | ⟨k, n, s, f⟩ <;> try omega
        unfold rightB
        simp only [k, n, f]
        have hsz : (x.s.extract 0 (min (x.s.size : Int) (max mn 0)).toNat).size ≤ 64 := by
          rw [Lib.size_eq, extract_take, List.length_take, ← Lib.size_eq]; omega
        simp
        omega
      · decide +kernel
theorem mask_idem {x : Val} (h : RightC x) (mk mn : Int) : maskX (maskX x mk mn) mk mn = maskX x mk mn := by
  by_cases h0 : mk = 0
  · unfold maskX; rw [if_pos h0, if_pos h0]
  by_cases h2 : mk = 2
  · unfold maskX; rw [if_neg h0, if_pos h2, if_neg h0, if_pos h2]
  by_cases h3 : mk = 3 ∧ x.k = 3
  · have e : maskX x mk mn = ⟨x.k, x.n, x.s.extract 0 (min (x.s.size : Int) (max mn 0)).toNat, x.f⟩ := by unfold maskX; rw [if_neg h0, if_neg h2, if_pos h3]
    rw [e]
    unfold maskX
    rw [if_neg h0, if_neg h2, if_pos h3]
    congr 1
    have hl : x.s.data.toList.length = x.s.size := (Lib.size_eq x.s).symm
    have hs : (x.s.extract 0 (min (x.s.size : Int) (max mn 0)).toNat).size = (min (x.s.size : Int) (max mn 0)).toNat := by
      rw [Lib.size_eq, extract_take, List.length_take, hl]; omega
    simp only [hs]
    rw [extract_take, extract_take]
    congr 2
    simp only
    rw [List.take_take]
    congr 1
    omega
  · have e : maskX x mk mn = zeroVal := by unfold maskX; rw [if_neg h0, if_neg h2, if_neg h3]
    rw [e]
    exact maskX_zero (right_cases (by decide +kernel)) rfl mk mn
end Go.Proofs.YtfniehgggbobaaaGreatDoor
