/- Values among a law's arguments: opened and shut. -/
import Derived.Test.YtfkghfmgeholeaaGreatDoorGD
import Derived.Lib.SmallJoins
set_option linter.unusedVariables false
set_option linter.unusedSimpArgs false
namespace Go.Proofs.YtfkghfmgeholeaaGreatDoor
open Go.ChangeShapes Go.WideShapes Go.ChangeAt Go.RowKit Go.Joins

structure Val.Ok (x : Val) : Prop where
  k : (Lit.int .i64 x.k).wf = true
  n : (Lit.int .i64 x.n).wf = true
  s : x.s.size ≤ maxLen
  f : (Lit.int .u64 x.f).wf = true
theorem u64_lt {f : Int} (h : f ≤ 18446744073709551615) : f < 18446744073709551616 := by omega
theorem Val.Ok.wf {x : Val} (h : x.Ok) : x.Wf := by
  obtain ⟨k, n, s, f⟩ := x
  obtain ⟨h1, h2, _, h4⟩ := h
  have b1 := bounds_i64 h1
  have b2 := bounds_i64 h2
  have b4 := bounds_u64 h4
  generalize hk : (Val.mk k n s f).k = k' at b1
  generalize hn : (Val.mk k n s f).n = n' at b2
  generalize hf : (Val.mk k n s f).f = f' at b4
  have hf2 := u64_lt b4.2
  exact ⟨hk ▸ b1.1, hk ▸ b1.2, hn ▸ b2.1, hn ▸ b2.2, hf ▸ b4.1, hf ▸ hf2⟩
section
variable {H : Type} {enc : TypeId × Value → H} {w : World} {base : Nat} {spare : Nat → Bool} {held : Bool}
def valD (x : Val) : DataW H := .agg [.lit (.int .i64 x.k), .lit (.int .i64 x.n), .lit (.string x.s.data.toList), .lit (.int .u64 x.f)]
set_option maxRecDepth 100000 in
theorem open_val {r : Reach} {b0 : Nat} {v : Value} {d : DataW H} {p : List MemPlace} (hv : Value.okWide Tryz.prog w r b0 26 v) (h : DataW.Trod enc Tryz.prog w base spare held 26 v d p) :
    ∃ x : Val, v = x.v ∧ d = valD x ∧ p = [] ∧ x.Ok := by
  obtain ⟨v0, v1, v2, v3, y0, y1, y2, y3, n, rfl, rfl, rfl, h0, h1, h2, h3⟩ := open_agg4 Tryz.underlying26 (by kernel_rfl) (by kernel_rfl) hv h
  obtain ⟨k, hk, rfl, wk⟩ := DataW.trod_int Tryz.underlying23 h0
  obtain ⟨m, hm, rfl, wm⟩ := DataW.trod_int Tryz.underlying3 h1
  obtain ⟨s, hs, rfl, ws⟩ := DataW.trod_string Tryz.underlying9 h2
  obtain ⟨f, hf, rfl, wf⟩ := DataW.trod_int Tryz.underlying24 h3
  simp only [List.cons.injEq, and_true] at hk hm hs hf
  subst hk hm hs hf
  exact ⟨⟨k, m, s, f⟩, rfl, rfl, rfl, wk, wm, ws, wf⟩
set_option maxRecDepth 100000 in
theorem shut_val {x : Val} (h : x.Ok) : DataW.Trod enc Tryz.prog w base spare held 26 x.v (valD x) [] := by
  exact shut_agg4 (enc := enc) (w := w) (base := base) (spare := spare) (held := held) (v0 := .int .i64 x.k) (v1 := .int .i64 x.n) (v2 := .string x.s) (v3 := .int .u64 x.f) (y0 := (.lit (.int .i64 x.k), [])) (y1 := (.lit (.int .i64 x.n), [])) (y2 := (.lit (.string x.s.data.toList), [])) (y3 := (.lit (.int .u64 x.f), [])) Tryz.underlying26 (by kernel_rfl) (by kernel_rfl)
    (shut_int Tryz.underlying23 h.k) (shut_int Tryz.underlying3 h.n) (Go.ChangeMaps.shut_string Tryz.underlying9 h.s) (shut_int Tryz.underlying24 h.f)
end
end Go.Proofs.YtfkghfmgeholeaaGreatDoor
