/- Masks among a law's arguments: opened and shut. -/
import Derived.Test.YtjkkmepagdhaeaaGreatDoorVg0
set_option linter.unusedVariables false
set_option linter.unusedSimpArgs false
namespace Go.Proofs.YtjkkmepagdhaeaaGreatDoor
open Go.ChangeShapes Go.WideShapes Go.ChangeAt Go.RowKit Go.Joins

structure MOk (mk mn : Int) : Prop where
  k : (Lit.int .i64 mk).wf = true
  n : (Lit.int .i64 mn).wf = true
section
variable {H : Type} {enc : TypeId × Value → H} {w : World} {base : Nat} {spare : Nat → Bool} {held : Bool}
def maskD (mk mn : Int) : DataW H := .agg [.lit (.int .i64 mk), .lit (.int .i64 mn)]
set_option maxRecDepth 100000 in
theorem open_mask {r : Reach} {b0 : Nat} {v : Value} {d : DataW H} {p : List MemPlace} (hv : Value.okWide Tryz.prog w r b0 45 v) (h : DataW.Trod enc Tryz.prog w base spare held 45 v d p) :
    ∃ mk mn : Int, v = .agg #[.int .i64 mk, .int .i64 mn] ∧ d = maskD mk mn ∧ p = [] ∧ MOk mk mn := by
  obtain ⟨v0, v1, y0, y1, n, rfl, rfl, rfl, h0, h1⟩ := open_agg2 Tryz.underlying45 (by kernel_rfl) (by kernel_rfl) hv h
  obtain ⟨k, hk, rfl, wk⟩ := DataW.trod_int Tryz.underlying43 h0
  obtain ⟨m, hm, rfl, wm⟩ := DataW.trod_int Tryz.underlying3 h1
  simp only [List.cons.injEq, and_true] at hk hm
  subst hk hm
  exact ⟨k, m, rfl, rfl, rfl, wk, wm⟩
set_option maxRecDepth 100000 in
theorem shut_mask {mk mn : Int} (h : MOk mk mn) : DataW.Trod enc Tryz.prog w base spare held 45 (.agg #[.int .i64 mk, .int .i64 mn]) (maskD mk mn) [] := by
  exact shut_agg2 (enc := enc) (w := w) (base := base) (spare := spare) (held := held) (v0 := .int .i64 mk) (v1 := .int .i64 mn) (y0 := (.lit (.int .i64 mk), [])) (y1 := (.lit (.int .i64 mn), [])) Tryz.underlying45 (by kernel_rfl) (by kernel_rfl)
    (shut_int Tryz.underlying43 h.k) (shut_int Tryz.underlying3 h.n)
end
end Go.Proofs.YtjkkmepagdhaeaaGreatDoor
