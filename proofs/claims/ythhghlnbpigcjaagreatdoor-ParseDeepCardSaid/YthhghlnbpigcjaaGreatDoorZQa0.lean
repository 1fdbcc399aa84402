/- The reference's tape on the heap; the walks of its at, sees, fail. -/
import Derived.Test.YthhghlnbpigcjaaGreatDoorZPb1
import Derived.Deep.QuietTactic
import Derived.BigQuiet
set_option linter.unusedVariables false
set_option linter.unusedSimpArgs false
namespace Go.Proofs.YthhghlnbpigcjaaGreatDoor
open Go.RowKit

/-- a tape: its tokens, how many are read, the end, how many are open, the fault's place -/
structure TpAt (w : World) (T : Nat) (l0 : List Tk) (i e : Nat) (d b : Int) : Prop where
  c0 : ∃ v, w.cell? ⟨T, 0, none⟩ = some v ∧ TSlB w T v l0
  c1 : w.cell? ⟨T, 1, none⟩ = some (.int .i64 (i : Int))
  c2 : w.cell? ⟨T, 2, none⟩ = some (.int .i64 (e : Int))
  c3 : w.cell? ⟨T, 3, none⟩ = some (.int .i64 d)
  c4 : w.cell? ⟨T, 4, none⟩ = some (.int .i64 b)
  z : ∀ o, w.frozen? ⟨T, o, none⟩ = false
  lt : T < w.heap.size
theorem TpAt.below {w w' : World} {T : Nat} {l0 : List Tk} {i e : Nat} {d b : Int} (h : TpAt w T l0 i e d b) (hb : Below w.heap.size w w') : TpAt w' T l0 i e d b where
  c0 := by
    obtain ⟨v, h1, h2⟩ := h.c0
    exact ⟨v, (hb.cell h.lt).trans h1, h2.but (But.of hb)⟩
  c1 := (hb.cell h.lt).trans h.c1
  c2 := (hb.cell h.lt).trans h.c2
  c3 := (hb.cell h.lt).trans h.c3
  c4 := (hb.cell h.lt).trans h.c4
  z := fun o => (hb.frozen h.lt).trans (h.z o)
  lt := Nat.lt_of_lt_of_le h.lt hb.size
theorem TpAt.size {w : World} {T : Nat} (k : Nat) (v : Value) (h : T < w.heap.size) : T < (w.setCell ⟨T, k, none⟩ v).heap.size := by simpa [World.setCell] using h
theorem TpAt.setI {w : World} {T : Nat} {l0 : List Tk} {i e : Nat} {d b : Int} (h : TpAt w T l0 i e d b) (i' : Nat) (I : Int) (hI : I = (i' : Int)) : TpAt (w.setCell ⟨T, 1, none⟩ (.int .i64 I)) T l0 i' e d b := by
  subst hI
  obtain ⟨⟨u, h1, h2⟩, c1, c2, c3, c4, z, lt⟩ := h
  exact ⟨⟨u, cell_off h1 (addr_ne T (by decide)), h2.but ((But.refl T w).set 1 _)⟩, World.cell?_setCell_same _ _ _ c1, cell_off c2 (addr_ne T (by decide)), cell_off c3 (addr_ne T (by decide)), cell_off c4 (addr_ne T (by decide)), fun o => (World.frozen?_setCell _ _ _ _).trans (z o), TpAt.size _ _ lt⟩
theorem TpAt.setD {w : World} {T : Nat} {l0 : List Tk} {i e : Nat} {d b : Int} (h : TpAt w T l0 i e d b) (d' : Int) : TpAt (w.setCell ⟨T, 3, none⟩ (.int .i64 d')) T l0 i e d' b := by
  obtain ⟨⟨u, h1, h2⟩, c1, c2, c3, c4, z, lt⟩ := h
  exact ⟨⟨u, cell_off h1 (addr_ne T (by decide)), h2.but ((But.refl T w).set 3 _)⟩, cell_off c1 (addr_ne T (by decide)), cell_off c2 (addr_ne T (by decide)), World.cell?_setCell_same _ _ _ c3, cell_off c4 (addr_ne T (by decide)), fun o => (World.frozen?_setCell _ _ _ _).trans (z o), TpAt.size _ _ lt⟩
theorem TpAt.setB {w : World} {T : Nat} {l0 : List Tk} {i e : Nat} {d b : Int} (h : TpAt w T l0 i e d b) (b' : Int) : TpAt (w.setCell ⟨T, 4, none⟩ (.int .i64 b')) T l0 i e d b' := by
  obtain ⟨⟨u, h1, h2⟩, c1, c2, c3, c4, z, lt⟩ := h
  exact ⟨⟨u, cell_off h1 (addr_ne T (by decide)), h2.but ((But.refl T w).set 4 _)⟩, cell_off c1 (addr_ne T (by decide)), cell_off c2 (addr_ne T (by decide)), cell_off c3 (addr_ne T (by decide)), World.cell?_setCell_same _ _ _ c4, fun o => (World.frozen?_setCell _ _ _ _).trans (z o), TpAt.size _ _ lt⟩
/-- the token that stands next, where one does -/
theorem TpAt.head {w : World} {T : Nat} {l0 : List Tk} {i e : Nat} {d b : Int} (h : TpAt w T l0 i e d b) {t : Tk} (ht : l0[i]? = some t) : ∃ g off c, w.cell? ⟨T, 0, none⟩ = some (.slice (some ⟨g, off, none⟩) l0.length c) ∧ HAt w g (off + i * 8) t := by
  obtain ⟨v, h1, h2⟩ := h.c0
  rcases h2 with ⟨-, e⟩ | ⟨g, off, c, rfl, -, -, hc⟩
  · subst e; simp at ht
  · refine ⟨g, off, c, h1, ?_⟩
    have f : ∀ k u, k < 8 → (encT1 t)[k]? = some u → w.cell? ⟨g, off + i * 8 + k, none⟩ = some u := fun k u hk hu => by
      have := hc (i * 8 + k) u ((encTs_get ht k hk).trans hu)
      rwa [← Nat.add_assoc] at this
    exact ⟨f 0 _ (by decide) rfl, f 1 _ (by decide) rfl, f 2 _ (by decide) rfl, f 3 _ (by decide) rfl, f 4 _ (by decide) rfl, f 5 _ (by decide) rfl, f 6 _ (by decide) rfl, f 7 _ (by decide) rfl⟩
theorem TpAt.form {w : World} {T : Nat} {l0 : List Tk} {i e : Nat} {d b : Int} (h : TpAt w T l0 i e d b) : ∃ a c, w.cell? ⟨T, 0, none⟩ = some (.slice a l0.length c) := by
  obtain ⟨v, h1, h2⟩ := h.c0
  rcases h2 with ⟨rfl, rfl⟩ | ⟨g, off, c, rfl, -⟩
  · exact ⟨none, 0, h1⟩
  · exact ⟨_, _, h1⟩
theorem drop_tk {l0 : List Tk} {i : Nat} {t : Tk} (h : l0[i]? = some t) : l0.drop i = t :: l0.drop (i + 1) := by
  have hlt : i < l0.length := by
    rcases Nat.lt_or_ge i l0.length with h1 | h1
    · exact h1
    · rw [List.getElem?_eq_none h1] at h; cases h
  rw [List.drop_eq_getElem_cons hlt]
  rw [List.getElem?_eq_getElem hlt] at h
  injection h with h
  rw [h]
set_option maxHeartbeats 8000000 in
set_option maxRecDepth 100000 in
theorem tat_any (w : World) (T : Nat) (l0 : List Tk) (i e : Nat) (d b : Int) (h : TpAt w T l0 i e d b) :
    Calls Tryz.prog 41 #[.pointer (some ⟨T, 0, none⟩)] w fun en w' => en = .returned (.int .i64 (pAt e (l0.drop i) : Int)) ∧ Below w.heap.size w w' := by
  have H := Lib.hid h
  have c1 := h.c1
  have hi0 : (0 : Int) ≤ (i : Int) := by omega
  have hit : ((i : Int)).toNat = i := by omega
  cases ht : l0[i]? with
  | none =>
    have hge : l0.length ≤ i := List.getElem?_eq_none_iff.1 ht
    have hp : pAt e (l0.drop i) = e := by rw [List.drop_eq_nil_of_le hge]; rfl
    obtain ⟨a, c, c0⟩ := h.form
    have c2 := h.c2
    have hd : decide ((i : Int) < (l0.length : Int)) = false := decide_eq_false (by omega)
    have hdn : ¬ i < l0.length := by omega
    have hdm : decide (i < l0.length) = false := decide_eq_false hdn
    rw [hp]
    generalize l0.length = N at c0 hd hdn hdm
    clear h ht hge hp H
    go_enter Tryz.func41, Tryz.ntmps41
    go_wp2_with fail
    go_quiet (fail)
    have c0' : (w.drewN nq).cell? ⟨T, 0, none⟩ = _ := c0
    have c2' : (w.drewN nq).cell? ⟨T, 2, none⟩ = _ := c2
    have hb := Lib.hid (below_drewN (Below.refl w.heap.size w) nq)
    generalize w.drewN nq = W at c0' c2' hb ⊢
    go_wp2_with fail
    go_ret
    exact ⟨rfl, hb.out⟩
  | some t =>
    have hlt : i < l0.length := by
      rcases Nat.lt_or_ge i l0.length with h1 | h1
      · exact h1
      · rw [List.getElem?_eq_none h1] at ht; cases ht
    have hp : pAt e (l0.drop i) = t.pos := by rw [drop_tk ht]; rfl
    obtain ⟨g, off, c, c0, hh⟩ := h.head ht
    have k1 := hh.c1
    have hd : decide ((i : Int) < (l0.length : Int)) = true := decide_eq_true (by omega)
    have hdn : i < l0.length := hlt
    have hdm : decide (i < l0.length) = true := decide_eq_true hlt
    have hlti : (i : Int) < (l0.length : Int) := by omega
    rw [hp]
    generalize l0.length = N at c0 hd hlti hdn hdm
    clear h ht hlt hp H hh
    go_enter Tryz.func41, Tryz.ntmps41
    go_wp2_with fail
    go_quiet (fail)
    have c0' : (w.drewN nq).cell? ⟨T, 0, none⟩ = _ := c0
    have c1' : (w.drewN nq).cell? ⟨T, 1, none⟩ = _ := c1
    have k1' : (w.drewN nq).cell? ⟨g, off + i * 8 + 1, none⟩ = _ := k1
    have hb := Lib.hid (below_drewN (Below.refl w.heap.size w) nq)
    clear c0 c1 k1
    generalize w.drewN nq = W at c0' c1' k1' hb ⊢
    go_wp2_with fail
    go_quiet (fail)
    have hb2 := Lib.hid (below_drewN hb.out nq)
    go_wp2_with fail
    go_ret
    exact ⟨rfl, hb2.out⟩
end Go.Proofs.YthhghlnbpigcjaaGreatDoor
