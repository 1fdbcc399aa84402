/- The walk of the law's do. -/
import Derived.Test.YtdblpcfkiiliiaaC7
set_option linter.unusedVariables false
set_option linter.unusedSimpArgs false
namespace Go.Proofs.Ytdblpcfkiiliiaa
open Go.RowKit

/-- which act a number names -/
def kd (kind : Int) : Int := (IntKind.u64.wrap kind).tmod 5
/-- an act upon a part -/
def act (p : Pt) (k page : Int) : Pt × Bool × Int :=
  if (k == 0) = true then touch p page
  else if (k == 1) = true then ((hold p page).1, (hold p page).2, 0)
  else if (k == 2) = true then ((release p page).1, (release p page).2, 0)
  else if (k == 3) = true then ((drop p page).1, (drop p page).2, 0)
  else (p, has p page, 0)
theorem act_ok {b : Int} {p : Pt} (h : p.ok b) (hb : 0 ≤ b) (k page : Int) : (act p k page).1.ok (b + 1) := by
  unfold act
  split
  · exact touch_ok h hb page
  · split
    · exact hold_ok h hb page
    · split
      · exact release_ok h hb page
      · split
        · exact drop_ok h hb page
        · exact h.mono (by omega)

theorem do_in (w : World) (c a cap : Nat) (pb fb : Nat → Nat) (ps : List Pt) (h : CaAt w c a cap pb fb ps) (t : Nat) (ht : t < ps.length) (T : Int) (hT : T = (t : Int)) (kind page : Int) (hok : ps[t].ok 1000000) :
    Calls Try.prog 18 #[.pointer (some ⟨c, 0, none⟩), .agg #[.int .i64 kind, .int .i64 T, .int .i64 page]] w fun e w' =>
      e = .returned (.tuple #[.bool (act ps[t] (kd kind) page).2.1, .int .i64 (act ps[t] (kd kind) page).2.2]) ∧ CaAt w' c a cap pb fb (ps.set t (act ps[t] (kd kind) page).1) ∧ Upd (Of (pb t) (fb t)) w w' := by
  have H := Lib.hid (h.below (w' := w.alloc (.cells #[.int .i64 kind, .int .i64 T, .int .i64 page] 43)) ((Below.refl _ _).alloc (Nat.le_refl _) _)); clear h
  have hu : Upd (Of (pb t) (fb t)) w (w.alloc (.cells #[.int .i64 kind, .int .i64 T, .int .i64 page] 43)) := (Upd.refl _ _).alloc _
  have HT := Lib.hid hT; clear hT
  go_enter Try.func18, Try.ntmps18
  go_wp2_with fail
  · have e0 : ((IntKind.u64.wrap kind).tmod 5 == 0) = true := by assumption
    refine (touch_any _ c a cap pb fb ps H.out t ht T HT.out page hok).mono ?_
    rintro e w' ⟨rfl, h1, h2⟩
    have H1 := Lib.hid h1; have H2 := Lib.hid (hu.trans h2); clear h1 h2 hu
    go_wp2_with fail
    go_ret2
    have ea : act ps[t] (kd kind) page = touch ps[t] page := by unfold act kd; rw [if_pos e0]
    rw [ea]
    exact ⟨rfl, H1.out, H2.out⟩
  · have e0 : ((IntKind.u64.wrap kind).tmod 5 == 0) = false := by assumption
    have e1 : ((IntKind.u64.wrap kind).tmod 5 == 1) = true := by assumption
    refine (hold_any _ c a cap pb fb ps H.out t ht T HT.out page hok).mono ?_
    rintro e w' ⟨rfl, h1, h2⟩
    have H1 := Lib.hid h1; have H2 := Lib.hid (hu.trans h2); clear h1 h2 hu
    go_wp2_with fail
    go_ret2
    have ea : act ps[t] (kd kind) page = ((hold ps[t] page).1, (hold ps[t] page).2, 0) := by unfold act kd; rw [if_neg (by simp [e0]), if_pos e1]
    rw [ea]
    exact ⟨rfl, H1.out, H2.out⟩
  · have e0 : ((IntKind.u64.wrap kind).tmod 5 == 0) = false := by assumption
    have e1 : ((IntKind.u64.wrap kind).tmod 5 == 1) = false := by assumption
    have e2 : ((IntKind.u64.wrap kind).tmod 5 == 2) = true := by assumption
    refine (release_any _ c a cap pb fb ps H.out t ht T HT.out page hok).mono ?_
    rintro e w' ⟨rfl, h1, h2⟩
    have H1 := Lib.hid h1; have H2 := Lib.hid (hu.trans h2); clear h1 h2 hu
    go_wp2_with fail
    go_ret2
    have ea : act ps[t] (kd kind) page = ((release ps[t] page).1, (release ps[t] page).2, 0) := by unfold act kd; rw [if_neg (by simp [e0]), if_neg (by simp [e1]), if_pos e2]
    rw [ea]
    exact ⟨rfl, H1.out, H2.out⟩
  · have e0 : ((IntKind.u64.wrap kind).tmod 5 == 0) = false := by assumption
    have e1 : ((IntKind.u64.wrap kind).tmod 5 == 1) = false := by assumption
    have e2 : ((IntKind.u64.wrap kind).tmod 5 == 2) = false := by assumption
    have e3 : ((IntKind.u64.wrap kind).tmod 5 == 3) = true := by assumption
    refine (drop_any _ c a cap pb fb ps H.out t ht T HT.out page).mono ?_
    rintro e w' ⟨rfl, h1, h2⟩
    have H1 := Lib.hid h1; have H2 := Lib.hid (hu.trans h2); clear h1 h2 hu
    go_wp2_with fail
    go_ret2
    have ea : act ps[t] (kd kind) page = ((drop ps[t] page).1, (drop ps[t] page).2, 0) := by unfold act kd; rw [if_neg (by simp [e0]), if_neg (by simp [e1]), if_neg (by simp [e2]), if_pos e3]
    rw [ea]
    exact ⟨rfl, H1.out, H2.out⟩
  · have e0 : ((IntKind.u64.wrap kind).tmod 5 == 0) = false := by assumption
    have e1 : ((IntKind.u64.wrap kind).tmod 5 == 1) = false := by assumption
    have e2 : ((IntKind.u64.wrap kind).tmod 5 == 2) = false := by assumption
    have e3 : ((IntKind.u64.wrap kind).tmod 5 == 3) = false := by assumption
    refine (has_at _ c a cap pb fb ps H.out t ht T HT.out page).mono ?_
    rintro e w' ⟨rfl, h1⟩
    have H1 := Lib.hid (H.out.below h1); have H2 := Lib.hid (hu.trans (Upd.of_below h1)); clear h1 hu
    go_wp2_with fail
    go_ret2
    have ea : act ps[t] (kd kind) page = (ps[t], has ps[t] page, 0) := by unfold act kd; rw [if_neg (by simp [e0]), if_neg (by simp [e1]), if_neg (by simp [e2]), if_neg (by simp [e3])]
    rw [ea]
    exact ⟨rfl, by rw [List.set_getElem_self]; exact H1.out, H2.out⟩

/-- the error of an act of no tenant -/
def outErr (kind : Int) : Int := if (kd kind == 0) = true then 2 else 0
theorem do_out (w : World) (c : Nat) (T kind page : Int) (h : ∀ W, Below w.heap.size w W → ∀ p, Seek W c T p) :
    Calls Try.prog 18 #[.pointer (some ⟨c, 0, none⟩), .agg #[.int .i64 kind, .int .i64 T, .int .i64 page]] w fun e w' =>
      e = .returned (.tuple #[.bool false, .int .i64 (outErr kind)]) ∧ Below w.heap.size w w' := by
  have hs := h (w.alloc (.cells #[.int .i64 kind, .int .i64 T, .int .i64 page] 43)) ((Below.refl _ _).alloc (Nat.le_refl _) _)
  have H := Lib.hid (hs page); clear h hs
  have hu : Below w.heap.size w (w.alloc (.cells #[.int .i64 kind, .int .i64 T, .int .i64 page] 43)) := (Below.refl _ _).alloc (Nat.le_refl _) _
  go_enter Try.func18, Try.ntmps18
  go_wp2_with fail
  · have e0 : ((IntKind.u64.wrap kind).tmod 5 == 0) = true := by assumption
    refine (touch_arg _ c T page H.out).mono ?_
    rintro e w' ⟨rfl, h1⟩
    have H1 := Lib.hid (hu.trans (h1.mono (by simp))); clear h1 hu
    go_wp2_with fail
    go_ret2
    have ea : outErr kind = 2 := by unfold outErr kd; rw [if_pos e0]
    rw [ea]
    exact ⟨rfl, H1.out⟩
  all_goals have e0 : ((IntKind.u64.wrap kind).tmod 5 == 0) = false := by assumption
  all_goals have ea : outErr kind = 0 := by unfold outErr kd; rw [if_neg (by simp [e0])]
  all_goals have Ea := Lib.hid ea
  all_goals clear ea
  · refine (hold_no _ c T page H.out).mono ?_
    rintro e w' ⟨rfl, h1⟩
    have H1 := Lib.hid (hu.trans (h1.mono (by simp))); clear h1 hu
    go_wp2_with fail
    go_ret2
    rw [Ea.out]
    exact ⟨rfl, H1.out⟩
  · refine (release_no _ c T page H.out).mono ?_
    rintro e w' ⟨rfl, h1⟩
    have H1 := Lib.hid (hu.trans (h1.mono (by simp))); clear h1 hu
    go_wp2_with fail
    go_ret2
    rw [Ea.out]
    exact ⟨rfl, H1.out⟩
  · refine (drop_no _ c T page H.out).mono ?_
    rintro e w' ⟨rfl, h1⟩
    have H1 := Lib.hid (hu.trans (h1.mono (by simp))); clear h1 hu
    go_wp2_with fail
    go_ret2
    rw [Ea.out]
    exact ⟨rfl, H1.out⟩
  · refine (has_no _ c T page H.out).mono ?_
    rintro e w' ⟨rfl, h1⟩
    have H1 := Lib.hid (hu.trans (h1.mono (by simp))); clear h1 hu
    go_wp2_with fail
    go_ret2
    rw [Ea.out]
    exact ⟨rfl, H1.out⟩
end Go.Proofs.Ytdblpcfkiiliiaa
