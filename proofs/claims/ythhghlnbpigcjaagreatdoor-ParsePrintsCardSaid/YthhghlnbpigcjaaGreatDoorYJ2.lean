/- Joined texts: Qa0; Pa9; Qa1; Qa2. -/
import Derived.Test.YthhghlnbpigcjaaGreatDoorYJ1
import Derived.Deep.QuietTactic
import Derived.BigQuiet
import Derived.Test.YthhghlnbpigcjaaGreatDoorYGS
import Derived.Test.YthhghlnbpigcjaaGreatDoorYPc3
import Derived.RegionTactic
import Derived.BigRegion
set_option linter.unusedVariables false
set_option linter.unusedSimpArgs false
namespace Go.Proofs.YthhghlnbpigcjaaGreatDoor
open Go.RowKit

/-- a tape: its tokens, how many are read, the end, how many are open, the fault's place -/
structure TpAt (w : World) (T : Nat) (l0 : List Tk) (i e : Nat) (d b : Int) : Prop where
  c0 : ∃ v, w.cell? ⟨T, 0, none⟩ = some v ∧ TSlB w T v l0
  c1 : w.cell? ⟨T, 1, none⟩ = some (.int .i64 (i : Int))
  c2 : w.cell? ⟨T, 2, none⟩ = some (.int .i64 (e : Int))
  c3 : w.cell? ⟨T, 3, none⟩ = some (.int .i64 d)
  c4 : w.cell? ⟨T, 4, none⟩ = some (.int .i64 b)
  z : ∀ o, w.frozen? ⟨T, o, none⟩ = false
  lt : T < w.heap.size
theorem TpAt.below {w w' : World} {T : Nat} {l0 : List Tk} {i e : Nat} {d b : Int} (h : TpAt w T l0 i e d b) (hb : Below w.heap.size w w') : TpAt w' T l0 i e d b where
  c0 := by
    obtain ⟨v, h1, h2⟩ := h.c0
    exact ⟨v, (hb.cell h.lt).trans h1, h2.but (But.of hb)⟩
  c1 := (hb.cell h.lt).trans h.c1
  c2 := (hb.cell h.lt).trans h.c2
  c3 := (hb.cell h.lt).trans h.c3
  c4 := (hb.cell h.lt).trans h.c4
  z := fun o => (hb.frozen h.lt).trans (h.z o)
  lt := Nat.lt_of_lt_of_le h.lt hb.size
theorem TpAt.size {w : World} {T : Nat} (k : Nat) (v : Value) (h : T < w.heap.size) : T < (w.setCell ⟨T, k, none⟩ v).heap.size := by simpa [World.setCell] using h
theorem TpAt.setI {w : World} {T : Nat} {l0 : List Tk} {i e : Nat} {d b : Int} (h : TpAt w T l0 i e d b) (i' : Nat) (I : Int) (hI : I = (i' : Int)) : TpAt (w.setCell ⟨T, 1, none⟩ (.int .i64 I)) T l0 i' e d b := by
  subst hI
  obtain ⟨⟨u, h1, h2⟩, c1, c2, c3, c4, z, lt⟩ := h
  exact ⟨⟨u, cell_off h1 (addr_ne T (by decide)), h2.but ((But.refl T w).set 1 _)⟩, World.cell?_setCell_same _ _ _ c1, cell_off c2 (addr_ne T (by decide)), cell_off c3 (addr_ne T (by decide)), cell_off c4 (addr_ne T (by decide)), fun o => (World.frozen?_setCell _ _ _ _).trans (z o), TpAt.size _ _ lt⟩
theorem TpAt.setD {w : World} {T : Nat} {l0 : List Tk} {i e : Nat} {d b : Int} (h : TpAt w T l0 i e d b) (d' : Int) : TpAt (w.setCell ⟨T, 3, none⟩ (.int .i64 d')) T l0 i e d' b := by
  obtain ⟨⟨u, h1, h2⟩, c1, c2, c3, c4, z, lt⟩ := h
  exact ⟨⟨u, cell_off h1 (addr_ne T (by decide)), h2.but ((But.refl T w).set 3 _)⟩, cell_off c1 (addr_ne T (by decide)), cell_off c2 (addr_ne T (by decide)), World.cell?_setCell_same _ _ _ c3, cell_off c4 (addr_ne T (by decide)), fun o => (World.frozen?_setCell _ _ _ _).trans (z o), TpAt.size _ _ lt⟩
theorem TpAt.setB {w : World} {T : Nat} {l0 : List Tk} {i e : Nat} {d b : Int} (h : TpAt w T l0 i e d b) (b' : Int) : TpAt (w.setCell ⟨T, 4, none⟩ (.int .i64 b')) T l0 i e d b' := by
  obtain ⟨⟨u, h1, h2⟩, c1, c2, c3, c4, z, lt⟩ := h
  exact ⟨⟨u, cell_off h1 (addr_ne T (by decide)), h2.but ((But.refl T w).set 4 _)⟩, cell_off c1 (addr_ne T (by decide)), cell_off c2 (addr_ne T (by decide)), cell_off c3 (addr_ne T (by decide)), World.cell?_setCell_same _ _ _ c4, fun o => (World.frozen?_setCell _ _ _ _).trans (z o), TpAt.size _ _ lt⟩
/-- the token that stands next, where one does -/
theorem TpAt.head {w : World} {T : Nat} {l0 : List Tk} {i e : Nat} {d b : Int} (h : TpAt w T l0 i e d b) {t : Tk} (ht : l0[i]? = some t) : ∃ g off c, w.cell? ⟨T, 0, none⟩ = some (.slice (some ⟨g, off, none⟩) l0.length c) ∧ HAt w g (off + i * 8) t := by
  obtain ⟨v, h1, h2⟩ := h.c0
  rcases h2 with ⟨-, e⟩ | ⟨g, off, c, rfl, -, -, hc⟩
  · subst e; simp at ht
  · refine ⟨g, off, c, h1, ?_⟩
    have f : ∀ k u, k < 8 → (encT1 t)[k]? = some u → w.cell? ⟨g, off + i * 8 + k, none⟩ = some u := fun k u hk hu => by
      have := hc (i * 8 + k) u ((encTs_get ht k hk).trans hu)
      rwa [← Nat.add_assoc] at this
    exact ⟨f 0 _ (by decide) rfl, f 1 _ (by decide) rfl, f 2 _ (by decide) rfl, f 3 _ (by decide) rfl, f 4 _ (by decide) rfl, f 5 _ (by decide) rfl, f 6 _ (by decide) rfl, f 7 _ (by decide) rfl⟩
theorem TpAt.form {w : World} {T : Nat} {l0 : List Tk} {i e : Nat} {d b : Int} (h : TpAt w T l0 i e d b) : ∃ a c, w.cell? ⟨T, 0, none⟩ = some (.slice a l0.length c) := by
  obtain ⟨v, h1, h2⟩ := h.c0
  rcases h2 with ⟨rfl, rfl⟩ | ⟨g, off, c, rfl, -⟩
  · exact ⟨none, 0, h1⟩
  · exact ⟨_, _, h1⟩
theorem drop_tk {l0 : List Tk} {i : Nat} {t : Tk} (h : l0[i]? = some t) : l0.drop i = t :: l0.drop (i + 1) := by
  have hlt : i < l0.length := by
    rcases Nat.lt_or_ge i l0.length with h1 | h1
    · exact h1
    · rw [List.getElem?_eq_none h1] at h; cases h
  rw [List.drop_eq_getElem_cons hlt]
  rw [List.getElem?_eq_getElem hlt] at h
  injection h with h
  rw [h]
set_option maxHeartbeats 8000000 in
set_option maxRecDepth 100000 in
theorem tat_any (w : World) (T : Nat) (l0 : List Tk) (i e : Nat) (d b : Int) (h : TpAt w T l0 i e d b) :
    Calls Tryz.prog 41 #[.pointer (some ⟨T, 0, none⟩)] w fun en w' => en = .returned (.int .i64 (pAt e (l0.drop i) : Int)) ∧ Below w.heap.size w w' := by
  have H := Lib.hid h
  have c1 := h.c1
  have hi0 : (0 : Int) ≤ (i : Int) := by omega
  have hit : ((i : Int)).toNat = i := by omega
  cases ht : l0[i]? with
  | none =>
    have hge : l0.length ≤ i := List.getElem?_eq_none_iff.1 ht
    have hp : pAt e (l0.drop i) = e := by rw [List.drop_eq_nil_of_le hge]; rfl
    obtain ⟨a, c, c0⟩ := h.form
    have c2 := h.c2
    have hd : decide ((i : Int) < (l0.length : Int)) = false := decide_eq_false (by omega)
    have hdn : ¬ i < l0.length := by omega
    have hdm : decide (i < l0.length) = false := decide_eq_false hdn
    rw [hp]
    generalize l0.length = N at c0 hd hdn hdm
    clear h ht hge hp H
    go_enter Tryz.func41, Tryz.ntmps41
    go_wp2_with fail
    go_quiet (fail)
    have c0' : (w.drewN nq).cell? ⟨T, 0, none⟩ = _ := c0
    have c2' : (w.drewN nq).cell? ⟨T, 2, none⟩ = _ := c2
    have hb := Lib.hid (below_drewN (Below.refl w.heap.size w) nq)
    generalize w.drewN nq = W at c0' c2' hb ⊢
    go_wp2_with fail
    go_ret
    exact ⟨rfl, hb.out⟩
  | some t =>
    have hlt : i < l0.length := by
      rcases Nat.lt_or_ge i l0.length with h1 | h1
      · exact h1
      · rw [List.getElem?_eq_none h1] at ht; cases ht
    have hp : pAt e (l0.drop i) = t.pos := by rw [drop_tk ht]; rfl
    obtain ⟨g, off, c, c0, hh⟩ := h.head ht
    have k1 := hh.c1
    have hd : decide ((i : Int) < (l0.length : Int)) = true := decide_eq_true (by omega)
    have hdn : i < l0.length := hlt
    have hdm : decide (i < l0.length) = true := decide_eq_true hlt
    have hlti : (i : Int) < (l0.length : Int) := by omega
    rw [hp]
    generalize l0.length = N at c0 hd hlti hdn hdm
    clear h ht hlt hp H hh
    go_enter Tryz.func41, Tryz.ntmps41
    go_wp2_with fail
    go_quiet (fail)
    have c0' : (w.drewN nq).cell? ⟨T, 0, none⟩ = _ := c0
    have c1' : (w.drewN nq).cell? ⟨T, 1, none⟩ = _ := c1
    have k1' : (w.drewN nq).cell? ⟨g, off + i * 8 + 1, none⟩ = _ := k1
    have hb := Lib.hid (below_drewN (Below.refl w.heap.size w) nq)
    clear c0 c1 k1
    generalize w.drewN nq = W at c0' c1' k1' hb ⊢
    go_wp2_with fail
    go_quiet (fail)
    have hb2 := Lib.hid (below_drewN hb.out nq)
    go_wp2_with fail
    go_ret
    exact ⟨rfl, hb2.out⟩
end Go.Proofs.YthhghlnbpigcjaaGreatDoor
set_option linter.unusedVariables false
set_option linter.unusedSimpArgs false
namespace Go.Proofs.YthhghlnbpigcjaaGreatDoor
open Go.RowKit

/-- only columns and words have a text -/
def Mute (l : List Tk) : Prop := ∀ t ∈ l, t.k = 0 ∨ t.k = 3 ∨ t.text = []
theorem tokL_mute {l : List UInt8} {tk : Tk} {n : Nat} (h : tokL l = some (tk, n)) : tk.k = 0 ∨ tk.k = 3 ∨ tk.text = [] := by
  cases l with
  | nil => cases h
  | cons c t =>
    rw [tokL_cons] at h
    repeat' split at h
    all_goals first | (cases h; done) | skip
    all_goals
      simp only [Option.some.injEq, Prod.mk.injEq] at h
      obtain ⟨rfl, -⟩ := h
      first
        | exact .inr (.inr rfl)
        | exact .inl rfl
        | exact .inr (.inl rfl)
theorem lexF_mute (f : Nat) : ∀ (p : Nat) (l : List UInt8) (x : List Tk) (q : Nat), lexF f p l = (some x, q) → Mute x := by
  induction f with
  | zero => intro p l x q h; cases h; intro t ht; cases ht
  | succ f ih =>
    intro p l x q h
    cases l with
    | nil => cases h; intro t ht; cases ht
    | cons c t =>
      by_cases hc : c = 32
      · subst hc
        rw [lexF_blank] at h
        exact ih _ _ _ _ h
      · rw [lexF_tok f p c t hc] at h
        cases ht : tokL (c :: t) with
        | none => rw [ht] at h; cases h
        | some z =>
          obtain ⟨tk, n⟩ := z
          rw [ht] at h
          simp only at h
          cases hr : lexF f (p + n) ((c :: t).drop n) with
          | mk r q2 =>
            rw [hr] at h
            cases r with
            | none => cases h
            | some r =>
              simp only [Prod.mk.injEq, Option.some.injEq] at h
              obtain ⟨rfl, -⟩ := h
              intro u hu
              rcases List.mem_cons.1 hu with rfl | hu
              · exact tokL_mute (tk := tk) ht
              · exact ih _ _ _ _ hr u hu
theorem lexL_mute {s : List UInt8} {x : List Tk} {q : Nat} (h : lexL s = (some x, q)) : Mute x := by
  unfold lexL at h
  split at h
  · cases h
  · exact lexF_mute _ _ _ _ _ h
theorem Mute.drop {l : List Tk} (h : Mute l) (i : Nat) : Mute (l.drop i) := fun t ht => h t (List.mem_of_mem_drop ht)
theorem Mute.tail {l : List Tk} (h : Mute l) : Mute l.tail := fun t ht => h t (List.mem_of_mem_tail ht)
def seesB (k : Int) (s : List UInt8) : List Tk → Bool
  | [] => false
  | t :: _ => t.k == k && (k != 3 || t.text == s)
theorem sees_word (s : List UInt8) (l : List Tk) : seesB 3 s l = isTok 3 s l := by
  cases l with
  | nil => rfl
  | cons t l => rfl
theorem sees_kind {k : Int} (h0 : k ≠ 0) (h3 : k ≠ 3) {l : List Tk} (h : Mute l) : seesB k [] l = isTok k [] l := by
  cases l with
  | nil => rfl
  | cons t l =>
    have ht := h t (by simp)
    have e3 : (k != 3) = true := bne_iff_ne.2 h3
    show (t.k == k && (k != 3 || t.text == [])) = (t.k == k && t.text == [])
    rw [e3, Bool.true_or, Bool.and_true]
    by_cases hk : t.k = k
    · rcases ht with h1 | h1 | h1
      · exact absurd (hk.symm.trans h1) h0
      · exact absurd (hk.symm.trans h1) h3
      · rw [h1]; simp
    · have : (t.k == k) = false := beq_eq_false_iff_ne.2 hk
      rw [this]; rfl
end Go.Proofs.YthhghlnbpigcjaaGreatDoor
set_option linter.unusedVariables false
set_option linter.unusedSimpArgs false
namespace Go.Proofs.YthhghlnbpigcjaaGreatDoor
open Go.RowKit

set_option maxHeartbeats 8000000 in
set_option maxRecDepth 100000 in
theorem tsees_bad (w : World) (T : Nat) (l0 : List Tk) (i e : Nat) (d b : Int) (hb : 0 ≤ b) (h : TpAt w T l0 i e d b) (k : Int) (s : List UInt8) :
    Calls Tryz.prog 40 #[.pointer (some ⟨T, 0, none⟩), .int .i64 k, .string ⟨s.toArray⟩] w fun en w' => en = .returned (.bool false) ∧ Below w.heap.size w w' := by
  have c4 := h.c4
  have hd : decide (b < 0) = false := decide_eq_false (by omega)
  clear h
  go_enter Tryz.func40, Tryz.ntmps40
  go_wp2_with fail
  go_quiet (fail)
  have hb2 := Lib.hid (below_drewN (Below.refl w.heap.size w) nq)
  go_wp2_with fail
  go_ret
  exact ⟨rfl, hb2.out⟩
set_option maxHeartbeats 8000000 in
set_option maxRecDepth 100000 in
theorem tsees_drew (w : World) (T : Nat) (l0 : List Tk) (i e : Nat) (d b : Int) (hb : b < 0) (h : TpAt w T l0 i e d b) (k : Int) (s : List UInt8) :
    Calls Tryz.prog 40 #[.pointer (some ⟨T, 0, none⟩), .int .i64 k, .string ⟨s.toArray⟩] w fun en w' => en = .returned (.bool (seesB k s (l0.drop i))) ∧ ∃ m, w' = w.drewN m := by
  have c4 := h.c4
  have hdb : decide (b < 0) = true := decide_eq_true hb
  have c1 := h.c1
  have hi0 : (0 : Int) ≤ (i : Int) := by omega
  have hit : ((i : Int)).toNat = i := by omega
  cases ht : l0[i]? with
  | none =>
    have hge : l0.length ≤ i := List.getElem?_eq_none_iff.1 ht
    have hp : seesB k s (l0.drop i) = false := by rw [List.drop_eq_nil_of_le hge]; rfl
    obtain ⟨a, c, c0⟩ := h.form
    have hd : decide ((i : Int) < (l0.length : Int)) = false := decide_eq_false (by omega)
    have hdn : ¬ i < l0.length := by omega
    have hdm : decide (i < l0.length) = false := decide_eq_false hdn
    rw [hp]
    generalize l0.length = N at c0 hd hdn hdm
    clear h ht hge hp
    go_enter Tryz.func40, Tryz.ntmps40
    go_wp2_with fail
    go_quiet (fail)
    go_wp2_with fail
    go_ret
    exact ⟨rfl, _, rfl⟩
  | some t =>
    have hlt : i < l0.length := by
      rcases Nat.lt_or_ge i l0.length with h1 | h1
      · exact h1
      · rw [List.getElem?_eq_none h1] at ht; cases ht
    have hp : seesB k s (l0.drop i) = (t.k == k && (k != 3 || t.text == s)) := by rw [drop_tk ht]; rfl
    obtain ⟨g, off, c, c0, hh⟩ := h.head ht
    have k0 := hh.c0
    have k2 := hh.c2
    have hd : decide ((i : Int) < (l0.length : Int)) = true := decide_eq_true (by omega)
    have hdn : i < l0.length := hlt
    have hdm : decide (i < l0.length) = true := decide_eq_true hlt
    have hlti : (i : Int) < (l0.length : Int) := by omega
    rw [hp]
    generalize l0.length = N at c0 hd hlti hdn hdm
    clear h ht hlt hp hh
    cases e1 : (t.k == k) with
    | false =>
      go_enter Tryz.func40, Tryz.ntmps40
      go_wp2_with fail
      go_quiet (fail)
      go_wp2_with fail
      go_ret
      exact ⟨rfl, _, rfl⟩
    | true =>
      cases e3 : (k != 3) with
      | true =>
        go_enter Tryz.func40, Tryz.ntmps40
        go_wp2_with fail
        go_quiet (fail)
        go_wp2_with fail
        go_ret
        exact ⟨rfl, _, rfl⟩
      | false =>
        cases e2 : (t.text == s) with
        | true =>
          have e2' : (t.text = s) = True := by simp [beq_iff_eq.1 e2]
          go_enter Tryz.func40, Tryz.ntmps40
          go_wp2_with fail
          go_quiet (fail)
          go_wp2_with fail
          go_ret
          exact ⟨by simp [beq_iff_eq.1 e2], _, rfl⟩
        | false =>
          have e2' : ¬ t.text = s := beq_eq_false_iff_ne.1 e2
          go_enter Tryz.func40, Tryz.ntmps40
          go_wp2_with fail
          go_quiet (fail)
          go_wp2_with fail
          go_ret
          exact ⟨by simp [e2'], _, rfl⟩
theorem tsees_any (w : World) (T : Nat) (l0 : List Tk) (i e : Nat) (d b : Int) (hb : b < 0) (h : TpAt w T l0 i e d b) (k : Int) (s : List UInt8) :
    Calls Tryz.prog 40 #[.pointer (some ⟨T, 0, none⟩), .int .i64 k, .string ⟨s.toArray⟩] w fun en w' => en = .returned (.bool (seesB k s (l0.drop i))) ∧ Below w.heap.size w w' :=
  (tsees_drew w T l0 i e d b hb h k s).mono fun en w' hh => ⟨hh.1, by obtain ⟨-, m, rfl⟩ := hh; exact below_drewN (Below.refl _ w) m⟩
abbrev zval : Value := .agg #[.int .i64 0, .int .i64 0, .string ⟨#[]⟩, .int .i64 0, .int .i64 0, .string ⟨#[]⟩, .int .u64 0, .int .i64 0, .slice none 0 0]
theorem TpAt.off {w : World} {T b' : Nat} {l0 : List Tk} {i e : Nat} {d b : Int} (h : TpAt w T l0 i e d b) (hb : T < b') (o : Nat) (v : Value) : TpAt (w.setCell ⟨b', o, none⟩ v) T l0 i e d b := by
  obtain ⟨⟨u, h1, h2⟩, c1, c2, c3, c4, z, lt⟩ := h
  have ne : b' ≠ T := by omega
  refine ⟨⟨u, cell_off h1 (addr_block_ne ne _ _), ?_⟩, cell_off c1 (addr_block_ne ne _ _), cell_off c2 (addr_block_ne ne _ _), cell_off c3 (addr_block_ne ne _ _), cell_off c4 (addr_block_ne ne _ _), fun o => (World.frozen?_setCell _ _ _ _).trans (z o), by simpa [World.setCell] using lt⟩
  rcases h2 with h | ⟨g, off, c, e1, e2, ⟨e3, cur, e5⟩, e4⟩
  · exact .inl h
  · have hg : b' ≠ g := by omega
    exact .inr ⟨g, off, c, e1, e2, ⟨e3, cur, (Below.heap_setCell w ⟨b', o, none⟩ v g (Ne.symm hg)).trans e5⟩, fun j u hj => cell_off (e4 j u hj) (addr_block_ne hg _ _)⟩
theorem TpAt.put9 {W : World} {T b' : Nat} {l0 : List Tk} {i e : Nat} {d b : Int} (h : TpAt W T l0 i e d b) (hb : T < b') (v0 v1 v2 v3 v4 v5 v6 v7 v8 : Value) : TpAt (st9 W b' v0 v1 v2 v3 v4 v5 v6 v7 v8) T l0 i e d b :=
  (((((((((h.off hb _ _).off hb _ _).off hb _ _).off hb _ _).off hb _ _).off hb _ _).off hb _ _).off hb _ _).off hb _ _)
set_option maxHeartbeats 8000000 in
set_option maxRecDepth 100000 in
theorem tfail_bad (w : World) (T : Nat) (l0 : List Tk) (i e : Nat) (d b : Int) (hb : 0 ≤ b) (h : TpAt w T l0 i e d b) :
    Calls Tryz.prog 27 #[.pointer (some ⟨T, 0, none⟩)] w fun en w' => en = .returned zval ∧ TpAt w' T l0 i e d b ∧ But T w w' := by
  have H := Lib.hid h
  have hT := h.lt
  clear h
  go_enter Tryz.func27, Tryz.ntmps27
  go_upto_region 1 with fail
  have Hb := Lib.hid (Below.new w (.cells zcells 31))
  have Hz := Lib.hid (ZVar.new w 31)
  generalize World.alloc w _ = W at Hb Hz ⊢
  have h1 := H.out.below Hb.out
  have H1 := Lib.hid h1
  have c4 := h1.c4
  have hbb : ¬ b < 0 := by omega
  obtain ⟨d0, d1, d2, d3, d4, d5, d6, d7, d8, dz, -⟩ := Hz.out
  clear h1
  go_wp2_with fail
  exact bodyPost_ret (v := zval) (by simp [results, Tryz.results27, go_sem, d0, d1, d2, d3, d4, d5, d6, d7, d8]) rfl ⟨rfl, H1.out.put9 hT _ _ _ _ _ _ _ _ _, (But.of Hb.out).put9 (Nat.le_refl _) _ _ _ _ _ _ _ _ _⟩
set_option maxHeartbeats 8000000 in
set_option maxRecDepth 100000 in
theorem tfail_any (w : World) (T : Nat) (l0 : List Tk) (i e : Nat) (d b : Int) (hb : b < 0) (h : TpAt w T l0 i e d b) :
    Calls Tryz.prog 27 #[.pointer (some ⟨T, 0, none⟩)] w fun en w' => en = .returned zval ∧ TpAt w' T l0 i e d (pAt e (l0.drop i) : Int) ∧ But T w w' := by
  have H := Lib.hid h
  have HT := Lib.hid h.lt
  have Hat : Hid (∀ W, TpAt W T l0 i e d b → Calls Tryz.prog 41 #[.pointer (some ⟨T, 0, none⟩)] W fun en w' => en = .returned (.int .i64 (pAt e (l0.drop i) : Int)) ∧ Below W.heap.size W w') := Lib.hid fun W h => tat_any W T l0 i e d b h
  clear h
  generalize pAt e (l0.drop i) = pp at Hat ⊢
  go_enter Tryz.func27, Tryz.ntmps27
  go_upto_region 1 with fail
  have Hb := Lib.hid (Below.new w (.cells zcells 31))
  have Hz := Lib.hid (ZVar.new w 31)
  generalize World.alloc w _ = W at Hb Hz ⊢
  have h1 := H.out.below Hb.out
  have H1 := Lib.hid h1
  have c4 := h1.c4
  have Ha := Lib.hid (Hat.out W h1)
  clear h1
  go_wp2_with fail
  refine Ha.out.mono ?_
  rintro en w2 ⟨rfl, hb2⟩
  have H2 := Lib.hid (H1.out.below hb2)
  have Hz2 := Lib.hid (Hz.out.below hb2 Hz.out.lt)
  have HB2 : Hid (But T w w2) := Lib.hid ((But.of Hb.out).trans (But.of hb2))
  have c4' := H2.out.c4
  have z4' := H2.out.z 4
  clear c4 hb2
  go_upto_region 3 with fail
  have H3 := Lib.hid (H2.out.setB (pp : Int))
  have hbx := (But.refl T w2).set 4 (.int .i64 (pp : Int))
  have Hz3 := Lib.hid (Hz2.out.but hbx HT.out)
  have HB3 := Lib.hid (HB2.out.trans hbx)
  clear c4' z4' hbx
  generalize World.setCell w2 _ _ = W3 at H3 Hz3 HB3 ⊢
  obtain ⟨d0, d1, d2, d3, d4, d5, d6, d7, d8, dz, -⟩ := Hz3.out
  go_wp2_with fail
  exact bodyPost_ret (v := zval) (by simp [results, Tryz.results27, go_sem, d0, d1, d2, d3, d4, d5, d6, d7, d8]) rfl ⟨rfl, H3.out.put9 HT.out _ _ _ _ _ _ _ _ _, HB3.out.put9 (Nat.le_refl _) _ _ _ _ _ _ _ _ _⟩
end Go.Proofs.YthhghlnbpigcjaaGreatDoor
set_option linter.unusedVariables false
set_option linter.unusedSimpArgs false
namespace Go.Proofs.YthhghlnbpigcjaaGreatDoor
open Go.RowKit

/-- what a reader of a tape leaves: a test; the tape behind it, or with the fault's place -/
def TpAns (w w' : World) (T e d : Nat) (l0 : List Tk) (r : PRes) (en : Ending) : Prop := But T w w' ∧ ∃ (t : Tree) (a : Option Addr) (n c : Nat), en = .returned (t.val a n c) ∧ KSl w' w.heap.size t.kids a n ∧ match r with
  | .ok u q => t = u ∧ ∃ i, l0.drop i = q ∧ TpAt w' T l0 i e d (-1)
  | .bad p => ∃ i d', TpAt w' T l0 i e d' (p : Int)
set_option maxHeartbeats 8000000 in
set_option maxRecDepth 100000 in
theorem toperand_no (w : World) (T : Nat) (l0 : List Tk) (i e d : Nat) (h : TpAt w T l0 i e d (-1)) (h0 : seesB 0 [] (l0.drop i) = false) (h1 : seesB 1 [] (l0.drop i) = false) (hp : pOper e (l0.drop i) = .bad (pAt e (l0.drop i))) :
    Calls Tryz.prog 82 #[.pointer (some ⟨T, 0, none⟩)] w fun en w' => TpAns w w' T e d l0 (pOper e (l0.drop i)) en := by
  have H := Lib.hid h
  have hT := h.lt
  have Hs : Hid (∀ W, TpAt W T l0 i e d (-1) → ∀ k : Int, (k = 0 ∨ k = 1) → Calls Tryz.prog 40 #[.pointer (some ⟨T, 0, none⟩), .int .i64 k, .string ⟨#[]⟩] W fun en w' => en = .returned (.bool false) ∧ Below W.heap.size W w') := Lib.hid fun W h k hk => by
    have := tsees_any W T l0 i e d (-1) (by decide) h k []
    rcases hk with rfl | rfl
    · rw [h0] at this; exact this
    · rw [h1] at this; exact this
  have Hf : Hid (∀ W, TpAt W T l0 i e d (-1) → Calls Tryz.prog 27 #[.pointer (some ⟨T, 0, none⟩)] W fun en w' => en = .returned zval ∧ TpAt w' T l0 i e d (pAt e (l0.drop i) : Int) ∧ But T W w') := Lib.hid fun W h => tfail_any W T l0 i e d (-1) (by decide) h
  rw [hp]
  clear h h0 h1 hp
  generalize pAt e (l0.drop i) = pp at Hf ⊢
  go_enter Tryz.func82, Tryz.ntmps82
  go_upto_region 1 with fail
  have Hb := Lib.hid (Below.new w (.cells zcells 31))
  have Hz := Lib.hid (ZVar.new w 31)
  generalize World.alloc w _ = W at Hb Hz ⊢
  have H1 := Lib.hid (H.out.below Hb.out)
  have hc := Hs.out W H1.out 0 (.inl rfl)
  go_wp2_with fail
  refine hc.mono ?_
  rintro en w2 ⟨rfl, hb2⟩
  have H2 := Lib.hid (H1.out.below hb2)
  have Hz2 := Lib.hid (Hz.out.below hb2 Hz.out.lt)
  have HB2 : Hid (But T w w2) := Lib.hid ((But.of Hb.out).trans (But.of hb2))
  clear hc hb2
  have hc := Hs.out w2 H2.out 1 (.inr rfl)
  go_wp2_with fail
  refine hc.mono ?_
  rintro en w3 ⟨rfl, hb3⟩
  have H3 := Lib.hid (H2.out.below hb3)
  have Hz3 := Lib.hid (Hz2.out.below hb3 Hz2.out.lt)
  have HB3 : Hid (But T w w3) := Lib.hid (HB2.out.trans (But.of hb3))
  clear hc hb3
  have hc := Hf.out w3 H3.out
  go_wp2_with fail
  refine hc.mono ?_
  rintro en w4 ⟨rfl, h4, hb4⟩
  have H4 := Lib.hid h4
  have Hz4 := Lib.hid (Hz3.out.but hb4 hT)
  have HB4 : Hid (But T w w4) := Lib.hid (HB3.out.trans hb4)
  clear hc h4 hb4
  obtain ⟨d0, d1, d2, d3, d4, d5, d6, d7, d8, dz, -⟩ := Hz4.out
  go_wp2_with fail
  exact bodyPost_ret (v := zval) (by simp [results, Tryz.results82, go_sem, d0, d1, d2, d3, d4, d5, d6, d7, d8]) rfl ⟨HB4.out.put9 (Nat.le_refl _) _ _ _ _ _ _ _ _ _, .mk 0 0 [] 0 zeroVal [], none, 0, 0, rfl, .empty, i, d, H4.out.put9 hT _ _ _ _ _ _ _ _ _⟩
end Go.Proofs.YthhghlnbpigcjaaGreatDoor
