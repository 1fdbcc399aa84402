/- The cache's calls in one form each: what becomes of the part, what is answered. -/
import Derived.Test.YtdblpcfkiiliiaaC5
set_option linter.unusedVariables false
set_option linter.unusedSimpArgs false
namespace Go.Proofs.Ytdblpcfkiiliiaa
open Go.RowKit

/-! ### The clock's hand comes to a stop -/
theorem tick_shape (p : Pt) : (tick p).1.frames.length = p.frames.length ∧ (tick p).1.hand = (p.hand + 1) % p.frames.length ∧ (tick p).1.hits = p.hits ∧ (tick p).1.misses = p.misses := by
  unfold tick; dsimp only; split <;> (try split) <;> simp
theorem tick_held_at (p : Pt) (j : Nat) (hj : j < p.frames.length) : ∃ h : j < (tick p).1.frames.length, (tick p).1.frames[j].held = p.frames[j].held ∧ (tick p).1.frames[j].full = p.frames[j].full ∧ (tick p).1.frames[j].page = p.frames[j].page ∧ (p.frames[j].touched = false → (tick p).1.frames[j].touched = false) := by
  refine ⟨by rw [(tick_shape p).1]; exact hj, ?_⟩
  unfold tick
  dsimp only
  split
  · exact ⟨rfl, rfl, rfl, id⟩
  · split
    · rename_i h1 h2
      simp only [List.getElem_set]
      by_cases e : p.hand = j
      · subst e
        have hg : p.frames.getD p.hand Fr.zero = p.frames[p.hand] := by simp [List.getD_eq_getElem?_getD, hj]
        simp only [if_true, hg]
        exact ⟨trivial, trivial, trivial, fun _ => trivial⟩
      · simp [e]
    · exact ⟨rfl, rfl, rfl, id⟩
/-- frame j isn't held and not touched, the hand comes to it in d steps -/
theorem spin_clean (d : Nat) : ∀ (p : Pt) (j : Nat) (hj : j < p.frames.length), p.hand < p.frames.length → p.frames[j].held = 0 → p.frames[j].touched = false → (p.hand + d) % p.frames.length = j → ∀ n, d < n → ∃ q i, spin n p = some (q, i) := by
  induction d with
  | zero =>
    intro p j hj hh h0 ht hd n hn
    obtain ⟨n, rfl⟩ : ∃ m, n = m + 1 := ⟨n - 1, by omega⟩
    have e : p.hand = j := by rw [Nat.add_zero, Nat.mod_eq_of_lt hh] at hd; exact hd
    subst e
    have := tick_stop p hh (by omega) ht
    exact ⟨(tick p).1, p.hand, by simp only [spin, this, if_true]⟩
  | succ d ih =>
    intro p j hj hh h0 ht hd n hn
    obtain ⟨n, rfl⟩ : ∃ m, n = m + 1 := ⟨n - 1, by omega⟩
    simp only [spin]
    split
    · exact ⟨_, _, rfl⟩
    · obtain ⟨h1, h2, _⟩ := tick_shape p
      obtain ⟨hj', e1, _, _, e4⟩ := tick_held_at p j hj
      refine ih (tick p).1 j hj' (by rw [h2, h1]; exact Nat.mod_lt _ (by omega)) (by rw [e1]; exact h0) (e4 ht) ?_ n (by omega)
      rw [h2, h1, Nat.mod_add_mod, show p.hand + 1 + d = p.hand + (d + 1) from by omega]
      exact hd
theorem spin_loose (d : Nat) : ∀ (p : Pt) (j : Nat) (hj : j < p.frames.length), p.hand < p.frames.length → p.frames[j].held = 0 → (p.hand + d) % p.frames.length = j → ∀ n, d + p.frames.length < n → ∃ q i, spin n p = some (q, i) := by
  induction d with
  | zero =>
    intro p j hj hh h0 hd n hn
    have e : p.hand = j := by rw [Nat.add_zero, Nat.mod_eq_of_lt hh] at hd; exact hd
    cases ht : p.frames[j].touched with
    | false => exact spin_clean 0 p j hj hh h0 ht hd n (by omega)
    | true =>
      subst e
      obtain ⟨n, rfl⟩ : ∃ m, n = m + 1 := ⟨n - 1, by omega⟩
      have hk := tick_touched p hh (by omega) ht
      simp only [spin]
      split
      · exact ⟨_, _, rfl⟩
      · obtain ⟨h1, h2, _⟩ := tick_shape p
        obtain ⟨hj', e1, _, _, e4⟩ := tick_held_at p p.hand hj
        refine spin_clean (p.frames.length - 1) (tick p).1 p.hand hj' (by rw [h2, h1]; exact Nat.mod_lt _ (by omega)) (by rw [e1]; exact h0) (by simp only [hk]; simp) ?_ n (by omega)
        rw [h2, h1, Nat.mod_add_mod, show p.hand + 1 + (p.frames.length - 1) = p.hand + p.frames.length from by omega, Nat.add_mod_right, Nat.mod_eq_of_lt hh]
  | succ d ih =>
    intro p j hj hh h0 hd n hn
    obtain ⟨n, rfl⟩ : ∃ m, n = m + 1 := ⟨n - 1, by omega⟩
    simp only [spin]
    split
    · exact ⟨_, _, rfl⟩
    · obtain ⟨h1, h2, _⟩ := tick_shape p
      obtain ⟨hj', e1, _, _, e4⟩ := tick_held_at p j hj
      refine ih (tick p).1 j hj' (by rw [h2, h1]; exact Nat.mod_lt _ (by omega)) (by rw [e1]; exact h0) ?_ n (by rw [h1]; omega)
      rw [h2, h1, Nat.mod_add_mod, show p.hand + 1 + d = p.hand + (d + 1) from by omega]
      exact hd
theorem spin_some (p : Pt) (hh : p.hand < p.frames.length) (hl : skips isLoose p.frames < p.frames.length) : ∃ q i, spin (2 * p.frames.length + 1) p = some (q, i) := by
  have hx : p.frames[skips isLoose p.frames].held = 0 := by
    have h := skips_at isLoose p.frames _ hl (Nat.le_refl _)
    cases e : isLoose p.frames[skips isLoose p.frames] with
    | true => simpa [isLoose] using e
    | false => have := h.2 e; omega
  have hd : ∃ d, d < p.frames.length ∧ (p.hand + d) % p.frames.length = skips isLoose p.frames := by
    by_cases e : p.hand ≤ skips isLoose p.frames
    · exact ⟨skips isLoose p.frames - p.hand, by omega, by rw [show p.hand + (skips isLoose p.frames - p.hand) = skips isLoose p.frames from by omega]; exact Nat.mod_eq_of_lt hl⟩
    · exact ⟨p.frames.length + skips isLoose p.frames - p.hand, by omega, by rw [show p.hand + (p.frames.length + skips isLoose p.frames - p.hand) = skips isLoose p.frames + p.frames.length from by omega, Nat.add_mod_right]; exact Nat.mod_eq_of_lt hl⟩
  obtain ⟨d, h1, h2⟩ := hd
  exact spin_loose d p _ hl hh hx h2 _ (by omega)

/-! ### One form each -/
def frameAt (p : Pt) (i : Nat) : Fr := p.frames.getD i Fr.zero
theorem frameAt_eq (p : Pt) (i : Nat) (h : i < p.frames.length) : frameAt p i = p.frames[i] := by simp [frameAt, List.getD_eq_getElem?_getD, h]
/-- a page is held once more -/
def hold (p : Pt) (page : Int) : Pt × Bool :=
  match firstOf (isPage page) p.frames with
  | some i => ({ p with frames := p.frames.set i { frameAt p i with held := (frameAt p i).held + 1 } }, true)
  | none => (p, false)
def release (p : Pt) (page : Int) : Pt × Bool :=
  match firstOf (isPage page) p.frames with
  | some i => if (frameAt p i).held = 0 then (p, false) else ({ p with frames := p.frames.set i { frameAt p i with held := (frameAt p i).held - 1 } }, true)
  | none => (p, false)
def drop (p : Pt) (page : Int) : Pt × Bool :=
  match firstOf (isPage page) p.frames with
  | some i => if 0 < (frameAt p i).held then (p, false) else ({ p with frames := p.frames.set i Fr.zero }, true)
  | none => (p, false)
def has (p : Pt) (page : Int) : Bool := (firstOf (isPage page) p.frames).isSome

/-- nothing is more than b -/
structure Pt.ok (b : Int) (p : Pt) : Prop where
  h0 : 0 ≤ p.hits
  h1 : p.hits ≤ b
  m0 : 0 ≤ p.misses
  m1 : p.misses ≤ b
  fr : ∀ f, f ∈ p.frames → 0 ≤ f.held ∧ f.held ≤ b
theorem Pt.ok.mono {b b' : Int} {p : Pt} (h : p.ok b) (hb : b ≤ b') : p.ok b' := ⟨h.h0, by have := h.h1; omega, h.m0, by have := h.m1; omega, fun f hf => ⟨(h.fr f hf).1, by have := (h.fr f hf).2; omega⟩⟩
theorem Pt.ok.set {b : Int} {p : Pt} (h : p.ok b) (i : Nat) (f : Fr) (hf : 0 ≤ f.held ∧ f.held ≤ b) : Pt.ok b { p with frames := p.frames.set i f } :=
  ⟨h.h0, h.h1, h.m0, h.m1, fun g hg => by
    rcases List.mem_or_eq_of_mem_set hg with e | e
    · exact h.fr g e
    · exact e ▸ hf⟩
theorem Pt.ok.at {b : Int} {p : Pt} (h : p.ok b) (hb : 0 ≤ b) (i : Nat) : 0 ≤ (frameAt p i).held ∧ (frameAt p i).held ≤ b := by
  by_cases hi : i < p.frames.length
  · rw [frameAt_eq p i hi]; exact h.fr _ (List.getElem_mem hi)
  · have : frameAt p i = Fr.zero := by simp [frameAt, List.getD_eq_getElem?_getD, Nat.le_of_not_lt hi]
    rw [this]; exact ⟨by decide, by show (0 : Int) ≤ b; exact hb⟩
theorem tick_ok {b : Int} {p : Pt} (h : p.ok b) (hb : 0 ≤ b) : (tick p).1.ok b := by
  unfold tick
  dsimp only
  split
  · exact ⟨h.h0, h.h1, h.m0, h.m1, h.fr⟩
  · split
    · have h2 : Pt.ok b { p with hand := (p.hand + 1) % p.frames.length } := ⟨h.h0, h.h1, h.m0, h.m1, h.fr⟩
      exact h2.set p.hand _ (h.at hb p.hand)
    · exact ⟨h.h0, h.h1, h.m0, h.m1, h.fr⟩
theorem spin_ok {b : Int} (hb : 0 ≤ b) (n : Nat) : ∀ {p q : Pt} {i : Nat}, p.ok b → spin n p = some (q, i) → q.ok b := by
  induction n with
  | zero => intro p q i _ h; simp [spin] at h
  | succ n ih =>
    intro p q i hp h
    simp only [spin] at h
    split at h
    · injection h with h; injection h with h1 h2; rw [← h1]; exact tick_ok hp hb
    · exact ih (tick_ok hp hb) h
theorem touch_ok {b : Int} {p : Pt} (h : p.ok b) (hb : 0 ≤ b) (page : Int) : (touch p page).1.ok (b + 1) := by
  have hm : Pt.ok (b + 1) { p with misses := p.misses + 1 } := ⟨h.h0, by have := h.h1; show p.hits ≤ b + 1; omega, by have := h.m0; show 0 ≤ p.misses + 1; omega, by have := h.m1; show p.misses + 1 ≤ b + 1; omega, (h.mono (by omega)).fr⟩
  have hf : 0 ≤ (fresh page).held ∧ (fresh page).held ≤ b + 1 := ⟨by show (0 : Int) ≤ 0; decide, by show (0 : Int) ≤ b + 1; omega⟩
  unfold touch
  split
  · rename_i i _
    have hh : Pt.ok (b + 1) { p with hits := p.hits + 1 } := ⟨by have := h.h0; show 0 ≤ p.hits + 1; omega, by have := h.h1; show p.hits + 1 ≤ b + 1; omega, h.m0, by have := h.m1; show p.misses ≤ b + 1; omega, (h.mono (by omega)).fr⟩
    have := (h.mono (show b ≤ b + 1 by omega)).at (by omega) i
    exact hh.set i _ this
  · split
    · exact hm.set _ _ hf
    · split
      · split
        · rename_i q i hs
          exact (spin_ok (by omega) _ hm hs).set _ _ hf
        · exact h.mono (by omega)
      · exact hm
theorem hold_ok {b : Int} {p : Pt} (h : p.ok b) (hb : 0 ≤ b) (page : Int) : (hold p page).1.ok (b + 1) := by
  unfold hold
  split
  · rename_i i _
    have := h.at hb i
    exact (h.mono (by omega)).set i _ ⟨by show 0 ≤ (frameAt p i).held + 1; omega, by show (frameAt p i).held + 1 ≤ b + 1; omega⟩
  · exact h.mono (by omega)
theorem release_ok {b : Int} {p : Pt} (h : p.ok b) (hb : 0 ≤ b) (page : Int) : (release p page).1.ok (b + 1) := by
  unfold release
  split
  · rename_i i _
    have := h.at hb i
    split
    · exact h.mono (by omega)
    · exact (h.mono (by omega)).set i _ ⟨by show 0 ≤ (frameAt p i).held - 1; omega, by show (frameAt p i).held - 1 ≤ b + 1; omega⟩
  · exact h.mono (by omega)
theorem drop_ok {b : Int} {p : Pt} (h : p.ok b) (hb : 0 ≤ b) (page : Int) : (drop p page).1.ok (b + 1) := by
  unfold drop
  split
  · split
    · exact h.mono (by omega)
    · exact (h.mono (by omega)).set _ _ ⟨by decide, by show (0 : Int) ≤ b + 1; omega⟩
  · exact h.mono (by omega)

section
variable (w : World) (c a cap : Nat) (pb fb : Nat → Nat) (ps : List Pt) (h : CaAt w c a cap pb fb ps) (t : Nat) (ht : t < ps.length) (T : Int) (hT : T = (t : Int)) (page : Int) (hok : ps[t].ok 1000000)
include h hT hok
theorem touch_any : Calls Try.prog 10 #[.pointer (some ⟨c, 0, none⟩), .int .i64 T, .int .i64 page] w fun e w' =>
    e = .returned (.tuple #[.bool (touch ps[t] page).2.1, .int .i64 (touch ps[t] page).2.2]) ∧ CaAt w' c a cap pb fb (ps.set t (touch ps[t] page).1) ∧ Upd (Of (pb t) (fb t)) w w' := by
  subst hT
  have hb := hok
  unfold touch
  cases hf : firstOf (isPage page) ps[t].frames with
  | some i =>
    refine (touch_hit w c a cap pb fb ps h t ht page i hf hb.h0 hb.h1).mono ?_
    rintro e w' ⟨h1, h2, h3⟩
    exact ⟨h1, h.set t ht h3 h2, h3⟩
  | none =>
    by_cases hr : skips isRoom ps[t].frames < ps[t].frames.length
    · rw [if_pos hr]
      refine (touch_free w c a cap pb fb ps h t ht page hf _ rfl hr hb.m0 hb.m1).mono ?_
      rintro e w' ⟨h1, h2, h3⟩
      exact ⟨h1, h.set t ht h3 h2, h3⟩
    · rw [if_neg hr]
      by_cases hl : skips isLoose ps[t].frames < ps[t].frames.length
      · rw [if_pos hl]
        obtain ⟨q, i, hs⟩ := spin_some { ps[t] with misses := ps[t].misses + 1 } (h.pt t ht).hd hl
        simp only at hs
        rw [hs]
        refine (touch_turn w c a cap pb fb ps h t ht page hf hr hl _ q i hs hb.m0 hb.m1).mono ?_
        rintro e w' ⟨h1, h2, h3⟩
        exact ⟨h1, h.set t ht h3 h2, h3⟩
      · rw [if_neg hl]
        refine (touch_pin w c a cap pb fb ps h t ht page hf hr hl hb.m0 hb.m1).mono ?_
        rintro e w' ⟨h1, h2, h3⟩
        exact ⟨h1, h.set t ht h3 h2, h3⟩
theorem hold_any : Calls Try.prog 13 #[.pointer (some ⟨c, 0, none⟩), .int .i64 T, .int .i64 page] w fun e w' =>
    e = .returned (.bool (hold ps[t] page).2) ∧ CaAt w' c a cap pb fb (ps.set t (hold ps[t] page).1) ∧ Upd (Of (pb t) (fb t)) w w' := by
  subst hT
  unfold hold
  cases hf : firstOf (isPage page) ps[t].frames with
  | some i =>
    obtain ⟨hi, _⟩ := firstOf_some hf
    have hb := hok.fr _ (List.getElem_mem hi)
    simp only [frameAt_eq _ i hi]
    refine (hold_some w c a cap pb fb ps h t ht page i hf hi hb.1 hb.2).mono ?_
    rintro e w' ⟨h1, h2, h3⟩
    exact ⟨h1, h.set t ht h3 h2, h3⟩
  | none =>
    refine (hold_none w c a cap pb fb ps h t ht page hf).mono ?_
    rintro e w' ⟨h1, h2⟩
    exact ⟨h1, by rw [List.set_getElem_self]; exact h.below h2, Upd.of_below h2⟩
theorem release_any : Calls Try.prog 14 #[.pointer (some ⟨c, 0, none⟩), .int .i64 T, .int .i64 page] w fun e w' =>
    e = .returned (.bool (release ps[t] page).2) ∧ CaAt w' c a cap pb fb (ps.set t (release ps[t] page).1) ∧ Upd (Of (pb t) (fb t)) w w' := by
  subst hT
  unfold release
  cases hf : firstOf (isPage page) ps[t].frames with
  | some i =>
    obtain ⟨hi, _⟩ := firstOf_some hf
    have hb := hok.fr _ (List.getElem_mem hi)
    simp only [frameAt_eq _ i hi]
    by_cases h0 : ps[t].frames[i].held = 0
    · rw [if_pos h0]
      refine (release_loose w c a cap pb fb ps h t ht page i hf hi h0).mono ?_
      rintro e w' ⟨h1, h2⟩
      exact ⟨h1, by rw [List.set_getElem_self]; exact h.below h2, Upd.of_below h2⟩
    · rw [if_neg h0]
      refine (release_some w c a cap pb fb ps h t ht page i hf hi (by omega) hb.2).mono ?_
      rintro e w' ⟨h1, h2, h3⟩
      exact ⟨h1, h.set t ht h3 h2, h3⟩
  | none =>
    refine (release_none w c a cap pb fb ps h t ht page hf).mono ?_
    rintro e w' ⟨h1, h2⟩
    exact ⟨h1, by rw [List.set_getElem_self]; exact h.below h2, Upd.of_below h2⟩
omit hok in
theorem drop_any : Calls Try.prog 15 #[.pointer (some ⟨c, 0, none⟩), .int .i64 T, .int .i64 page] w fun e w' =>
    e = .returned (.bool (drop ps[t] page).2) ∧ CaAt w' c a cap pb fb (ps.set t (drop ps[t] page).1) ∧ Upd (Of (pb t) (fb t)) w w' := by
  subst hT
  unfold drop
  cases hf : firstOf (isPage page) ps[t].frames with
  | some i =>
    obtain ⟨hi, _⟩ := firstOf_some hf
    simp only [frameAt_eq _ i hi]
    by_cases h0 : 0 < ps[t].frames[i].held
    · rw [if_pos h0]
      refine (drop_held w c a cap pb fb ps h t ht page i hf hi h0).mono ?_
      rintro e w' ⟨h1, h2⟩
      exact ⟨h1, by rw [List.set_getElem_self]; exact h.below h2, Upd.of_below h2⟩
    · rw [if_neg h0]
      refine (drop_some w c a cap pb fb ps h t ht page i hf hi h0).mono ?_
      rintro e w' ⟨h1, h2, h3⟩
      exact ⟨h1, h.set t ht h3 h2, h3⟩
  | none =>
    refine (drop_none w c a cap pb fb ps h t ht page hf).mono ?_
    rintro e w' ⟨h1, h2⟩
    exact ⟨h1, by rw [List.set_getElem_self]; exact h.below h2, Upd.of_below h2⟩
omit hok
theorem has_at : Calls Try.prog 16 #[.pointer (some ⟨c, 0, none⟩), .int .i64 T, .int .i64 page] w fun e w' => e = .returned (.bool (has ps[t] page)) ∧ Below w.heap.size w w' := by
  subst hT
  exact has_any w c a cap pb fb ps h t ht page
theorem counts_at : Calls Try.prog 11 #[.pointer (some ⟨c, 0, none⟩), .int .i64 T] w fun e w' => e = .returned (.agg #[.int .i64 ps[t].hits, .int .i64 ps[t].misses, .int .i64 (fulls ps[t].frames), .int .i64 (pins ps[t].frames)]) ∧ Below w.heap.size w w' := by
  subst hT
  exact counts_any w c a cap pb fb ps h t ht
end
end Go.Proofs.Ytdblpcfkiiliiaa
