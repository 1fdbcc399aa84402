/- CacheBounds: the plain law. -/
import Derived.Test.YtdblpcfkiiliiaaD0
set_option linter.unusedVariables false
set_option linter.unusedSimpArgs false
namespace Go.Proofs.Ytdblpcfkiiliiaa
open Go.RowKit

/-- frame i has the page n -/
def Sits (xs : List Fr) (n : Int) (i : Nat) : Prop := ∃ h : i < xs.length, xs[i].full = true ∧ xs[i].page = n
theorem sits_of_first {xs : List Fr} {n : Int} {i : Nat} (h : firstOf (isPage n) xs = some i) : Sits xs n i := by
  obtain ⟨hi, hp⟩ := firstOf_some h
  simp [isPage] at hp
  exact ⟨hi, hp.1, hp.2⟩
theorem first_none {p : Fr → Bool} {xs : List Fr} (h : ¬ skips p xs < xs.length) : ∀ i (hi : i < xs.length), p xs[i] = false := by
  induction xs with
  | nil => intro i hi; simp at hi
  | cons x xs ih =>
    intro i hi
    simp only [skips, List.length_cons] at h
    by_cases hx : p x = true
    · simp [hx] at h
    · have hx' : p x = false := by simpa using hx
      simp only [hx', Bool.false_eq_true, if_false] at h
      cases i with
      | zero => exact hx'
      | succ i => exact ih (by omega) i (by simpa using hi)
theorem no_sits {xs : List Fr} {n : Int} (h : firstOf (isPage n) xs = none) (i : Nat) : ¬ Sits xs n i := by
  rintro ⟨hi, h1, h2⟩
  have hn : ¬ skips (isPage n) xs < xs.length := by
    intro hl; simp [firstOf, hl] at h
  have := first_none hn i hi
  simp [isPage, h1, h2] at this
theorem first_of_sits {xs : List Fr} {n : Int} {i : Nat} (h : Sits xs n i) : (firstOf (isPage n) xs).isSome = true := by
  cases e : firstOf (isPage n) xs with
  | some j => rfl
  | none => exact absurd h (no_sits e i)

/-- what is held, page by page -/
structure Tells (xs : List Fr) (hd : Nat → Int) : Prop where
  one : ∀ n i j, Sits xs n i → Sits xs n j → i = j
  low : ∀ n i, Sits xs n i → 0 ≤ n ∧ n < 16
  empty : ∀ i (h : i < xs.length), xs[i].full = false → xs[i].held = 0
  yes : ∀ (n : Nat) i, Sits xs n i → ∀ h : i < xs.length, hd n = xs[i].held
  no : ∀ (n : Nat), n < 16 → (∀ i, ¬ Sits xs n i) → hd n = 0
  nn : ∀ f, f ∈ xs → 0 ≤ f.held

theorem pins_set (xs : List Fr) (i : Nat) (h : i < xs.length) (f : Fr) : pins (xs.set i f) + (if 0 < xs[i].held then 1 else 0) = pins xs + (if 0 < f.held then 1 else 0) := by
  induction xs generalizing i with
  | nil => simp at h
  | cons x xs ih =>
    cases i with
    | zero => simp only [List.set_cons_zero, pins, List.getElem_cons_zero]; omega
    | succ i =>
      have := ih i (by simpa using h)
      simp only [List.set_cons_succ, pins, List.getElem_cons_succ]; omega
theorem pins_all (xs : List Fr) (h : ∀ i (hi : i < xs.length), 0 < xs[i].held) : pins xs = xs.length := by
  induction xs with
  | nil => rfl
  | cons x xs ih =>
    have h0 : 0 < x.held := h 0 (by simp)
    have h1 := ih (fun i hi => h (i + 1) (by simpa using hi))
    simp only [pins, h0, if_true, h1, List.length_cons]; omega

theorem sits_set {xs : List Fr} {k : Nat} (hk : k < xs.length) (f : Fr) (n : Int) (i : Nat) : Sits (xs.set k f) n i ↔ (i = k ∧ f.full = true ∧ f.page = n) ∨ (i ≠ k ∧ Sits xs n i) := by
  unfold Sits
  by_cases e : i = k
  · subst e; simp [hk]
  · have e' : ¬ k = i := fun h => e h.symm
    simp [e, List.getElem_set_ne e']

/-- a frame turns in nothing but its mark -/
theorem Tells.marked {xs : List Fr} {hd : Nat → Int} (h : Tells xs hd) (k : Nat) (hk : k < xs.length) (f : Fr) (h1 : f.page = xs[k].page) (h2 : f.full = xs[k].full) (h3 : f.held = xs[k].held) : Tells (xs.set k f) hd ∧ pins (xs.set k f) = pins xs := by
  have hs : ∀ n i, Sits (xs.set k f) n i ↔ Sits xs n i := fun n i => by
    rw [sits_set hk]
    constructor
    · rintro (⟨e, g1, g2⟩ | ⟨_, g⟩)
      · subst e; exact ⟨hk, by rw [← h2]; exact g1, by rw [← h1]; exact g2⟩
      · exact g
    · intro g
      by_cases e : i = k
      · subst e; obtain ⟨_, g1, g2⟩ := g; exact .inl ⟨rfl, by rw [h2]; exact g1, by rw [h1]; exact g2⟩
      · exact .inr ⟨e, g⟩
  refine ⟨⟨fun n i j a b => h.one n i j ((hs n i).1 a) ((hs n j).1 b), fun n i a => h.low n i ((hs n i).1 a), fun i hi he => ?_, fun n i a hi => ?_, fun n hn a => h.no n hn fun i b => a i ((hs n i).2 b), fun g hg => ?_⟩, ?_⟩
  · have hi' : i < xs.length := by simpa using hi
    by_cases e : i = k
    · subst e; simp at he ⊢; rw [h3]; exact h.empty i hi' (by rw [← h2]; exact he)
    · have e' : ¬ k = i := fun h => e h.symm
      rw [List.getElem_set_ne e'] at he ⊢; exact h.empty i hi' he
  · have hi' : i < xs.length := by simpa using hi
    have := h.yes n i ((hs n i).1 a) hi'
    by_cases e : i = k
    · subst e; simp; rw [h3]; exact this
    · have e' : ¬ k = i := fun h => e h.symm
      rw [List.getElem_set_ne e']; exact this
  · rcases List.mem_or_eq_of_mem_set hg with e | e
    · exact h.nn g e
    · rw [e, h3]; exact h.nn _ (List.getElem_mem hk)
  · have := pins_set xs k hk f
    rw [h3] at this; omega

/-- a frame that isn't held has another page -/
theorem Tells.moved {xs : List Fr} {hd : Nat → Int} (h : Tells xs hd) (k : Nat) (hk : k < xs.length) (h0 : xs[k].held = 0) (y : Nat) (hy : y < 16) (hn : ∀ i, ¬ Sits xs y i) : Tells (xs.set k (fresh y)) hd ∧ pins (xs.set k (fresh y)) = pins xs := by
  have hs := sits_set hk (fresh y)
  have hy0 := h.no y hy hn
  refine ⟨⟨?_, ?_, ?_, ?_, ?_, ?_⟩, ?_⟩
  · intro n i j a b
    rw [hs] at a b
    rcases a with ⟨a1, _, a2⟩ | ⟨a1, a2⟩ <;> rcases b with ⟨b1, _, b2⟩ | ⟨b1, b2⟩
    · omega
    · have : n = y := a2.symm; subst this; exact absurd b2 (hn j)
    · have : n = y := b2.symm; subst this; exact absurd a2 (hn i)
    · exact h.one n i j a2 b2
  · intro n i a
    rw [hs] at a
    rcases a with ⟨_, _, a2⟩ | ⟨_, a2⟩
    · have : n = y := a2.symm; omega
    · exact h.low n i a2
  · intro i hi he
    have hi' : i < xs.length := by simpa using hi
    by_cases e : i = k
    · subst e; simp [fresh] at he
    · have e' : ¬ k = i := fun h => e h.symm
      rw [List.getElem_set_ne e'] at he ⊢; exact h.empty i hi' he
  · intro n i a hi
    have hi' : i < xs.length := by simpa using hi
    rw [hs] at a
    rcases a with ⟨e, _, a2⟩ | ⟨e, a2⟩
    · subst e
      have : (n : Int) = y := a2.symm
      have : n = y := by omega
      subst this
      simp [fresh, hy0]
    · have e' : ¬ k = i := fun h => e h.symm
      rw [List.getElem_set_ne e']; exact h.yes n i a2 hi'
  · intro n hn2 a
    by_cases hx : ∃ i, Sits xs n i
    · obtain ⟨i, hi⟩ := hx
      by_cases e : i = k
      · subst e; rw [h.yes n i hi hk, h0]
      · exact absurd ((hs n i).2 (.inr ⟨e, hi⟩)) (a i)
    · exact h.no n hn2 fun i hi => hx ⟨i, hi⟩
  · intro g hg
    rcases List.mem_or_eq_of_mem_set hg with e | e
    · exact h.nn g e
    · rw [e]; simp [fresh]
  · have := pins_set xs k hk (fresh y)
    rw [h0] at this
    simp [fresh] at this ⊢; exact this

/-- a frame's holds turn -/
theorem Tells.reheld {xs : List Fr} {hd : Nat → Int} (h : Tells xs hd) (k : Nat) (hk : k < xs.length) (y : Nat) (hy : Sits xs y k) (v : Int) (hv : 0 ≤ v) : Tells (xs.set k { xs[k] with held := v }) (fun n => if n = y then v else hd n) ∧
    pins (xs.set k { xs[k] with held := v }) + (if 0 < hd y then 1 else 0) = pins xs + (if 0 < v then 1 else 0) := by
  have hs : ∀ n i, Sits (xs.set k { xs[k] with held := v }) n i ↔ Sits xs n i := fun n i => by
    rw [sits_set hk]
    constructor
    · rintro (⟨e, g1, g2⟩ | ⟨_, g⟩)
      · subst e; exact ⟨hk, g1, g2⟩
      · exact g
    · intro g
      by_cases e : i = k
      · subst e; obtain ⟨_, g1, g2⟩ := g; exact .inl ⟨rfl, g1, g2⟩
      · exact .inr ⟨e, g⟩
  refine ⟨⟨fun n i j a b => h.one n i j ((hs n i).1 a) ((hs n j).1 b), fun n i a => h.low n i ((hs n i).1 a), fun i hi he => ?_, fun n i a hi => ?_, fun n hn a => ?_, fun g hg => ?_⟩, ?_⟩
  · have hi' : i < xs.length := by simpa using hi
    by_cases e : i = k
    · subst e; simp at he; obtain ⟨_, g1, _⟩ := hy; rw [g1] at he; cases he
    · have e' : ¬ k = i := fun h => e h.symm
      rw [List.getElem_set_ne e'] at he ⊢; exact h.empty i hi' he
  · have hi' : i < xs.length := by simpa using hi
    have ha := (hs n i).1 a
    by_cases e : i = k
    · subst e
      obtain ⟨_, _, g2⟩ := ha; obtain ⟨_, _, g3⟩ := hy
      have : n = y := by have : (n : Int) = y := g2.symm.trans g3; omega
      simp [this]
    · have e' : ¬ k = i := fun h => e h.symm
      have hne : n ≠ y := fun e2 => by subst e2; exact e (h.one _ _ _ ha hy)
      rw [List.getElem_set_ne e', if_neg hne]; exact h.yes n i ha hi'
  · have hne : n ≠ y := fun e2 => by subst e2; exact a k ((hs _ _).2 hy)
    rw [if_neg hne]; exact h.no n hn fun i b => a i ((hs n i).2 b)
  · rcases List.mem_or_eq_of_mem_set hg with e | e
    · exact h.nn g e
    · rw [e]; exact hv
  · have := pins_set xs k hk { xs[k] with held := v }
    rw [h.yes y k hy hk]; exact this

/-- a frame that isn't held is emptied -/
theorem Tells.dropped {xs : List Fr} {hd : Nat → Int} (h : Tells xs hd) (k : Nat) (hk : k < xs.length) (h0 : xs[k].held = 0) : Tells (xs.set k Fr.zero) hd ∧ pins (xs.set k Fr.zero) = pins xs := by
  have hs := sits_set hk Fr.zero
  have hs' : ∀ n i, Sits (xs.set k Fr.zero) n i → i ≠ k ∧ Sits xs n i := fun n i a => by
    rw [hs] at a
    rcases a with ⟨_, a1, _⟩ | a
    · simp [Fr.zero] at a1
    · exact a
  refine ⟨⟨fun n i j a b => h.one n i j (hs' n i a).2 (hs' n j b).2, fun n i a => h.low n i (hs' n i a).2, fun i hi he => ?_, fun n i a hi => ?_, fun n hn a => ?_, fun g hg => ?_⟩, ?_⟩
  · have hi' : i < xs.length := by simpa using hi
    by_cases e : i = k
    · subst e; simp [Fr.zero]
    · have e' : ¬ k = i := fun h => e h.symm
      rw [List.getElem_set_ne e'] at he ⊢; exact h.empty i hi' he
  · have hi' : i < xs.length := by simpa using hi
    obtain ⟨e, ha⟩ := hs' n i a
    have e' : ¬ k = i := fun h => e h.symm
    rw [List.getElem_set_ne e']; exact h.yes n i ha hi'
  · by_cases hx : ∃ i, Sits xs n i
    · obtain ⟨i, hi⟩ := hx
      by_cases e : i = k
      · subst e; rw [h.yes n i hi hk, h0]
      · exact absurd ((hs n i).2 (.inr ⟨e, hi⟩)) (a i)
    · exact h.no n hn fun i hi => hx ⟨i, hi⟩
  · rcases List.mem_or_eq_of_mem_set hg with e | e
    · exact h.nn g e
    · rw [e]; simp [Fr.zero]
  · have := pins_set xs k hk Fr.zero
    rw [h0] at this
    simp [Fr.zero] at this ⊢; exact this

theorem spin_tells {hd : Nat → Int} (n : Nat) : ∀ {p q : Pt} {i : Nat}, p.hand < p.frames.length → Tells p.frames hd → spin n p = some (q, i) → Tells q.frames hd ∧ pins q.frames = pins p.frames ∧ q.frames.length = p.frames.length ∧ (∃ h : i < q.frames.length, ¬ 0 < q.frames[i].held) ∧ (∀ n i, Sits q.frames n i ↔ Sits p.frames n i) := by
  induction n with
  | zero => intro p q i _ _ h; simp [spin] at h
  | succ n ih =>
    intro p q i hh ht h
    obtain ⟨hl, hhand, _, _⟩ := tick_shape p
    by_cases hx : 0 < p.frames[p.hand].held
    · have hk := tick_held p hh hx
      simp only [spin, hk, Bool.false_eq_true, if_false] at h
      exact ih (p := { p with hand := (p.hand + 1) % p.frames.length }) (Nat.mod_lt _ (by omega)) ht h
    · cases hto : p.frames[p.hand].touched with
      | false =>
        have hk := tick_stop p hh hx hto
        simp only [spin, hk, if_true] at h
        injection h with h; injection h with h1 h2
        subst h1; subst h2
        exact ⟨ht, rfl, rfl, ⟨hh, hx⟩, fun _ _ => Iff.rfl⟩
      | true =>
        have hk := tick_touched p hh hx hto
        simp only [spin, hk, Bool.false_eq_true, if_false] at h
        have hm := ht.marked p.hand hh { p.frames[p.hand] with touched := false } rfl rfl rfl
        obtain ⟨r1, r2, r3, r4, r5⟩ := ih (p := { p with hand := (p.hand + 1) % p.frames.length, frames := p.frames.set p.hand { p.frames[p.hand] with touched := false } }) (by simp only [List.length_set]; exact Nat.mod_lt _ (by omega)) hm.1 h
        refine ⟨r1, r2.trans hm.2, by rw [r3]; simp, r4, fun n i => ?_⟩
        rw [r5, sits_set hh]
        constructor
        · rintro (⟨e, g1, g2⟩ | ⟨_, g⟩)
          · subst e; exact ⟨hh, g1, g2⟩
          · exact g
        · intro g
          by_cases e : i = p.hand
          · subst e; obtain ⟨_, g1, g2⟩ := g; exact .inl ⟨rfl, g1, g2⟩
          · exact .inr ⟨e, g⟩

/-- what a touch tells -/
theorem touch_tells {p : Pt} {hd : Nat → Int} (h : Tells p.frames hd) (hh : p.hand < p.frames.length) (y : Nat) (hy : y < 16) :
    Tells (touch p y).1.frames hd ∧ pins (touch p y).1.frames = pins p.frames ∧
    (((touch p y).2.2 = 0 ∧ has (touch p y).1 y = true) ∨ ((touch p y).2.2 = 210 ∧ has (touch p y).1 y = false ∧ pins p.frames = p.frames.length)) := by
  unfold touch
  cases hf : firstOf (isPage (y : Int)) p.frames with
  | some i =>
    have hs := sits_of_first hf
    have hi := hs.1
    have hg : p.frames.getD i Fr.zero = p.frames[i] := by simp [List.getD_eq_getElem?_getD, hi]
    simp only [hg]
    have hm := h.marked i hi { p.frames[i] with touched := true } rfl rfl rfl
    refine ⟨hm.1, hm.2, .inl ⟨trivial, ?_⟩⟩
    exact first_of_sits (i := i) ((sits_set hi _ _ _).2 (.inl ⟨rfl, hs.2.1, hs.2.2⟩))
  | none =>
    have hno := no_sits hf
    by_cases hr : skips isRoom p.frames < p.frames.length
    · simp only [if_pos hr]
      have hroom : p.frames[skips isRoom p.frames].full = false := by
        have := skips_at isRoom p.frames _ hr (Nat.le_refl _)
        cases e : isRoom p.frames[skips isRoom p.frames] with
        | true => simpa [isRoom] using e
        | false => have := this.2 e; omega
      have hm := h.moved _ hr (h.empty _ hr hroom) y hy hno
      exact ⟨hm.1, hm.2, .inl ⟨trivial, first_of_sits (i := skips isRoom p.frames) ((sits_set hr _ _ _).2 (.inl ⟨rfl, rfl, rfl⟩))⟩⟩
    · simp only [if_neg hr]
      by_cases hl : skips isLoose p.frames < p.frames.length
      · simp only [if_pos hl]
        obtain ⟨q, i, hs⟩ := spin_some { p with misses := p.misses + 1 } hh hl
        simp only at hs
        rw [hs]
        obtain ⟨r1, r2, r3, ⟨r4, r5⟩, r6⟩ := spin_tells (p := { p with misses := p.misses + 1 }) _ hh h hs
        have h0 : q.frames[i].held = 0 := by have := r1.nn _ (List.getElem_mem r4); omega
        have hm := r1.moved i r4 h0 y hy (fun j hj => hno j ((r6 _ _).1 hj))
        exact ⟨hm.1, hm.2.trans r2, .inl ⟨rfl, first_of_sits (i := i) ((sits_set r4 _ _ _).2 (.inl ⟨rfl, rfl, rfl⟩))⟩⟩
      · simp only [if_neg hl]
        refine ⟨h, trivial, .inr ⟨trivial, ?_, ?_⟩⟩
        · simp [has, hf]
        · refine pins_all _ fun i hi => ?_
          have h1 := first_none hl i hi
          have h2 := h.nn _ (List.getElem_mem hi)
          simp [isLoose] at h1
          omega
theorem hold_tells {p : Pt} {hd : Nat → Int} (h : Tells p.frames hd) (y : Nat) (hy : y < 16) :
    ((hold p y).2 = false ∧ (hold p y).1 = p) ∨ ((hold p y).2 = true ∧ 0 ≤ hd y ∧ Tells (hold p y).1.frames (fun n => if n = y then hd y + 1 else hd n) ∧ pins (hold p y).1.frames + (if 0 < hd y then 1 else 0) = pins p.frames + 1) := by
  unfold hold
  cases hf : firstOf (isPage (y : Int)) p.frames with
  | none => exact .inl ⟨rfl, rfl⟩
  | some i =>
    have hs := sits_of_first hf
    have hi := hs.1
    have hv := h.yes y i hs hi
    have hn := h.nn _ (List.getElem_mem hi)
    simp only [frameAt_eq _ i hi, ← hv]
    have hm := h.reheld i hi y hs (hd y + 1) (by omega)
    have h2 := hm.2
    rw [if_pos (show 0 < hd y + 1 by omega)] at h2
    exact .inr ⟨trivial, by omega, hm.1, h2⟩
theorem release_tells {p : Pt} {hd : Nat → Int} (h : Tells p.frames hd) (y : Nat) (hy : y < 16) :
    ((release p y).2 = false ∧ (release p y).1 = p) ∨ ((release p y).2 = true ∧ 0 < hd y ∧ Tells (release p y).1.frames (fun n => if n = y then hd y - 1 else hd n) ∧ pins (release p y).1.frames + 1 = pins p.frames + (if 0 < hd y - 1 then 1 else 0)) := by
  unfold release
  cases hf : firstOf (isPage (y : Int)) p.frames with
  | none => exact .inl ⟨rfl, rfl⟩
  | some i =>
    have hs := sits_of_first hf
    have hi := hs.1
    have hv := h.yes y i hs hi
    have hn := h.nn _ (List.getElem_mem hi)
    simp only [frameAt_eq _ i hi, ← hv]
    by_cases h0 : hd y = 0
    · rw [if_pos h0]; exact .inl ⟨rfl, rfl⟩
    · rw [if_neg h0]
      have hm := h.reheld i hi y hs (hd y - 1) (by omega)
      have h2 := hm.2
      rw [if_pos (show 0 < hd y by omega)] at h2
      exact .inr ⟨rfl, by omega, hm.1, h2⟩
theorem drop_tells {p : Pt} {hd : Nat → Int} (h : Tells p.frames hd) (y : Nat) (hy : y < 16) :
    ((drop p y).2 = false ∧ (drop p y).1 = p) ∨ ((drop p y).2 = true ∧ hd y = 0 ∧ has (drop p y).1 y = false ∧ Tells (drop p y).1.frames hd ∧ pins (drop p y).1.frames = pins p.frames) := by
  unfold drop
  cases hf : firstOf (isPage (y : Int)) p.frames with
  | none => exact .inl ⟨rfl, rfl⟩
  | some i =>
    have hs := sits_of_first hf
    have hi := hs.1
    have hv := h.yes y i hs hi
    have hn := h.nn _ (List.getElem_mem hi)
    simp only [frameAt_eq _ i hi]
    by_cases h0 : 0 < p.frames[i].held
    · rw [if_pos h0]; exact .inl ⟨rfl, rfl⟩
    · rw [if_neg h0]
      have hm := h.dropped i hi (by omega)
      refine .inr ⟨rfl, by omega, ?_, hm.1, hm.2⟩
      unfold has
      cases e : firstOf (isPage (y : Int)) (p.frames.set i Fr.zero) with
      | none => rfl
      | some j =>
        have hj := sits_of_first e
        rw [sits_set hi] at hj
        rcases hj with ⟨_, a1, _⟩ | ⟨a1, a2⟩
        · simp [Fr.zero] at a1
        · exact absurd (h.one _ _ _ a2 hs) a1
theorem Tells.held_has {p : Pt} {hd : Nat → Int} (h : Tells p.frames hd) (n : Nat) (hn : n < 16) : 0 ≤ hd n ∧ (0 < hd n → has p n = true) := by
  by_cases hx : ∃ i, Sits p.frames n i
  · obtain ⟨i, hi⟩ := hx
    have := h.yes n i hi hi.1
    have h2 := h.nn _ (List.getElem_mem hi.1)
    exact ⟨by omega, fun _ => first_of_sits hi⟩
  · have := h.no n hn fun i hi => hx ⟨i, hi⟩
    exact ⟨by omega, fun h => by omega⟩
theorem newPt_tells (q : Nat) : Tells (newPt q).frames (fun _ => 0) := by
  have hs : ∀ n i, ¬ Sits (newPt q).frames n i := by
    rintro n i ⟨hi, h1, _⟩
    simp [newPt, Fr.zero] at h1
  exact ⟨fun n i j a => absurd a (hs n i), fun n i a => absurd a (hs n i), fun i hi _ => by simp [newPt, Fr.zero], fun n i a => absurd a (hs n i), fun _ _ _ => rfl, fun f hf => by simp [newPt] at hf; rw [hf.2]; simp [Fr.zero]⟩
end Go.Proofs.Ytdblpcfkiiliiaa
