/- The walk of the laws' first lines. -/
import Derived.Test.YtdblpcfkiiliiaaC6
set_option linter.unusedVariables false
set_option linter.unusedSimpArgs false
namespace Go.Proofs.Ytdblpcfkiiliiaa
open Go.RowKit

section
variable {w : World} {c a cap : Nat} {pb fb : Nat → Nat} {p : Pt} {rest : List Pt} (h : CaAt w c a cap pb fb (p :: rest)) (page : Int) (hok : p.ok 1000000)
include h
theorem has0 : Calls Try.prog 16 #[.pointer (some ⟨c, 0, none⟩), .int .i64 0, .int .i64 page] w fun e w' => e = .returned (.bool (has p page)) ∧ Below w.heap.size w w' :=
  has_at w c a cap pb fb _ h 0 (by simp) 0 rfl page
theorem counts0 : Calls Try.prog 11 #[.pointer (some ⟨c, 0, none⟩), .int .i64 0] w fun e w' => e = .returned (.agg #[.int .i64 p.hits, .int .i64 p.misses, .int .i64 (fulls p.frames), .int .i64 (pins p.frames)]) ∧ Below w.heap.size w w' :=
  counts_at w c a cap pb fb _ h 0 (by simp) 0 rfl
include hok
theorem touch0 : Calls Try.prog 10 #[.pointer (some ⟨c, 0, none⟩), .int .i64 0, .int .i64 page] w fun e w' =>
    e = .returned (.tuple #[.bool (touch p page).2.1, .int .i64 (touch p page).2.2]) ∧ CaAt w' c a cap pb fb ((touch p page).1 :: rest) ∧ Upd (Of (pb 0) (fb 0)) w w' :=
  touch_any w c a cap pb fb _ h 0 (by simp) 0 rfl page hok
theorem hold0 : Calls Try.prog 13 #[.pointer (some ⟨c, 0, none⟩), .int .i64 0, .int .i64 page] w fun e w' =>
    e = .returned (.bool (hold p page).2) ∧ CaAt w' c a cap pb fb ((hold p page).1 :: rest) ∧ Upd (Of (pb 0) (fb 0)) w w' :=
  hold_any w c a cap pb fb _ h 0 (by simp) 0 rfl page hok
theorem release0 : Calls Try.prog 14 #[.pointer (some ⟨c, 0, none⟩), .int .i64 0, .int .i64 page] w fun e w' =>
    e = .returned (.bool (release p page).2) ∧ CaAt w' c a cap pb fb ((release p page).1 :: rest) ∧ Upd (Of (pb 0) (fb 0)) w w' :=
  release_any w c a cap pb fb _ h 0 (by simp) 0 rfl page hok
omit hok in
theorem drop0 : Calls Try.prog 15 #[.pointer (some ⟨c, 0, none⟩), .int .i64 0, .int .i64 page] w fun e w' =>
    e = .returned (.bool (drop p page).2) ∧ CaAt w' c a cap pb fb ((drop p page).1 :: rest) ∧ Upd (Of (pb 0) (fb 0)) w w' :=
  drop_any w c a cap pb fb _ h 0 (by simp) 0 rfl page
end

theorem ok_of (p : Pt) (h : p.hits = 0 ∨ p.hits = 1) (m : 0 ≤ p.misses ∧ p.misses ≤ 3) (f : ∀ f ∈ p.frames, 0 ≤ f.held ∧ f.held ≤ 3) : p.ok 1000000 :=
  ⟨by omega, by omega, by omega, by omega, fun x hx => by have := f x hx; omega⟩

/-- a cache of new parts -/
theorem new_cache {w w' : World} {e : Ending} {qs : List Int} {n : Nat} (h : NewEnds w w' e qs n n) (h1 : 1 ≤ n) (h8 : n ≤ 8) (hn : qs.length = n) :
    ∃ C a cap pb fb, e = .returned (.tuple #[.pointer (some ⟨C, 0, none⟩), .int .i64 0]) ∧ CaAt w' C a cap pb fb (qs.map fun q => newPt q.toNat) ∧ Below w.heap.size w w' ∧ w.heap.size ≤ C ∧ w.heap.size ≤ a ∧ (∀ t, t < n → w.heap.size ≤ pb t ∧ w.heap.size ≤ fb t) := by
  rcases h with ⟨_, C, pb, fb, v, he, hna⟩ | ⟨hlt, _⟩
  · obtain ⟨a, cap, h2, h3, h4, h5⟩ := hna.cache h1 h8 hn
    exact ⟨C, a, cap, pb, fb, he, h2, hna.below, h3, h4, h5⟩
  · omega

def q1 : Pt := ⟨[⟨1, true, true, 0⟩, Fr.zero], 0, 0, 1⟩
def q2 : Pt := ⟨[⟨1, true, true, 0⟩, ⟨2, true, true, 0⟩], 0, 0, 2⟩
def q3 : Pt := ⟨[⟨3, true, true, 0⟩, ⟨2, true, false, 0⟩], 1, 0, 3⟩
def q4 : Pt := ⟨[⟨3, true, true, 0⟩, ⟨2, true, false, 0⟩], 1, 1, 3⟩
def q5 : Pt := ⟨[⟨3, true, true, 1⟩, ⟨2, true, false, 0⟩], 1, 1, 3⟩
theorem e1 : touch (newPt 2) 1 = (q1, false, 0) := by rfl
theorem e2 : touch q1 2 = (q2, false, 0) := by rfl
theorem e3 : touch q2 3 = (q3, false, 0) := by rfl
theorem e4 : touch q3 3 = (q4, true, 0) := by rfl
theorem e5 : hold q4 3 = (q5, true) := by rfl
theorem e6 : drop q5 3 = (q5, false) := by rfl
theorem e7 : has q4 1 = false := by rfl
theorem e8 : has q4 2 = true := by rfl

theorem s1 {w : World} {C a cap : Nat} {pb fb : Nat → Nat} (h : CaAt w C a cap pb fb [newPt 2, newPt 1]) : Calls Try.prog 10 #[.pointer (some ⟨C, 0, none⟩), .int .i64 0, .int .i64 1] w fun e w' => e = .returned (.tuple #[.bool false, .int .i64 0]) ∧ CaAt w' C a cap pb fb [q1, newPt 1] ∧ Upd (Of (pb 0) (fb 0)) w w' := by
  have := touch0 h 1 (ok_of _ (.inl rfl) (by decide) (by decide))
  rw [e1] at this
  exact this
theorem s2 {w : World} {C a cap : Nat} {pb fb : Nat → Nat} (h : CaAt w C a cap pb fb [q1, newPt 1]) : Calls Try.prog 10 #[.pointer (some ⟨C, 0, none⟩), .int .i64 0, .int .i64 2] w fun e w' => e = .returned (.tuple #[.bool false, .int .i64 0]) ∧ CaAt w' C a cap pb fb [q2, newPt 1] ∧ Upd (Of (pb 0) (fb 0)) w w' := by
  have := touch0 h 2 (ok_of _ (.inl rfl) (by decide) (by decide))
  rw [e2] at this
  exact this
theorem s3 {w : World} {C a cap : Nat} {pb fb : Nat → Nat} (h : CaAt w C a cap pb fb [q2, newPt 1]) : Calls Try.prog 10 #[.pointer (some ⟨C, 0, none⟩), .int .i64 0, .int .i64 3] w fun e w' => e = .returned (.tuple #[.bool false, .int .i64 0]) ∧ CaAt w' C a cap pb fb [q3, newPt 1] ∧ Upd (Of (pb 0) (fb 0)) w w' := by
  have := touch0 h 3 (ok_of _ (.inl rfl) (by decide) (by decide))
  rw [e3] at this
  exact this
theorem s4 {w : World} {C a cap : Nat} {pb fb : Nat → Nat} (h : CaAt w C a cap pb fb [q3, newPt 1]) : Calls Try.prog 10 #[.pointer (some ⟨C, 0, none⟩), .int .i64 0, .int .i64 3] w fun e w' => e = .returned (.tuple #[.bool true, .int .i64 0]) ∧ CaAt w' C a cap pb fb [q4, newPt 1] ∧ Upd (Of (pb 0) (fb 0)) w w' := by
  have := touch0 h 3 (ok_of _ (.inl rfl) (by decide) (by decide))
  rw [e4] at this
  exact this
theorem s5 {w : World} {C a cap : Nat} {pb fb : Nat → Nat} (h : CaAt w C a cap pb fb [q4, newPt 1]) : Calls Try.prog 13 #[.pointer (some ⟨C, 0, none⟩), .int .i64 0, .int .i64 3] w fun e w' => e = .returned (.bool true) ∧ CaAt w' C a cap pb fb [q5, newPt 1] ∧ Upd (Of (pb 0) (fb 0)) w w' := by
  have := hold0 h 3 (ok_of _ (.inr rfl) (by decide) (by decide))
  rw [e5] at this
  exact this
theorem s6 {w : World} {C a cap : Nat} {pb fb : Nat → Nat} (h : CaAt w C a cap pb fb [q5, newPt 1]) : Calls Try.prog 15 #[.pointer (some ⟨C, 0, none⟩), .int .i64 0, .int .i64 3] w fun e w' => e = .returned (.bool false) ∧ CaAt w' C a cap pb fb [q5, newPt 1] ∧ Upd (Of (pb 0) (fb 0)) w w' := by
  have := drop0 h 3
  rw [e6] at this
  exact this

set_option maxRecDepth 100000 in
theorem first_any (w : World) : Calls Try.prog 8 #[] w fun e w' => e = .returned (.bool true) ∧ Below w.heap.size w w' := by
  go_enter Try.func8, Try.ntmps8
  go_wp2_with fail
  refine (new_any (w.alloc (.cells #[.int .i64 2, .int .i64 1] 3)) w.heap.size 0 2 [2, 1] 2 rfl (by omega) (by omega) ⟨fun i hi => by match i, hi with | 0, _ => simp | 1, _ => simp, by simp⟩ 2 (by omega) (fun i hi _ => by match i, hi with | 0, _ => simp | 1, _ => simp) (fun h => by simp at h)).mono ?_
  rintro e w1 hn
  obtain ⟨C, a, cap, pb, fb, rfl, hc, hb, b1, b2, b3⟩ := new_cache hn (by omega) (by omega) rfl
  have hbb : Below w.heap.size w w1 := ((Below.refl _ _).alloc (Nat.le_refl _) _).trans (hb.mono (by simp))
  have hb0 : w.heap.size ≤ pb 0 ∧ w.heap.size ≤ fb 0 := by have := b3 0 (by omega); simp at this; omega
  have hc' : CaAt w1 C a cap pb fb [newPt 2, newPt 1] := hc
  have Hc := Lib.hid hc'; clear hc hc' hn hb b1 b2 b3
  have hof : ∀ i, Of (pb 0) (fb 0) i → w.heap.size ≤ i := fun i hi => by rcases hi with rfl | rfl <;> omega
  have Hof := Lib.hid hof; clear hof hb0
  go_wp2_with fail
  refine (new_bad w1 _ 0 none 0 rfl (by omega) (by omega)).mono ?_
  rintro e w2 ⟨rfl, rfl⟩
  go_wp2_with fail
  refine (s1 Hc.out).mono ?_
  rintro e w2 ⟨rfl, hc, hu⟩
  have hb' := Upd.below hbb hu Hof.out hbb.size
  clear hbb Hc
  have hbb := hb'
  have Hc := Lib.hid hc; clear hc hu hb'
  go_wp2_with fail
  refine (s2 Hc.out).mono ?_
  rintro e w3 ⟨rfl, hc, hu⟩
  have hb' := Upd.below hbb hu Hof.out hbb.size
  clear hbb Hc
  have hbb := hb'
  have Hc := Lib.hid hc; clear hc hu hb'
  go_wp2_with fail
  refine (s3 Hc.out).mono ?_
  rintro e w4 ⟨rfl, hc, hu⟩
  have hb' := Upd.below hbb hu Hof.out hbb.size
  clear hbb Hc
  have hbb := hb'
  have Hc := Lib.hid hc; clear hc hu hb'
  go_wp2_with fail
  refine (s4 Hc.out).mono ?_
  rintro e w5 ⟨rfl, hc, hu⟩
  have hb' := Upd.below hbb hu Hof.out hbb.size
  clear hbb Hc
  have hbb := hb'
  have Hc := Lib.hid hc; clear hc hu hb'
  have h1 := has0 Hc.out 1
  rw [e7] at h1
  have H1 := Lib.hid h1; clear h1
  go_wp2_with fail
  refine H1.out.mono ?_
  rintro e w6 ⟨rfl, hb⟩
  have hc := Hc.out.below hb
  have hb' := hbb.trans (hb.mono hbb.size)
  clear hbb Hc H1
  have hbb := hb'
  have Hc := Lib.hid hc; clear hc hb hb'
  have h1 := has0 Hc.out 2
  rw [e8] at h1
  have H1 := Lib.hid h1; clear h1
  go_wp2_with fail
  refine H1.out.mono ?_
  rintro e w7 ⟨rfl, hb⟩
  have hc := Hc.out.below hb
  have hb' := hbb.trans (hb.mono hbb.size)
  clear hbb Hc H1
  have hbb := hb'
  have Hc := Lib.hid hc; clear hc hb hb'
  go_wp2_with fail
  refine (counts0 Hc.out).mono ?_
  rintro e w8 ⟨rfl, hb⟩
  simp only [show q4.hits = 1 from rfl, show q4.misses = 3 from rfl, show fulls q4.frames = 2 from rfl, show pins q4.frames = 0 from rfl]
  have hc := Hc.out.below hb
  have hb' := hbb.trans (hb.mono hbb.size)
  clear hbb Hc
  have hbb := hb'
  have Hc := Lib.hid hc; clear hc hb hb'
  go_wp2_with fail
  refine (counts_at _ _ _ _ _ _ _ Hc.out 1 (by simp) 1 rfl).mono ?_
  rintro e w9 ⟨rfl, hb⟩
  simp only [List.getElem_cons_succ, List.getElem_cons_zero, show (newPt 1).hits = 0 from rfl, show (newPt 1).misses = 0 from rfl, show fulls (newPt 1).frames = 0 from rfl, show pins (newPt 1).frames = 0 from rfl]
  have hc := Hc.out.below hb
  have hb' := hbb.trans (hb.mono hbb.size)
  clear hbb Hc
  have hbb := hb'
  have Hc := Lib.hid hc; clear hc hb hb'
  go_wp2_with fail
  refine (s5 Hc.out).mono ?_
  rintro e w10 ⟨rfl, hc, hu⟩
  have hb' := Upd.below hbb hu Hof.out hbb.size
  clear hbb Hc
  have hbb := hb'
  have Hc := Lib.hid hc; clear hc hu hb'
  go_wp2_with fail
  refine (s6 Hc.out).mono ?_
  rintro e w11 ⟨rfl, hc, hu⟩
  have hb' := Upd.below hbb hu Hof.out hbb.size
  clear hbb Hc
  have hbb := hb'
  have Hc := Lib.hid hc; clear hc hu hb'
  go_wp2_with fail
  go_ret
  exact ⟨rfl, hbb⟩
end Go.Proofs.Ytdblpcfkiiliiaa
