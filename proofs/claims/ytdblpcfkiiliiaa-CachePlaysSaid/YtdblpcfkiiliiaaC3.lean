/- The walks of the cache's exported functions. -/
import Derived.Test.YtdblpcfkiiliiaaC2
set_option linter.unusedVariables false
set_option linter.unusedSimpArgs false
namespace Go.Proofs.Ytdblpcfkiiliiaa
open Go.RowKit

def fresh (page : Int) : Fr := ⟨page, true, true, 0⟩
/-- a part is touched -/
def touch (p : Pt) (page : Int) : Pt × Bool × Int :=
  match firstOf (isPage page) p.frames with
  | some i => ({ p with hits := p.hits + 1, frames := p.frames.set i { p.frames.getD i Fr.zero with touched := true } }, true, 0)
  | none =>
    if skips isRoom p.frames < p.frames.length then ({ p with misses := p.misses + 1, frames := p.frames.set (skips isRoom p.frames) (fresh page) }, false, 0)
    else if skips isLoose p.frames < p.frames.length then
      match spin (2 * p.frames.length + 1) { p with misses := p.misses + 1 } with
      | some (q, i) => ({ q with frames := q.frames.set i (fresh page) }, false, 0)
      | none => (p, false, 0)
    else ({ p with misses := p.misses + 1 }, false, 210)

theorem firstOf_some {p : Fr → Bool} {xs : List Fr} {i : Nat} (h : firstOf p xs = some i) : ∃ hi : i < xs.length, p xs[i] = true := by
  unfold firstOf at h
  split at h
  · rename_i hl
    injection h with h
    subst h
    refine ⟨hl, ?_⟩
    have := skips_at p xs _ hl (Nat.le_refl _)
    cases e : p xs[skips p xs] with
    | true => rfl
    | false => have := this.2 e; omega
  · simp at h

theorem PtAt.setAll {w : World} {pb fb : Nat} {p : Pt} (h : PtAt w pb fb p) (k : Nat) (hk : k < p.frames.length) (f : Fr) :
    PtAt ((((w.setCell ⟨fb, k * 4, none⟩ (.int .i64 f.page)).setCell ⟨fb, k * 4 + 1, none⟩ (.bool f.full)).setCell ⟨fb, k * 4 + 2, none⟩ (.bool f.touched)).setCell ⟨fb, k * 4 + 3, none⟩ (.int .i64 f.held)) pb fb { p with frames := p.frames.set k f } := by
  have h0 := h.setFrame k hk 0 (by omega) { p.frames[k] with page := f.page } (fun j hj hne => by match j, hj with | 0, _ => exact absurd rfl hne | 1, _ => rfl | 2, _ => rfl | 3, _ => rfl)
  have h1 := h0.setFrame k (by simpa using hk) 1 (by omega) { p.frames[k] with page := f.page, full := f.full } (fun j hj hne => by simp only [List.getElem_set_self]; match j, hj with | 0, _ => rfl | 1, _ => exact absurd rfl hne | 2, _ => rfl | 3, _ => rfl)
  have h2 := h1.setFrame k (by simpa using hk) 2 (by omega) { p.frames[k] with page := f.page, full := f.full, touched := f.touched } (fun j hj hne => by simp only [List.getElem_set_self]; match j, hj with | 0, _ => rfl | 1, _ => rfl | 2, _ => exact absurd rfl hne | 3, _ => rfl)
  have h3 := h2.setFrame k (by simpa using hk) 3 (by omega) f (fun j hj hne => by simp only [List.getElem_set_self]; match j, hj with | 0, _ => rfl | 1, _ => rfl | 2, _ => rfl | 3, _ => exact absurd rfl hne)
  simpa [Fr.cell, List.set_set] using h3

theorem touch_hit (w : World) (c a cap : Nat) (pb fb : Nat → Nat) (ps : List Pt) (h : CaAt w c a cap pb fb ps) (t : Nat) (ht : t < ps.length) (page : Int) (i : Nat) (hf : firstOf (isPage page) ps[t].frames = some i)
    (b0 : 0 ≤ ps[t].hits) (b1 : ps[t].hits ≤ 1000000) :
    Calls Try.prog 10 #[.pointer (some ⟨c, 0, none⟩), .int .i64 t, .int .i64 page] w fun e w' => e = .returned (.tuple #[.bool true, .int .i64 0]) ∧
      PtAt w' (pb t) (fb t) { ps[t] with hits := ps[t].hits + 1, frames := ps[t].frames.set i { ps[t].frames.getD i Fr.zero with touched := true } } ∧ Upd (Of (pb t) (fb t)) w w' := by
  have hp := h.pt t ht
  obtain ⟨hi, _⟩ := firstOf_some hf
  have H := Lib.hid h; clear h
  have Hp := Lib.hid hp; clear hp
  have Hf := Lib.hid hf; clear hf
  go_enter Try.func10, Try.ntmps10
  go_wp2_with fail
  refine (part_in c a cap pb fb ps t w H.out ht).mono ?_
  rintro e w' ⟨rfl, rfl⟩
  go_wp2_with fail
  refine (find_any w (pb t) (fb t) ps[t] Hp.out page).mono ?_
  rintro e w' ⟨rfl, hb⟩
  rw [Hf.out]
  have hp2 := Hp.out.below hb
  have c2 := hp2.c2
  have fr := hp2.fr.four i hi
  have z1 := hp2.z1 2
  have z2 := hp2.z2 (i * 4 + 2)
  have ne := hp2.ne
  have Hp2 := Lib.hid hp2; clear hp2
  have hu : Upd (Of (pb t) (fb t)) w w' := Upd.of_below hb
  clear hb
  obtain ⟨f0, f1, f2, f3⟩ := fr
  simp only [ptrTo, Option.map_some]
  go_wp2_with fail
  go_ret2
  refine ⟨rfl, ?_, (hu.setCell (.inl rfl) _).setCell (.inr rfl) _⟩
  have hg : ps[t].frames.getD i Fr.zero = ps[t].frames[i] := by simp [List.getD_eq_getElem?_getD, hi]
  rw [hg]
  exact (Hp2.out.setHits (ps[t].hits + 1)).setFrame i hi 2 (by omega) { ps[t].frames[i] with touched := true } (fun j hj hne => by match j, hj with | 0, _ => rfl | 1, _ => rfl | 2, _ => exact absurd rfl hne | 3, _ => rfl)

theorem room_free' (w : World) (pb fb : Nat) (p : Pt) (h : PtAt w pb fb p) (i : Nat) (hi : skips isRoom p.frames = i) (hr : i < p.frames.length) :
    Calls Try.prog 23 #[.pointer (some ⟨pb, 0, none⟩)] w fun e w' => e = .returned (ptrTo fb (some i)) ∧ Below w.heap.size w w' := by
  subst hi
  exact room_free w pb fb p h hr
theorem touch_free (w : World) (c a cap : Nat) (pb fb : Nat → Nat) (ps : List Pt) (h : CaAt w c a cap pb fb ps) (t : Nat) (ht : t < ps.length) (page : Int) (hf : firstOf (isPage page) ps[t].frames = none)
    (q : Nat) (hq : skips isRoom ps[t].frames = q) (hr : q < ps[t].frames.length) (b0 : 0 ≤ ps[t].misses) (b1 : ps[t].misses ≤ 1000000) :
    Calls Try.prog 10 #[.pointer (some ⟨c, 0, none⟩), .int .i64 t, .int .i64 page] w fun e w' => e = .returned (.tuple #[.bool false, .int .i64 0]) ∧
      PtAt w' (pb t) (fb t) { ps[t] with misses := ps[t].misses + 1, frames := ps[t].frames.set q (fresh page) } ∧ Upd (Of (pb t) (fb t)) w w' := by
  have hp := h.pt t ht
  have H := Lib.hid h; clear h
  have Hp := Lib.hid hp; clear hp
  have Hf := Lib.hid hf; clear hf
  have Hr := Lib.hid hr; clear hr
  have Hq := Lib.hid hq; clear hq
  go_enter Try.func10, Try.ntmps10
  go_wp2_with fail
  refine (part_in c a cap pb fb ps t w H.out ht).mono ?_
  rintro e w' ⟨rfl, rfl⟩
  go_wp2_with fail
  refine (find_any w (pb t) (fb t) ps[t] Hp.out page).mono ?_
  rintro e w' ⟨rfl, hb⟩
  rw [Hf.out]
  have hp2 := Hp.out.below hb
  have c3 := hp2.c3
  have z1 := hp2.z1 3
  have Hp2 := Lib.hid hp2; clear hp2
  have hu : Upd (Of (pb t) (fb t)) w w' := Upd.of_below hb
  clear hb
  simp only [ptrTo, Option.map_none]
  go_wp2_with fail
  refine (room_free' _ (pb t) (fb t) _ (Hp2.out.setMisses (ps[t].misses + 1)) q Hq.out Hr.out).mono ?_
  rintro e w2 ⟨rfl, hb⟩
  have hp3 := (Hp2.out.setMisses (ps[t].misses + 1)).below hb
  have hu2 : Upd (Of (pb t) (fb t)) w w2 := (hu.setCell (p := ⟨pb t, 3, none⟩) (.inl rfl) _).trans (Upd.of_below hb)
  have fr := hp3.fr.four q Hr.out
  have z2 := hp3.z2 (q * 4)
  have z3 := hp3.z2 (q * 4 + 1)
  have z4 := hp3.z2 (q * 4 + 2)
  have z5 := hp3.z2 (q * 4 + 3)
  have Hp3 := Lib.hid hp3; clear hp3
  obtain ⟨f0, f1, f2, f3⟩ := fr
  clear hu hb
  simp only [ptrTo, Option.map_some]
  go_wp2_with fail
  go_ret2
  refine ⟨rfl, ?_, (((hu2.setCell (.inr rfl) _).setCell (.inr rfl) _).setCell (.inr rfl) _).setCell (.inr rfl) _⟩
  exact Hp3.out.setAll q Hr.out (fresh page)

theorem touch_pin (w : World) (c a cap : Nat) (pb fb : Nat → Nat) (ps : List Pt) (h : CaAt w c a cap pb fb ps) (t : Nat) (ht : t < ps.length) (page : Int) (hf : firstOf (isPage page) ps[t].frames = none)
    (hr : ¬ skips isRoom ps[t].frames < ps[t].frames.length) (hl : ¬ skips isLoose ps[t].frames < ps[t].frames.length) (b0 : 0 ≤ ps[t].misses) (b1 : ps[t].misses ≤ 1000000) :
    Calls Try.prog 10 #[.pointer (some ⟨c, 0, none⟩), .int .i64 t, .int .i64 page] w fun e w' => e = .returned (.tuple #[.bool false, .int .i64 210]) ∧
      PtAt w' (pb t) (fb t) { ps[t] with misses := ps[t].misses + 1 } ∧ Upd (Of (pb t) (fb t)) w w' := by
  have hp := h.pt t ht
  have H := Lib.hid h; clear h
  have Hp := Lib.hid hp; clear hp
  have Hf := Lib.hid hf; clear hf
  have Hr := Lib.hid hr; clear hr
  have Hl := Lib.hid hl; clear hl
  go_enter Try.func10, Try.ntmps10
  go_wp2_with fail
  refine (part_in c a cap pb fb ps t w H.out ht).mono ?_
  rintro e w' ⟨rfl, rfl⟩
  go_wp2_with fail
  refine (find_any w (pb t) (fb t) ps[t] Hp.out page).mono ?_
  rintro e w' ⟨rfl, hb⟩
  rw [Hf.out]
  have hp2 := Hp.out.below hb
  have c3 := hp2.c3
  have z1 := hp2.z1 3
  have Hp2 := Lib.hid hp2; clear hp2
  have hu : Upd (Of (pb t) (fb t)) w w' := Upd.of_below hb
  clear hb
  simp only [ptrTo, Option.map_none]
  go_wp2_with fail
  refine (room_none _ (pb t) (fb t) _ (Hp2.out.setMisses (ps[t].misses + 1)) Hr.out Hl.out).mono ?_
  rintro e w2 ⟨rfl, hb⟩
  have hp3 := (Hp2.out.setMisses (ps[t].misses + 1)).below hb
  have hu2 : Upd (Of (pb t) (fb t)) w w2 := (hu.setCell (p := ⟨pb t, 3, none⟩) (.inl rfl) _).trans (Upd.of_below hb)
  have Hp3 := Lib.hid hp3; clear hp3
  clear hu hb
  simp only [ptrTo, Option.map_none]
  go_wp2_with fail
  go_ret2
  exact ⟨rfl, Hp3.out, hu2⟩

theorem spin_lt {n : Nat} {p q : Pt} {i : Nat} (hp : p.hand < p.frames.length) (h : spin n p = some (q, i)) : i < q.frames.length := by
  induction n generalizing p with
  | zero => simp [spin] at h
  | succ n ih =>
    have hl : (tick p).1.frames.length = p.frames.length := by unfold tick; dsimp only; split <;> (try split) <;> simp
    have hh : (tick p).1.hand < (tick p).1.frames.length := by
      have : (tick p).1.hand = (p.hand + 1) % p.frames.length := by unfold tick; dsimp only; split <;> (try split) <;> simp
      rw [this, hl]; exact Nat.mod_lt _ (by omega)
    simp only [spin] at h
    split at h
    · injection h with h
      injection h with h1 h2
      rw [← h1, hl, ← h2]; exact hp
    · exact ih hh h

theorem touch_turn (w : World) (c a cap : Nat) (pb fb : Nat → Nat) (ps : List Pt) (h : CaAt w c a cap pb fb ps) (t : Nat) (ht : t < ps.length) (page : Int) (hf : firstOf (isPage page) ps[t].frames = none)
    (hr : ¬ skips isRoom ps[t].frames < ps[t].frames.length) (hl : skips isLoose ps[t].frames < ps[t].frames.length) (n : Nat) (q : Pt) (i : Nat) (hs : spin n { ps[t] with misses := ps[t].misses + 1 } = some (q, i)) (b0 : 0 ≤ ps[t].misses) (b1 : ps[t].misses ≤ 1000000) :
    Calls Try.prog 10 #[.pointer (some ⟨c, 0, none⟩), .int .i64 t, .int .i64 page] w fun e w' => e = .returned (.tuple #[.bool false, .int .i64 0]) ∧
      PtAt w' (pb t) (fb t) { q with frames := q.frames.set i (fresh page) } ∧ Upd (Of (pb t) (fb t)) w w' := by
  have hp := h.pt t ht
  have hi := spin_lt (p := { ps[t] with misses := ps[t].misses + 1 }) hp.hd hs
  have H := Lib.hid h; clear h
  have Hp := Lib.hid hp; clear hp
  have Hf := Lib.hid hf; clear hf
  have Hr := Lib.hid hr; clear hr
  have Hl := Lib.hid hl; clear hl
  have Hs := Lib.hid hs; clear hs
  go_enter Try.func10, Try.ntmps10
  go_wp2_with fail
  refine (part_in c a cap pb fb ps t w H.out ht).mono ?_
  rintro e w' ⟨rfl, rfl⟩
  go_wp2_with fail
  refine (find_any w (pb t) (fb t) ps[t] Hp.out page).mono ?_
  rintro e w' ⟨rfl, hb⟩
  rw [Hf.out]
  have hp2 := Hp.out.below hb
  have c3 := hp2.c3
  have z1 := hp2.z1 3
  have Hp2 := Lib.hid hp2; clear hp2
  have hu : Upd (Of (pb t) (fb t)) w w' := Upd.of_below hb
  clear hb
  simp only [ptrTo, Option.map_none]
  go_wp2_with fail
  refine (room_turn _ (pb t) (fb t) _ (Hp2.out.setMisses (ps[t].misses + 1)) Hr.out Hl.out n q i Hs.out).mono ?_
  rintro e w2 ⟨rfl, hp3, hu1⟩
  have hu2 : Upd (Of (pb t) (fb t)) w w2 := (hu.setCell (p := ⟨pb t, 3, none⟩) (.inl rfl) _).trans hu1
  have fr := hp3.fr.four i hi
  have z2 := hp3.z2 (i * 4)
  have z3 := hp3.z2 (i * 4 + 1)
  have z4 := hp3.z2 (i * 4 + 2)
  have z5 := hp3.z2 (i * 4 + 3)
  have Hp3 := Lib.hid hp3; clear hp3
  obtain ⟨f0, f1, f2, f3⟩ := fr
  clear hu hu1
  simp only [ptrTo, Option.map_some]
  go_wp2_with fail
  go_ret2
  refine ⟨rfl, ?_, (((hu2.setCell (.inr rfl) _).setCell (.inr rfl) _).setCell (.inr rfl) _).setCell (.inr rfl) _⟩
  exact Hp3.out.setAll i hi (fresh page)
end Go.Proofs.Ytdblpcfkiiliiaa
