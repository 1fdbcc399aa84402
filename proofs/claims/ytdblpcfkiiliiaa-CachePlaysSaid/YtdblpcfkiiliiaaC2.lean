/- The walks of the cache's functions: parts, rooms, touching. -/
import Derived.Test.YtdblpcfkiiliiaaC1
import Derived.Deep.QuietTactic
import Derived.BigQuiet
set_option linter.unusedVariables false
set_option linter.unusedSimpArgs false
namespace Go.Proofs.Ytdblpcfkiiliiaa
open Go.RowKit

/-- a cache lies in memory -/
structure CaAt (w : World) (c a cap : Nat) (pb fb : Nat → Nat) (ps : List Pt) : Prop where
  c0 : w.cell? ⟨c, 0, none⟩ = some (.slice (some ⟨a, 0, none⟩) ps.length cap)
  el : ∀ t, t < ps.length → w.cell? ⟨a, t, none⟩ = some (.pointer (some ⟨pb t, 0, none⟩))
  pt : ∀ t (h : t < ps.length), PtAt w (pb t) (fb t) ps[t]
  bc : c < w.heap.size
  ba : a < w.heap.size
  dis : ∀ t s, t < ps.length → s < ps.length → pb t ≠ fb s ∧ (t ≠ s → pb t ≠ pb s ∧ fb t ≠ fb s)
  dc : ∀ t, t < ps.length → pb t ≠ c ∧ fb t ≠ c ∧ pb t ≠ a ∧ fb t ≠ a
  n8 : ps.length ≤ 8

theorem CaAt.upd {S : Nat → Prop} {w w' : World} {c a cap : Nat} {pb fb : Nat → Nat} {ps : List Pt} (h : CaAt w c a cap pb fb ps) (k : Upd S w w') (h1 : ¬ S c) (h2 : ¬ S a) (h3 : ∀ t, t < ps.length → ¬ S (pb t) ∧ ¬ S (fb t)) : CaAt w' c a cap pb fb ps :=
  ⟨(k.cell (p := ⟨c, 0, none⟩) h.bc h1).trans h.c0, fun t ht => (k.cell (p := ⟨a, t, none⟩) h.ba h2).trans (h.el t ht), fun t ht => (h.pt t ht).upd k (h3 t ht).1 (h3 t ht).2,
    Nat.lt_of_lt_of_le h.bc k.size, Nat.lt_of_lt_of_le h.ba k.size, h.dis, h.dc, h.n8⟩
theorem CaAt.below {w w' : World} {c a cap : Nat} {pb fb : Nat → Nat} {ps : List Pt} (h : CaAt w c a cap pb fb ps) (k : Below w.heap.size w w') : CaAt w' c a cap pb fb ps :=
  h.upd (S := fun _ => False) (Upd.of_below k) id id fun _ _ => ⟨id, id⟩
/-- what a call on one part may write -/
def Of (x y : Nat) (k : Nat) : Prop := k = x ∨ k = y
theorem CaAt.set {w w' : World} {c a cap : Nat} {pb fb : Nat → Nat} {ps : List Pt} (h : CaAt w c a cap pb fb ps) (t : Nat) (ht : t < ps.length) {p : Pt} (k : Upd (Of (pb t) (fb t)) w w') (hp : PtAt w' (pb t) (fb t) p) : CaAt w' c a cap pb fb (ps.set t p) := by
  have hd := h.dc t ht
  refine ⟨?_, fun s hs => ?_, fun s hs => ?_, Nat.lt_of_lt_of_le h.bc k.size, Nat.lt_of_lt_of_le h.ba k.size, by simpa using h.dis, by simpa using h.dc, by simpa using h.n8⟩
  · rw [List.length_set]; exact (k.cell (p := ⟨c, 0, none⟩) h.bc (by rintro (e | e) <;> simp only at e <;> omega)).trans h.c0
  · exact (k.cell (p := ⟨a, s, none⟩) h.ba (by rintro (e | e) <;> simp only at e <;> omega)).trans (h.el s (by simpa using hs))
  · by_cases e : s = t
    · subst e; simpa using hp
    · have hs' : s < ps.length := by simpa using hs
      rw [List.getElem_set_ne (by omega)]
      have d1 := h.dis s t hs' ht
      have d2 := h.dis t s ht hs'
      exact (h.pt s hs').upd k (by rintro (e2 | e2) <;> omega) (by rintro (e2 | e2) <;> omega)

theorem part_nil (t : Int) (w : World) : Calls Try.prog 21 #[.pointer none, .int .i64 t] w fun e w' => e = .returned (.pointer none) ∧ w = w' := by
  go_enter Try.func21, Try.ntmps21
  go_wp2
  go_ret
  exact ⟨rfl, rfl⟩
theorem part_neg (c : Nat) (t : Int) (w : World) (ht : t < 0) : Calls Try.prog 21 #[.pointer (some ⟨c, 0, none⟩), .int .i64 t] w fun e w' => e = .returned (.pointer none) ∧ w = w' := by
  have h1 : decide (t < 0) = true := by simpa using ht
  go_enter Try.func21, Try.ntmps21
  go_wp2
  go_ret
  exact ⟨rfl, rfl⟩
theorem part_out (c a cap : Nat) (pb fb : Nat → Nat) (ps : List Pt) (t : Int) (w : World) (h : CaAt w c a cap pb fb ps) (h0 : 0 ≤ t) (ht : (ps.length : Int) ≤ t) : Calls Try.prog 21 #[.pointer (some ⟨c, 0, none⟩), .int .i64 t] w fun e w' => e = .returned (.pointer none) ∧ w = w' := by
  obtain ⟨t, rfl⟩ := Int.eq_ofNat_of_zero_le h0
  have c0 := h.c0
  have n8 := h.n8
  generalize ps.length = N at *
  have h2 : N ≤ t := by omega
  have h3 : ¬ t < N := by omega
  clear h ht h0
  go_enter Try.func21, Try.ntmps21
  go_wp2
  go_ret
  exact ⟨rfl, rfl⟩
theorem part_in (c a cap : Nat) (pb fb : Nat → Nat) (ps : List Pt) (t : Nat) (w : World) (h : CaAt w c a cap pb fb ps) (ht : t < ps.length) : Calls Try.prog 21 #[.pointer (some ⟨c, 0, none⟩), .int .i64 t] w fun e w' => e = .returned (.pointer (some ⟨pb t, 0, none⟩)) ∧ w = w' := by
  have c0 := h.c0
  have c1 := h.el t ht
  have n8 := h.n8
  generalize ps.length = N at *
  have h3 : ¬ N ≤ t := by omega
  clear h
  go_enter Try.func21, Try.ntmps21
  go_wp2
  go_ret
  exact ⟨rfl, rfl⟩

/-! ### room -/
theorem room_free (w : World) (pb fb : Nat) (p : Pt) (h : PtAt w pb fb p) (hr : skips isRoom p.frames < p.frames.length) :
    Calls Try.prog 23 #[.pointer (some ⟨pb, 0, none⟩)] w fun e w' => e = .returned (ptrTo fb (some (skips isRoom p.frames))) ∧ Below w.heap.size w w' := by
  have hb1 := h.b1
  have hb2 := h.b2
  have h64 := h.n64
  have c0 := h.c0
  have hfr := h.fr
  generalize hN : p.frames.length = N at c0 h64 hr
  have HN := Lib.hid hN; clear hN
  have Hfr := Lib.hid hfr; clear hfr
  clear h
  go_enter Try.func23, Try.ntmps23
  go_wp2_with fail
  refine (indexFunc w fb N N 28 _ p.frames isRoom HN.out h64 hb2 Hfr.out (fun _ _ => by go_simp) (pays_room _)).mono ?_
  rintro e w' ⟨rfl, hb⟩
  have d0 := (hb.cell (p := ⟨pb, 0, none⟩) hb1).trans c0
  unfold idxOf
  rw [HN.out, if_pos hr]
  generalize hq : skips isRoom p.frames = q at hr
  have Hq := Lib.hid hq; clear hq
  go_wp2_with fail
  go_ret
  refine ⟨?_, hb⟩
  rw [Hq.out]
  simp [ptrTo]

theorem room_none (w : World) (pb fb : Nat) (p : Pt) (h : PtAt w pb fb p) (hr : ¬ skips isRoom p.frames < p.frames.length) (hl : ¬ skips isLoose p.frames < p.frames.length) :
    Calls Try.prog 23 #[.pointer (some ⟨pb, 0, none⟩)] w fun e w' => e = .returned (ptrTo fb none) ∧ Below w.heap.size w w' := by
  have hb1 := h.b1
  have hb2 := h.b2
  have h64 := h.n64
  have c0 := h.c0
  have hfr := h.fr
  generalize hN : p.frames.length = N at c0 h64 hr hl
  have HN := Lib.hid hN; clear hN
  have Hfr := Lib.hid hfr; clear hfr
  clear h
  go_enter Try.func23, Try.ntmps23
  go_wp2_with fail
  refine (indexFunc w fb N N 28 _ p.frames isRoom HN.out h64 hb2 Hfr.out (fun _ _ => by go_simp) (pays_room _)).mono ?_
  rintro e w' ⟨rfl, hb⟩
  have d0 := (hb.cell (p := ⟨pb, 0, none⟩) hb1).trans c0
  unfold idxOf
  rw [HN.out, if_neg hr]
  go_wp2_with fail
  refine (containsFunc w' fb N N 30 _ p.frames isLoose HN.out h64 (Nat.lt_of_lt_of_le hb2 hb.size) (fun i hi j hj => (hb.cell (p := ⟨fb, i * 4 + j, none⟩) hb2).trans (Hfr.out i hi j hj)) (fun _ _ => by go_simp) (pays_loose _)).mono ?_
  rintro e w2 ⟨rfl, hb3⟩
  rw [HN.out, show decide (skips isLoose p.frames < N) = false from by simpa using hl]
  have hb4 := hb.trans (hb3.mono hb.size)
  go_wp2_with fail
  go_ret
  exact ⟨rfl, hb4⟩

/-- the hand stands at a frame: what becomes of the part; where the frame is the one -/
def tick (p : Pt) : Pt × Bool :=
  let f := p.frames.getD p.hand Fr.zero
  let h := (p.hand + 1) % p.frames.length
  if f.held > 0 then ({ p with hand := h }, false)
  else if f.touched then ({ p with hand := h, frames := p.frames.set p.hand { f with touched := false } }, false)
  else ({ p with hand := h }, true)
/-- so many frames at most: the part, the frame -/
def spin : Nat → Pt → Option (Pt × Nat)
  | 0, _ => none
  | k + 1, p => if (tick p).2 then some ((tick p).1, p.hand) else spin k (tick p).1

theorem spin_step {k : Nat} {p : Pt} {r : Pt × Nat} (h : spin k p = some r) : ∃ m, k = m + 1 ∧ (((tick p).2 = true ∧ r = ((tick p).1, p.hand)) ∨ ((tick p).2 = false ∧ spin m (tick p).1 = some r)) := by
  cases k with
  | zero => simp [spin] at h
  | succ m =>
    refine ⟨m, rfl, ?_⟩
    simp only [spin] at h
    split at h
    · rename_i e; exact .inl ⟨e, by injection h with h; exact h.symm⟩
    · rename_i e; exact .inr ⟨by simpa using e, h⟩
theorem tick_held (p : Pt) (hd : p.hand < p.frames.length) (h : 0 < p.frames[p.hand].held) : tick p = ({ p with hand := (p.hand + 1) % p.frames.length }, false) := by
  unfold tick
  rw [show p.frames.getD p.hand Fr.zero = p.frames[p.hand] from by simp [List.getD_eq_getElem?_getD, hd]]
  simp only [gt_iff_lt, h, if_true]
theorem tick_touched (p : Pt) (hd : p.hand < p.frames.length) (h : ¬ 0 < p.frames[p.hand].held) (ht : p.frames[p.hand].touched = true) :
    tick p = ({ p with hand := (p.hand + 1) % p.frames.length, frames := p.frames.set p.hand { p.frames[p.hand] with touched := false } }, false) := by
  unfold tick
  rw [show p.frames.getD p.hand Fr.zero = p.frames[p.hand] from by simp [List.getD_eq_getElem?_getD, hd]]
  simp only [gt_iff_lt, h, if_false, ht, if_true]
theorem tick_stop (p : Pt) (hd : p.hand < p.frames.length) (h : ¬ 0 < p.frames[p.hand].held) (ht : p.frames[p.hand].touched = false) :
    tick p = ({ p with hand := (p.hand + 1) % p.frames.length }, true) := by
  unfold tick
  rw [show p.frames.getD p.hand Fr.zero = p.frames[p.hand] from by simp [List.getD_eq_getElem?_getD, hd]]
  simp [h, ht]
theorem PtAt.drewN {w : World} {pb fb : Nat} {p : Pt} (h : PtAt w pb fb p) (n : Nat) : PtAt (w.drewN n) pb fb p := ⟨h.c0, h.c1, h.c2, h.c3, h.c4, h.c5, h.fr, h.z1, h.z2, h.b1, h.b2, h.ne, h.n1, h.n64, h.hd⟩
theorem next_hand (a N : Nat) : ((a : Int) + 1) % (N : Int) = (((a + 1) % N : Nat) : Int) := by simp

theorem room_turn (w : World) (pb fb : Nat) (p : Pt) (h : PtAt w pb fb p) (hr : ¬ skips isRoom p.frames < p.frames.length) (hl : skips isLoose p.frames < p.frames.length) (n : Nat) (p' : Pt) (i : Nat) (hs : spin n p = some (p', i)) :
    Calls Try.prog 23 #[.pointer (some ⟨pb, 0, none⟩)] w fun e w' => e = .returned (ptrTo fb (some i)) ∧ PtAt w' pb fb p' ∧ Upd (Of pb fb) w w' := by
  have hb1 := h.b1
  have hb2 := h.b2
  have h64 := h.n64
  have c0 := h.c0
  have hfr := h.fr
  generalize hN : p.frames.length = N at c0 h64 hr hl
  have HN := Lib.hid hN; clear hN
  have Hfr := Lib.hid hfr; clear hfr
  have H := Lib.hid h; clear h
  have Hs := Lib.hid hs; clear hs
  go_enter Try.func23, Try.ntmps23
  go_wp2_with fail
  refine (indexFunc w fb N N 28 _ p.frames isRoom HN.out h64 hb2 Hfr.out (fun _ _ => by go_simp) (pays_room _)).mono ?_
  rintro e w' ⟨rfl, hb⟩
  have d0 := (hb.cell (p := ⟨pb, 0, none⟩) hb1).trans c0
  unfold idxOf
  rw [HN.out, if_neg hr]
  go_wp2_with fail
  refine (containsFunc w' fb N N 30 _ p.frames isLoose HN.out h64 (Nat.lt_of_lt_of_le hb2 hb.size) (fun i hi j hj => (hb.cell (p := ⟨fb, i * 4 + j, none⟩) hb2).trans (Hfr.out i hi j hj)) (fun _ _ => by go_simp) (pays_loose _)).mono ?_
  rintro e w2 ⟨rfl, hb3⟩
  rw [HN.out, show decide (skips isLoose p.frames < N) = true from by simpa using hl]
  have hb4 := hb.trans (hb3.mono hb.size)
  have h2 := H.out.below hb4
  have H2 := Lib.hid h2; clear h2
  clear hb hb3 d0 c0 hr hl
  go_wp2_with fail
  go_loopg [5] n (fun k _ wr => ∃ pc : Pt, pc.frames.length = N ∧ PtAt wr pb fb pc ∧ Upd (Of pb fb) w wr ∧ spin k pc = some (p', i))
  case atStart => exact ⟨p, HN.out, H2.out, Upd.of_below hb4, Hs.out⟩
  case round =>
    obtain ⟨pc, hlen, hpt, hup, hsp⟩ := hrel
    have hd := hpt.hd
    have hfr := hpt.fr.four pc.hand hd
    have c0 := hpt.c0
    have c1 := hpt.c1
    have z1 := hpt.z1 1
    have z2 := hpt.z2 (pc.hand * 4 + 2)
    have ne := hpt.ne
    obtain ⟨f0, f1, f2, f3⟩ := hfr
    rw [hlen] at c0 hd
    have hlen' := hpt.hd
    have Hlen := Lib.hid hlen; clear hlen
    have Hpt := Lib.hid hpt; clear hpt
    have Hsp := Lib.hid hsp; clear hsp
    clear Hfr H Hs H2
    have h5 : (0 : Int) ≤ (pc.hand : Int) := by omega
    have h6 : (pc.hand : Int) < (N : Int) := by omega
    by_cases hh : 0 < pc.frames[pc.hand].held
    · have hsp2 := spin_step Hsp.out
      rw [tick_held pc hlen' hh] at hsp2
      obtain ⟨m, hm, hsp3⟩ := hsp2
      have hsp4 := hsp3.resolve_left (by simp)
      have Hsp4 := Lib.hid hsp4.2; have Hm := Lib.hid hm; clear hsp4 hsp3 hm
      go_wp2_with fail
      go_quiet (fail)
      go_wp2_with fail
      go_roundg m
      case measure => have := Hm.out; omega
      case rel =>
        rw [next_hand, ← Hlen.out]
        exact ⟨{ pc with hand := (pc.hand + 1) % pc.frames.length }, rfl, (Hpt.out.drewN _).setHand _ (Nat.mod_lt _ (by omega)), (hup.drewN _).setCell (.inl rfl) _, Hsp4.out⟩
    · cases ht : pc.frames[pc.hand].touched with
      | true =>
        have hsp2 := spin_step Hsp.out
        rw [tick_touched pc hlen' hh ht] at hsp2
        obtain ⟨m, hm, hsp3⟩ := hsp2
        have hsp4 := hsp3.resolve_left (by simp)
        have Hsp4 := Lib.hid hsp4.2; have Hm := Lib.hid hm; clear hsp4 hsp3 hm
        rw [ht] at f2
        clear ht
        go_wp2_with fail
        go_quiet (fail)
        go_wp2_with fail
        go_roundg m
        case measure => have := Hm.out; omega
        case rel =>
          rw [next_hand, ← Hlen.out]
          refine ⟨_, ?_, (((Hpt.out.drewN _).setHand ((pc.hand + 1) % pc.frames.length) (Nat.mod_lt _ (by omega))).setFrame pc.hand hlen' 2 (by omega) { pc.frames[pc.hand] with touched := false } ?_), ((hup.drewN _).setCell (.inl rfl) _).setCell (.inr rfl) _, Hsp4.out⟩
          · simp
          · intro j hj hne
            match j, hj with
            | 0, _ => rfl
            | 1, _ => rfl
            | 2, _ => exact absurd rfl hne
            | 3, _ => rfl
      | false =>
        have hsp2 := spin_step Hsp.out
        rw [tick_stop pc hlen' hh ht] at hsp2
        obtain ⟨m, hm, hsp3⟩ := hsp2
        have hsp4 := hsp3.resolve_right (by simp)
        have hsp5 := hsp4.2
        injection hsp5 with hsp6 hsp7
        have Hp := Lib.hid hsp6; have Hi := Lib.hid hsp7; clear hsp4 hsp3 hm hsp6 hsp7
        rw [ht] at f2
        clear ht
        go_wp2_with fail
        go_quiet (fail)
        go_wp2_with fail
        go_ret
        rw [next_hand, ← Hlen.out, Hp.out, Hi.out]
        exact ⟨rfl, (Hpt.out.drewN _).setHand _ (Nat.mod_lt _ (by omega)), (hup.drewN _).setCell (.inl rfl) _⟩
end Go.Proofs.Ytdblpcfkiiliiaa
