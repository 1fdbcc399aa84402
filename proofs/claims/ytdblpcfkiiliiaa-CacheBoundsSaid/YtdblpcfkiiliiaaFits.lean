/- The walk of CacheFits. -/
import Derived.Test.YtdblpcfkiiliiaaC7
import Derived.Test.YtdblpcfkiiliiaaC8
set_option linter.unusedVariables false
set_option linter.unusedSimpArgs false
namespace Go.Proofs.Ytdblpcfkiiliiaa
open Go.RowKit

/-- bytes are read -/
structure Bytes8 (w : World) (A : Option Addr) (xs : List Int) : Prop where
  cell : ∀ i, ∀ h : i < xs.length, ∃ b off, A = some ⟨b, off, none⟩ ∧ b < w.heap.size ∧ w.cell? ⟨b, off + i, none⟩ = some (.int .u8 xs[i])
  rng : ∀ x ∈ xs, 0 ≤ x ∧ x ≤ 255
/-- which pages have been seen -/
structure SeenAt (w : World) (S : Nat) (l : List Int) : Prop where
  cell : ∀ k : Nat, k < 12 → w.cell? ⟨S, k, none⟩ = some (.bool (decide ((k : Int) ∈ l)))
  fz : ∀ o, w.frozen? ⟨S, o, none⟩ = false
  lt : S < w.heap.size

theorem new_one (W : World) (b : Nat) (q : Nat) (h1 : 1 ≤ q) (h64 : q ≤ 64) (hb : b < W.heap.size) (hc : W.cell? ⟨b, 0, none⟩ = some (.int .i64 q)) :
    Calls Try.prog 9 #[.slice (some ⟨b, 0, none⟩) 1 1] W fun e w' => ∃ C a cap pb fb, e = .returned (.tuple #[.pointer (some ⟨C, 0, none⟩), .int .i64 0]) ∧ CaAt w' C a cap pb fb [newPt q] ∧ Below W.heap.size W w' ∧ W.heap.size ≤ pb 0 ∧ W.heap.size ≤ fb 0 := by
  refine (new_any W b 0 1 [(q : Int)] 1 rfl (by omega) (by omega) ⟨fun i hi => by match i, hi with | 0, _ => simpa using hc, hb⟩ 1 (by omega) (fun i hi _ => by match i, hi with | 0, _ => simp; omega) (fun h => by simp at h)).mono ?_
  rintro e w1 hn
  obtain ⟨C, a, cap, pb, fb, rfl, hc, hb, b1, b2, b3⟩ := new_cache hn (by omega) (by omega) rfl
  have b4 := b3 0 (by omega)
  exact ⟨C, a, cap, pb, fb, rfl, by simpa using hc, hb, b4.1, b4.2⟩
theorem SeenAt.kept {T : Nat → Prop} {w w' : World} {S : Nat} {l : List Int} (h : SeenAt w S l) (k : Upd T w w') (hs : ¬ T S) : SeenAt w' S l :=
  ⟨fun i hi => (k.cell (p := ⟨S, i, none⟩) h.lt hs).trans (h.cell i hi), fun o => (k.frozen (p := ⟨S, o, none⟩) h.lt hs).trans (h.fz o), Nat.lt_of_lt_of_le h.lt k.size⟩
theorem SeenAt.set {w : World} {S : Nat} {l l' : List Int} (h : SeenAt w S l) (k : Nat) (hk : k < 12) (hl : ∀ j : Nat, ((j : Int) ∈ l') ↔ ((j : Int) ∈ l ∨ j = k)) : SeenAt (w.setCell ⟨S, k, none⟩ (.bool true)) S l' := by
  refine ⟨fun j hj => ?_, fun o => by rw [World.frozen?_setCell]; exact h.fz o, by simpa [World.setCell] using h.lt⟩
  rw [cell_set (h.cell j hj)]
  by_cases e : j = k
  · subst e
    rw [if_pos rfl]
    have := (hl j).2 (.inr rfl)
    simp [this]
  · rw [if_neg (fun e2 => e (by injection e2 with _ e3; exact e3.symm))]
    have : ((j : Int) ∈ l') ↔ ((j : Int) ∈ l) := by rw [hl j]; simp [e]
    simp [this]

theorem seen_store {w w3 : World} {S C a ca y : Nat} {pb fb : Nat → Nat} {P : Pt} {l l' : List Int} (hc : CaAt w3 C a ca pb fb [P]) (hs : SeenAt w3 S l) (h1 : C ≠ S) (h2 : a ≠ S) (h3 : pb 0 ≠ S) (h4 : fb 0 ≠ S) (hy : y < 12)
    (hl : ∀ j : Nat, ((j : Int) ∈ l') ↔ ((j : Int) ∈ l ∨ j = y)) (hb : Below w.heap.size w w3) (hS : w.heap.size ≤ S) :
    CaAt (w3.setCell ⟨S, y, none⟩ (.bool true)) C a ca pb fb [P] ∧ SeenAt (w3.setCell ⟨S, y, none⟩ (.bool true)) S l' ∧ Below w.heap.size w (w3.setCell ⟨S, y, none⟩ (.bool true)) := by
  have hu : Upd (fun k => k = S) w3 (w3.setCell ⟨S, y, none⟩ (.bool true)) := Upd.setCell (S := fun k => k = S) (Upd.refl _ w3) (p := ⟨S, y, none⟩) rfl _
  refine ⟨hc.upd hu h1 h2 (fun t ht => ?_), hs.set y hy hl, hb.setCell hS _⟩
  have : t = 0 := by simpa using ht
  subst this
  exact ⟨h3, h4⟩

set_option maxHeartbeats 4000000 in
set_option maxRecDepth 100000 in
theorem fits_walk (w : World) (u : Int) (hu0 : 0 ≤ u) (hu1 : u ≤ 255) (A : Option Addr) (n cap : Nat) (xs : List Int) (hn : xs.length = n) (hm : n ≤ 9223372036854775807) (hx : Bytes8 w A xs) :
    Calls Try.prog 3 #[.int .u8 u, .slice A n cap] w fun e w' => e = .returned (.bool true) ∧ Below w.heap.size w w' := by
  have Hx := Lib.hid hx; clear hx
  have Hn := Lib.hid hn; clear hn
  go_enter Try.func3, Try.ntmps3
  go_wp2_with fail
  refine (first_any w).mono ?_
  rintro e w1 ⟨rfl, hb1⟩
  go_wp2_with fail
  obtain ⟨q, hq⟩ := Int.eq_ofNat_of_zero_le (show (0 : Int) ≤ 1 + u % 12 by omega)
  have hq1 : 1 ≤ q := by omega
  have hq12 : q ≤ 12 := by omega
  rw [hq]
  clear hq hu0 hu1
  refine (new_one _ w1.heap.size q hq1 (by omega) (by simp) (by simp)).mono ?_
  rintro e w2 ⟨C, a, ca, pb, fb, rfl, hc, hb2, hp0, hf0⟩
  have hsz : w1.heap.size < w2.heap.size := by have := hb2.size; simp at this; omega
  have hbb : Below w.heap.size w w2 := (hb1.alloc hb1.size _).trans (hb2.mono (by have := hb1.size; simp; omega))
  have hpp : w.heap.size ≤ pb 0 ∧ w.heap.size ≤ fb 0 := by have := hb1.size; simp at hp0 hf0; omega
  have hpt := hc.pt 0 (by simp)
  have hlt : pb 0 < w2.heap.size ∧ fb 0 < w2.heap.size := ⟨hpt.b1, hpt.b2⟩
  have hbc := hc.bc
  have hba := hc.ba
  have hww := hbb.size
  clear hb1 hb2 hp0 hf0 hsz hpt
  have Hc := Lib.hid hc; clear hc
  obtain ⟨hpp1, hpp2⟩ := hpp
  obtain ⟨hlt1, hlt2⟩ := hlt
  go_wp2_with fail
  go_loopg [9, 30] n (fun k v i wr => ∃ (j : Nat) (l : List Int), j ≤ n ∧ j ≤ 200 ∧ k = n - j ∧ i = .int .i64 j ∧ v = .int .i64 l.length ∧ l.length ≤ j ∧ CaAt wr C a ca pb fb [fits q l (j - l.length)] ∧ SeenAt wr w2.heap.size l ∧ l.Nodup ∧ (∀ x ∈ l, 0 ≤ x ∧ x < q) ∧ Below w.heap.size w wr)
  case atStart =>
    refine ⟨0, [], by omega, by omega, by omega, rfl, rfl, by simp, ?_, ?_, by simp, by simp, hbb.alloc hbb.size _⟩
    · have : fits q [] ((0 : Nat) - ([] : List Int).length) = newPt q := by simp [fits, newPt]
      rw [this]
      exact Hc.out.below ((Below.refl _ _).alloc (Nat.le_refl _) _)
    · refine ⟨fun k hk => ?_, fun o => by simp, by simp⟩
      match k, hk with
      | 0, _ => simp
      | 1, _ => simp
      | 2, _ => simp
      | 3, _ => simp
      | 4, _ => simp
      | 5, _ => simp
      | 6, _ => simp
      | 7, _ => simp
      | 8, _ => simp
      | 9, _ => simp
      | 10, _ => simp
      | 11, _ => simp
  case round =>
    obtain ⟨j, l, hj, hj2, hk, rfl, rfl, hl, hc, hs, hnd, hr, hb⟩ := hrel
    have Hk := Lib.hid hk; clear hk hbb
    have Hc2 := Lib.hid hc; clear hc Hc
    have Hs := Lib.hid hs; clear hs
    have Hnd := Lib.hid hnd; clear hnd
    have Hr := Lib.hid hr; clear hr
    by_cases hjn : j < n
    · have hlx : j < xs.length := by rw [Hn.out]; exact hjn
      have hrg := Hx.out.rng xs[j] (List.getElem_mem hlx)
      obtain ⟨b, off, hA, hbs, hcell⟩ := Hx.out.cell j hlx
      have hcell2 := (hb.cell (p := ⟨b, off + j, none⟩) hbs).trans hcell
      subst hA
      clear hcell
      by_cases hj200 : j < 200
      · obtain ⟨x, hx⟩ := Int.eq_ofNat_of_zero_le hrg.1
        rw [hx] at hcell2 hrg
        clear hx
        obtain ⟨hr0, hr1⟩ := hrg
        have hge : ¬ (200 : Int) ≤ j := by omega
        have hq0 : (0 : Int) < q := by omega
        have hy0 := Int.emod_nonneg (x : Int) (show (q : Int) ≠ 0 by omega)
        have hy1 := Int.emod_lt_of_pos (x : Int) hq0
        go_wp2_with fail
        obtain ⟨y, hy⟩ := Int.eq_ofNat_of_zero_le hy0
        rw [hy] at hy1 ⊢
        clear hy hy0 hcell2 hr0 hr1
        have hy12 : y < 12 := by omega
        have hok := fits_ok q l (j - l.length) (by omega) (by omega) (by omega)
        have hst : ¬ Of (pb 0) (fb 0) w2.heap.size := by rintro (e | e) <;> omega
        have hof : ∀ i, Of (pb 0) (fb 0) i → w.heap.size ≤ i := by rintro i (e | e) <;> omega
        by_cases hm : (y : Int) ∈ l
        · skip
          have ht := touch0 Hc2.out y hok
          rw [fits_hit q l _ y hm] at ht
          refine ht.mono ?_
          rintro e w3 ⟨rfl, hc3, hu⟩
          have hb3 := Upd.below hb hu hof hb.size
          have hs3 := Hs.out.kept hu hst
          have s0 := hs3.cell y hy12
          rw [show decide ((y : Int) ∈ l) = true from by simpa using hm] at s0
          have s1 := hs3.fz y
          have hlt3 := hs3.lt
          have Hs3 := Lib.hid hs3; have Hc3 := Lib.hid hc3
          clear hc3 hs3 ht hst hof hu hb Hc2 Hs hok
          have Hm := Lib.hid hm; clear hm
          go_wp2_with fail
          obtain ⟨hc4, hs4, hb4⟩ := seen_store (l' := l) Hc3.out Hs3.out (by omega) (by omega) (by omega) (by omega) hy12 (fun i => ⟨.inl, fun h => h.elim id fun e => e ▸ Hm.out⟩) hb3 hww
          refine (counts0 hc4).mono ?_
          rintro e w5 ⟨rfl, hb5⟩
          have hc5 := hc4.below hb5
          have hs5 := hs4.kept (T := fun _ => False) (Upd.of_below hb5) id
          have hb6 := hb4.trans (hb5.mono hb4.size)
          have Hc5 := Lib.hid hc5; have Hs5 := Lib.hid hs5
          clear hc4 hs4 hb4 hc5 hs5 hb5 hb3 s0 s1 hlt3 Hs3 Hc3
          rw [fulls_fits]
          simp only [show (fits q l ((j : Int) - l.length + 1)).hits = ((j : Int) - l.length + 1) from rfl, show (fits q l ((j : Int) - l.length + 1)).misses = ((l : List Int).length : Int) from rfl]
          generalize pins (fits q l ((j : Int) - l.length + 1)).frames = pn
          go_wp2_with fail
          go_roundg (n - (j + 1))
          case measure => have := Hk.out; omega
          case rel =>
            refine ⟨j + 1, l, by omega, by omega, rfl, by go_num, rfl, by omega, by rw [show ((j + 1 : Nat) : Int) - l.length = (j : Int) - l.length + 1 from by omega]; exact Hc5.out.below ((Below.refl _ _).alloc (Nat.le_refl _) _), Hs5.out.kept (T := fun _ => False) ((Upd.refl _ _).alloc _) id, Hnd.out, Hr.out, hb6.alloc hb6.size _⟩
        · skip
          have hlq : l.length < q := by
            have := nodup_le q ((y : Int) :: l) (List.nodup_cons.2 ⟨hm, Hnd.out⟩) (fun x hx => by
              rcases List.mem_cons.1 hx with e | e
              · rw [e]; omega
              · exact Hr.out x e)
            simp at this; omega
          have ht := touch0 Hc2.out y hok
          rw [fits_miss q l _ y hm hlq] at ht
          refine ht.mono ?_
          rintro e w3 ⟨rfl, hc3, hu⟩
          have hb3 := Upd.below hb hu hof hb.size
          have hs3 := Hs.out.kept hu hst
          have s0 := hs3.cell y hy12
          rw [show decide ((y : Int) ∈ l) = false from by simpa using hm] at s0
          have s1 := hs3.fz y
          have hlt3 := hs3.lt
          have Hs3 := Lib.hid hs3; have Hc3 := Lib.hid hc3
          clear hc3 hs3 ht hst hof hu hb Hc2 Hs hok
          have Hm := Lib.hid hm; clear hm
          go_wp2_with fail
          obtain ⟨hc4, hs4, hb4⟩ := seen_store (l' := l ++ [(y : Int)]) Hc3.out Hs3.out (by omega) (by omega) (by omega) (by omega) hy12 (fun i => by rw [List.mem_append, List.mem_singleton]; exact ⟨fun h => h.imp id (fun e => by omega), fun h => h.imp id (fun e => by omega)⟩) hb3 hww
          refine (counts0 hc4).mono ?_
          rintro e w5 ⟨rfl, hb5⟩
          have hc5 := hc4.below hb5
          have hs5 := hs4.kept (T := fun _ => False) (Upd.of_below hb5) id
          have hb6 := hb4.trans (hb5.mono hb4.size)
          have Hc5 := Lib.hid hc5; have Hs5 := Lib.hid hs5
          clear hc4 hs4 hb4 hc5 hs5 hb5 hb3 s0 s1 hlt3 Hs3 Hc3
          rw [fulls_fits, show (((l ++ [(y : Int)]).length : Nat) : Int) = (l.length : Int) + 1 from by simp]
          simp only [show (fits q (l ++ [(y : Int)]) ((j : Int) - l.length)).hits = ((j : Int) - l.length) from rfl, show (fits q (l ++ [(y : Int)]) ((j : Int) - l.length)).misses = ((l.length : Int) + 1) from by simp [fits]]
          generalize pins (fits q (l ++ [(y : Int)]) ((j : Int) - l.length)).frames = pn
          go_wp2_with fail
          go_roundg (n - (j + 1))
          case measure => have := Hk.out; omega
          case rel =>
            refine ⟨j + 1, l ++ [(y : Int)], by omega, by omega, rfl, by go_num, by simp, by simp; omega, by rw [show ((j + 1 : Nat) : Int) - ((l ++ [(y : Int)]).length : Nat) = (j : Int) - l.length from by simp; omega]; exact Hc5.out.below ((Below.refl _ _).alloc (Nat.le_refl _) _), Hs5.out.kept (T := fun _ => False) ((Upd.refl _ _).alloc _) id, by rw [List.nodup_append]; exact ⟨Hnd.out, by simp, fun a ha b hb => by simp at hb; subst hb; exact fun e => Hm.out (e ▸ ha)⟩, fun x hx => by rcases List.mem_append.1 hx with e | e; exact Hr.out x e; simp at e; rw [e]; omega, hb6.alloc hb6.size _⟩
      · have hge : (200 : Int) ≤ j := by omega
        go_wp2_with fail
        go_ret
        exact ⟨rfl, hb⟩
    · go_wp2_with fail
      go_ret
      exact ⟨rfl, hb⟩
end Go.Proofs.Ytdblpcfkiiliiaa
