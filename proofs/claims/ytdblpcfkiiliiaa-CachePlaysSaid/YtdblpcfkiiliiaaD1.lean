/- Caches of two tenants; scripts that came in. -/
import Derived.Test.YtdblpcfkiiliiaaD0
set_option linter.unusedVariables false
set_option linter.unusedSimpArgs false
namespace Go.Proofs.Ytdblpcfkiiliiaa
open Go.RowKit

/-- an act of a script -/
structure OpD where
  kind : Int
  tenant : Int
  page : Int
/-- a script is read -/
def OpsAt (w : World) (A : Option Addr) (os : List OpD) : Prop :=
  ∀ i, ∀ h : i < os.length, ∃ b off, A = some ⟨b, off, none⟩ ∧ b < w.heap.size ∧ w.cell? ⟨b, off + i * 3, none⟩ = some (.int .i64 os[i].kind) ∧ w.cell? ⟨b, off + i * 3 + 1, none⟩ = some (.int .i64 os[i].tenant) ∧ w.cell? ⟨b, off + i * 3 + 2, none⟩ = some (.int .i64 os[i].page)
theorem OpsAt.below {w w' : World} {A : Option Addr} {os : List OpD} (h : OpsAt w A os) (hb : Below w.heap.size w w') : OpsAt w' A os := fun i hi => by
  obtain ⟨b, off, hA, hbs, h1, h2, h3⟩ := h i hi
  exact ⟨b, off, hA, Nat.lt_of_lt_of_le hbs hb.size, (hb.cell (p := ⟨b, off + i * 3, none⟩) hbs).trans h1, (hb.cell (p := ⟨b, off + i * 3 + 1, none⟩) hbs).trans h2, (hb.cell (p := ⟨b, off + i * 3 + 2, none⟩) hbs).trans h3⟩

theorem new_two (W : World) (b : Nat) (q r : Nat) (h1 : 1 ≤ q) (h64 : q ≤ 64) (h2 : 1 ≤ r) (h65 : r ≤ 64) (hb : b < W.heap.size) (hc : W.cell? ⟨b, 0, none⟩ = some (.int .i64 q)) (hd : W.cell? ⟨b, 1, none⟩ = some (.int .i64 r)) :
    Calls Try.prog 9 #[.slice (some ⟨b, 0, none⟩) 2 2] W fun e w' => ∃ C a cap pb fb, e = .returned (.tuple #[.pointer (some ⟨C, 0, none⟩), .int .i64 0]) ∧ CaAt w' C a cap pb fb [newPt q, newPt r] ∧ Below W.heap.size W w' ∧ W.heap.size ≤ C ∧ W.heap.size ≤ a ∧ (∀ t, t < 2 → W.heap.size ≤ pb t ∧ W.heap.size ≤ fb t) := by
  refine (new_any W b 0 2 [(q : Int), (r : Int)] 2 rfl (by omega) (by omega) ⟨fun i hi => by match i, hi with | 0, _ => simpa using hc | 1, _ => simpa using hd, hb⟩ 2 (by omega) (fun i hi _ => by match i, hi with | 0, _ => simp; omega | 1, _ => simp; omega) (fun h => by simp at h)).mono ?_
  rintro e w1 hn
  obtain ⟨C, a, cap, pb, fb, rfl, hc, hb, b1, b2, b3⟩ := new_cache hn (by omega) (by omega) rfl
  exact ⟨C, a, cap, pb, fb, rfl, by simpa using hc, hb, b1, b2, b3⟩
theorem newPt_ok (q : Nat) : (newPt q).ok 0 := ⟨by simp [newPt], by simp [newPt], by simp [newPt], by simp [newPt], fun f hf => by simp [newPt] at hf; rw [hf.2]; simp [Fr.zero]⟩
theorem quota_of (x : Int) : ∃ q : Nat, 1 ≤ q ∧ q ≤ 8 ∧ wrap64 (1 + wrap64 ((IntKind.u64.wrap x).tmod 8)) = (q : Int) := by
  have h0 : 0 ≤ IntKind.u64.wrap x := by rw [IntKind.wrap_u64]; omega
  rw [Int.tmod_eq_emod_of_nonneg h0]
  have h1 := Int.emod_nonneg (IntKind.u64.wrap x) (show (8 : Int) ≠ 0 by omega)
  have h2 := Int.emod_lt_of_pos (IntKind.u64.wrap x) (show (0 : Int) < 8 by omega)
  generalize IntKind.u64.wrap x % 8 = y at *
  obtain ⟨y, rfl⟩ := Int.eq_ofNat_of_zero_le h1
  exact ⟨y + 1, by omega, by omega, by unfold wrap64; omega⟩
/-- an act in a box -/
structure Box (w : World) (B : Nat) (k t p : Int) : Prop where
  c0 : w.cell? ⟨B, 0, none⟩ = some (.int .i64 k)
  c1 : w.cell? ⟨B, 1, none⟩ = some (.int .i64 t)
  c2 : w.cell? ⟨B, 2, none⟩ = some (.int .i64 p)
  lt : B < w.heap.size
theorem Box.upd {S : Nat → Prop} {w w' : World} {B : Nat} {k t p : Int} (h : Box w B k t p) (hu : Upd S w w') (hs : ¬ S B) : Box w' B k t p :=
  ⟨(hu.cell (p := ⟨B, 0, none⟩) h.lt hs).trans h.c0, (hu.cell (p := ⟨B, 1, none⟩) h.lt hs).trans h.c1, (hu.cell (p := ⟨B, 2, none⟩) h.lt hs).trans h.c2, Nat.lt_of_lt_of_le h.lt hu.size⟩
theorem Box.new (w : World) (k t p : Int) : Box (w.alloc (.cells #[.int .i64 k, .int .i64 t, .int .i64 p] 43)) w.heap.size k t p := ⟨by simp, by simp, by simp, by simp⟩

theorem do0 {w : World} {c a cap : Nat} {pb fb : Nat → Nat} {p : Pt} {rest : List Pt} (h : CaAt w c a cap pb fb (p :: rest)) (kind page : Int) (hok : p.ok 1000000) :
    Calls Try.prog 18 #[.pointer (some ⟨c, 0, none⟩), .agg #[.int .i64 kind, .int .i64 0, .int .i64 page]] w fun e w' =>
      e = .returned (.tuple #[.bool (act p (kd kind) page).2.1, .int .i64 (act p (kd kind) page).2.2]) ∧ CaAt w' c a cap pb fb ((act p (kd kind) page).1 :: rest) ∧ Upd (Of (pb 0) (fb 0)) w w' :=
  do_in w c a cap pb fb _ h 0 (by simp) 0 rfl kind page hok
theorem do1 {w : World} {c a cap : Nat} {pb fb : Nat → Nat} {p r : Pt} (h : CaAt w c a cap pb fb [p, r]) (kind page : Int) (hok : r.ok 1000000) :
    Calls Try.prog 18 #[.pointer (some ⟨c, 0, none⟩), .agg #[.int .i64 kind, .int .i64 1, .int .i64 page]] w fun e w' =>
      e = .returned (.tuple #[.bool (act r (kd kind) page).2.1, .int .i64 (act r (kd kind) page).2.2]) ∧ CaAt w' c a cap pb fb [p, (act r (kd kind) page).1] ∧ Upd (Of (pb 1) (fb 1)) w w' :=
  do_in w c a cap pb fb _ h 1 (by simp) 1 rfl kind page hok
end Go.Proofs.Ytdblpcfkiiliiaa
