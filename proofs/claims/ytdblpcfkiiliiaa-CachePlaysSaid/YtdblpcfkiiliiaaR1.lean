/- The document's part of a cache is touched. -/
import Derived.Test.YtdblpcfkiiliiaaR0
import Derived.Deep.AppendLies
set_option linter.unusedVariables false
set_option linter.unusedSimpArgs false
namespace Go.Proofs.Ytdblpcfkiiliiaa
open Go.RowKit

def rflat : List Fr → List Value
  | [] => []
  | f :: xs => .int .i64 f.page :: .int .i64 f.held :: .bool f.full :: .bool f.touched :: rflat xs
theorem rflat_length (xs : List Fr) : (rflat xs).length = xs.length * 4 := by
  induction xs with
  | nil => rfl
  | cons f xs ih => simp only [rflat, List.length_cons, ih]; omega
theorem rflat_at (xs : List Fr) : ∀ (i : Nat) (h : i < xs.length) (j : Nat), j < 4 → (rflat xs)[i * 4 + j]? = some (xs[i].rcell j) := by
  induction xs with
  | nil => intro i h; simp at h
  | cons f xs ih =>
    intro i h j hj
    cases i with
    | zero =>
      match j, hj with
      | 0, _ => rfl
      | 1, _ => rfl
      | 2, _ => rfl
      | 3, _ => rfl
    | succ i =>
      have := ih i (by simpa using h) j hj
      rw [show (i + 1) * 4 + j = (i * 4 + j) + 1 + 1 + 1 + 1 from by omega]
      simpa [rflat] using this
theorem rflat_news {w : World} {fb : Nat} {xs : List Fr} (h : RfAt w fb xs) (j : Nat) (u : Value) (hu : (rflat xs)[j]? = some u) : w.cell? ((⟨fb, 0, none⟩ : Addr).add j) = some u := by
  have hj : j < xs.length * 4 := by rw [← rflat_length]; exact (List.getElem?_eq_some_iff.1 hu).1
  have hi : j / 4 < xs.length := by omega
  have h1 := rflat_at xs (j / 4) hi (j % 4) (by omega)
  have h2 := h (j / 4) hi (j % 4) (by omega)
  have e : j / 4 * 4 + j % 4 = j := by omega
  rw [e] at h1 h2
  rw [h1] at hu
  have : (⟨fb, 0, none⟩ : Addr).add j = ⟨fb, j, none⟩ := by unfold Addr.add; split <;> simp_all
  rw [this, h2]
  exact hu
theorem rflat_one (xs : List Fr) : ∀ u ∈ rflat xs, u.oneCell' = true := by
  induction xs with
  | nil => simp [rflat]
  | cons f xs ih =>
    intro u hu
    simp only [rflat, List.mem_cons] at hu
    rcases hu with rfl | rfl | rfl | rfl | hu
    · rfl
    · rfl
    · rfl
    · rfl
    · exact ih u hu
theorem own_frames {w : World} {base g cap m : Nat} {xs : List Fr} (hm : xs.length = m) (h1 : 1 ≤ m) (h : w.ownsRow base 53 4 (.slice (some ⟨g, 0, none⟩) m cap) m (rflat xs)) : RfAt w g xs ∧ (∀ o, w.frozen? ⟨g, o, none⟩ = false) ∧ g < w.heap.size ∧ base ≤ g := by
  rcases h.2 with ⟨hv, h0⟩ | ⟨g', cap', cur, hv, hb, hh, _⟩
  · omega
  · have hg : g = g' := by simp at hv; omega
    subst hg
    refine ⟨fun i hi j hj => ?_, fun o => by simp [World.frozen?, hh], (Array.getElem?_eq_some_iff.1 hh).1, hb⟩
    have := h.cells (g := g) rfl (i * 4 + j) (xs[i].rcell j) (rflat_at xs i hi j hj)
    rwa [show (⟨g, 0, none⟩ : Addr).add (i * 4 + j) = ⟨g, i * 4 + j, none⟩ from by unfold Addr.add; split <;> simp_all] at this

theorem rtouch_hit (w : World) (pb fb cap : Nat) (p : Pt) (h : RpAt w pb fb cap p) (page : Int) (i : Nat) (hf : firstOf (isPage page) p.frames = some i) (b0 : 0 ≤ p.hits) (b1 : p.hits ≤ 1000000) :
    Calls Try.prog 24 #[.pointer (some ⟨pb, 0, none⟩), .int .i64 page] w fun e w' => e = .returned (.tuple #[.bool true, .int .i64 0]) ∧
      RpAt w' pb fb cap { p with hits := p.hits + 1, frames := p.frames.set i { p.frames.getD i Fr.zero with touched := true } } ∧ Upd (Of pb fb) w w' := by
  obtain ⟨hi, _⟩ := firstOf_some hf
  have hx : idxOf (isPage page) p.frames = i := by
    unfold firstOf at hf
    unfold idxOf
    split at hf
    · rename_i hl; rw [if_pos hl]; injection hf with hf; rw [hf]
    · cases hf
  have H := Lib.hid h; clear h
  have Hx := Lib.hid hx; clear hx hf
  go_enter Try.func24, Try.ntmps24
  go_wp2_with fail
  refine (rfind_any w pb fb cap p H.out page).mono ?_
  rintro e w' ⟨rfl, hb⟩
  rw [Hx.out]
  have hp2 := H.out.below hb
  have c0 := hp2.c0
  have c2 := hp2.c2
  have fr := hp2.fr.four i hi
  have z1 := hp2.z1 2
  have z2 := hp2.z2 (i * 4 + 3)
  have ne := hp2.ne
  have n64 := hp2.n64
  have Hp2 := Lib.hid hp2; clear hp2
  have hu : Upd (Of pb fb) w w' := Upd.of_below hb
  clear hb
  obtain ⟨f0, f1, f2, f3⟩ := fr
  have hlt : i < p.frames.length := hi
  go_wp2_with fail
  go_ret2
  refine ⟨rfl, ?_, (hu.setCell (.inr rfl) _).setCell (.inl rfl) _⟩
  have hg : p.frames.getD i Fr.zero = p.frames[i] := by simp [List.getD_eq_getElem?_getD, hi]
  rw [hg]
  refine (Hp2.out.setFrame i hi 3 (by omega) { p.frames[i] with touched := true } (fun j hj hne => by match j, hj with | 0, _ => rfl | 1, _ => rfl | 2, _ => rfl | 3, _ => exact absurd rfl hne)).own 2 _ rfl (by simpa using Hp2.out.hd) (by omega) rfl rfl rfl

/-- the first frame from m on that is empty -/
def roomFrom (xs : List Fr) (m : Nat) : Int := if skips isRoom (xs.drop m) < xs.length - m then (m : Int) + skips isRoom (xs.drop m) else -1
theorem roomFrom_end (xs : List Fr) : roomFrom xs xs.length = -1 := by simp [roomFrom]
theorem roomFrom_zero (xs : List Fr) : roomFrom xs 0 = idxOf isRoom xs := by simp [roomFrom, idxOf]
theorem roomFrom_step (xs : List Fr) (m : Nat) (h : m < xs.length) : roomFrom xs m = if xs[m].full then roomFrom xs (m + 1) else m := by
  unfold roomFrom
  rw [List.drop_eq_getElem_cons h]
  simp only [skips, isRoom]
  by_cases hf : xs[m].full = true
  · simp only [hf, Bool.not_true, Bool.false_eq_true, if_false, if_true]
    split <;> split <;> omega
  · have hf' : xs[m].full = false := by simpa using hf
    simp only [hf', Bool.not_false, if_true]
    rw [if_pos (by omega), if_neg (by simp)]
    omega
end Go.Proofs.Ytdblpcfkiiliiaa
