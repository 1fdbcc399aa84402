/- CacheHolds: the plain law. -/
import Derived.Test.YtdblpcfkiiliiaaC8
set_option linter.unusedVariables false
set_option linter.unusedSimpArgs false
namespace Go.Proofs.Ytdblpcfkiiliiaa
open Go.RowKit

/-- m frames that are held, of the pages from 101 on -/
def hl : Nat → List Fr
  | 0 => []
  | m + 1 => hl m ++ [⟨101 + m, true, true, 1⟩]
theorem hl_length (m : Nat) : (hl m).length = m := by induction m with | zero => rfl | succ m ih => simp [hl, ih]
theorem hl_no (p : Fr → Bool) (m : Nat) (h : ∀ i, i < m → p ⟨101 + (i : Nat), true, true, 1⟩ = false) : skips p (hl m) = m := by
  induction m with
  | zero => rfl
  | succ m ih =>
    have h1 := ih (fun i hi => h i (by omega))
    have h2 := h m (by omega)
    simp [hl, skips_append, h1, hl_length, skips, h2]
theorem hl_page (m i : Nat) (hi : i < m) : skips (isPage (101 + i)) (hl m) = i := by
  induction m with
  | zero => omega
  | succ m ih =>
    by_cases e : i = m
    · subst e
      have := hl_no (isPage (101 + i)) i (fun j hj => by simp [isPage]; omega)
      simp [hl, skips_append, this, hl_length, skips, isPage]
    · have := ih (by omega)
      simp [hl, skips_append, this, hl_length]
      omega
theorem hl_pins (m : Nat) : pins (hl m) = m := by
  induction m with
  | zero => rfl
  | succ m ih => simp [hl, pins_append, ih, pins]

/-- the part while it is being filled: i pages -/
def fill (q i : Nat) : Pt :=
  match i with
  | 0 => newPt q
  | i + 1 => ⟨fresh 100 :: (hl i ++ List.replicate (q - (i + 1)) Fr.zero), 0, 0, i + 1⟩
theorem fill_touch0 (q : Nat) (hq : 1 ≤ q) : touch (fill q 0) 100 = (fill q 1, false, 0) := by
  obtain ⟨m, rfl⟩ : ∃ m, q = m + 1 := ⟨q - 1, by omega⟩
  have hf : firstOf (isPage 100) (newPt (m + 1)).frames = none := by
    simp [firstOf, newPt, skips_zero (isPage 100) (m + 1) rfl]
  have hr : skips isRoom (newPt (m + 1)).frames = 0 := skips_zero' isRoom (m + 1) rfl
  unfold touch
  simp only [fill, hf, hr]
  rw [if_pos (by simp [newPt])]
  simp [newPt, hl, List.replicate_succ]
/-- a page is missed while the part is being filled: it comes behind -/
theorem fill_touch (q i : Nat) (h0 : 1 ≤ i) (hi : i < q) : touch (fill q i) (100 + i) = (⟨fresh 100 :: ((hl (i - 1) ++ [fresh (100 + i)]) ++ List.replicate (q - (i + 1)) Fr.zero), 0, 0, (i : Int) + 1⟩, false, 0) := by
  obtain ⟨i, rfl⟩ : ∃ j, i = j + 1 := ⟨i - 1, by omega⟩
  obtain ⟨m, hm⟩ : ∃ m, q - (i + 1) = m + 1 := ⟨q - (i + 1) - 1, by omega⟩
  have hfr : (fill q (i + 1)).frames = fresh 100 :: (hl i ++ List.replicate (q - (i + 1)) Fr.zero) := rfl
  have hp : ((100 : Int) + ((i + 1 : Nat) : Int)) = 101 + i := by omega
  have hpg : isPage (100 + ((i + 1 : Nat) : Int)) (fresh 100) = false := by simp [isPage, fresh]; omega
  have hf : firstOf (isPage (100 + ((i + 1 : Nat) : Int))) (fill q (i + 1)).frames = none := by
    have h1 := hl_no (isPage (100 + ((i + 1 : Nat) : Int))) i (fun j hj => by simp [isPage]; omega)
    have h2 := skips_zero (isPage (100 + ((i + 1 : Nat) : Int))) (q - (i + 1)) rfl
    rw [hfr]
    simp only [firstOf, skips, hpg, skips_append, h1, hl_length, h2, List.length_cons, List.length_append, List.length_replicate]
    rw [if_neg]
    simp
  have hr : skips isRoom (fill q (i + 1)).frames = i + 1 := by
    have h1 := hl_no isRoom i (fun j hj => rfl)
    have h2 := skips_zero' isRoom (q - (i + 1)) rfl
    rw [hfr]
    simp [skips, skips_append, h1, h2, hl_length, isRoom, fresh]
  have hlen : (fill q (i + 1)).frames.length = q := by rw [hfr]; simp [hl_length]; omega
  unfold touch
  rw [hf]
  simp only [hr, hlen, if_pos hi]
  have : (fill q (i + 1)).frames.set (i + 1) (fresh (100 + ((i + 1 : Nat) : Int))) = fresh 100 :: ((hl i ++ [fresh (100 + ((i + 1 : Nat) : Int))]) ++ List.replicate (q - (i + 1 + 1)) Fr.zero) := by
    rw [hfr, hm, List.replicate_succ, show q - (i + 1 + 1) = m from by omega]
    simp [List.set_append, hl_length]
  rw [this]
  rfl
theorem fill_hold (q i : Nat) (h0 : 1 ≤ i) (hi : i < q) : hold ⟨fresh 100 :: ((hl (i - 1) ++ [fresh (100 + i)]) ++ List.replicate (q - (i + 1)) Fr.zero), 0, 0, (i : Int) + 1⟩ (100 + i) = (fill q (i + 1), true) := by
  obtain ⟨i, rfl⟩ : ∃ j, i = j + 1 := ⟨i - 1, by omega⟩
  have hpg : isPage (100 + ((i + 1 : Nat) : Int)) (fresh 100) = false := by simp [isPage, fresh]; omega
  have hpg2 : isPage (100 + ((i + 1 : Nat) : Int)) (fresh (100 + ((i + 1 : Nat) : Int))) = true := by simp [isPage, fresh]
  have h1 := hl_no (isPage (100 + ((i + 1 : Nat) : Int))) i (fun j hj => by simp [isPage]; omega)
  have hs : skips (isPage (100 + ((i + 1 : Nat) : Int))) (fresh 100 :: ((hl i ++ [fresh (100 + ((i + 1 : Nat) : Int))]) ++ List.replicate (q - (i + 1 + 1)) Fr.zero)) = i + 1 := by
    simp only [skips, hpg, skips_append, h1, hl_length, hpg2, List.length_append, List.length_cons, List.length_nil]
    simp
  have hf : firstOf (isPage (100 + ((i + 1 : Nat) : Int))) (fresh 100 :: ((hl i ++ [fresh (100 + ((i + 1 : Nat) : Int))]) ++ List.replicate (q - (i + 1 + 1)) Fr.zero)) = some (i + 1) := by
    unfold firstOf
    rw [hs, if_pos (by simp [hl_length])]
  unfold hold
  simp only [Nat.add_sub_cancel, hf]
  have hg : frameAt ⟨fresh 100 :: ((hl i ++ [fresh (100 + ((i + 1 : Nat) : Int))]) ++ List.replicate (q - (i + 1 + 1)) Fr.zero), 0, 0, ((i + 1 : Nat) : Int) + 1⟩ (i + 1) = fresh (100 + ((i + 1 : Nat) : Int)) := by
    simp [frameAt, List.getD_eq_getElem?_getD, List.getElem?_append, hl_length]
  rw [hg]
  have he : ((101 : Int) + (i : Nat)) = 100 + ((i + 1 : Nat) : Int) := by omega
  simp [fill, hl, List.set_append, hl_length, fresh]
  omega
theorem fill_ok (q i : Nat) (hi : i ≤ 64) : (fill q i).ok 1000 := by
  cases i with
  | zero => exact ⟨by simp [fill, newPt], by simp [fill, newPt], by simp [fill, newPt], by simp [fill, newPt], fun f hf => by simp [fill, newPt] at hf; rw [hf.2]; simp [Fr.zero]⟩
  | succ i =>
    refine ⟨by simp [fill], by simp [fill], by simp [fill]; omega, by simp [fill]; omega, fun f hf => ?_⟩
    have hh : ∀ m, f ∈ hl m → f.held = 1 := by
      intro m
      induction m with
      | zero => intro h; simp [hl] at h
      | succ m ih => intro h; simp [hl] at h; rcases h with h | h; exact ih h; rw [h]
    simp only [fill, List.mem_cons, List.mem_append, List.mem_replicate] at hf
    rcases hf with rfl | hf | ⟨_, rfl⟩
    · simp [fresh]
    · rw [hh _ hf]; omega
    · simp [Fr.zero]

/-- all but the first frame are held; the first one has the page pg -/
structure Rest (q : Nat) (p : Pt) (pg : Int) : Prop where
  fr : ∃ f0, p.frames = f0 :: hl (q - 1) ∧ f0.page = pg ∧ f0.full = true ∧ f0.held = 0
  hand : p.hand < q
  q1 : 1 ≤ q
theorem hl_held (m i : Nat) (h : i < (hl m).length) : (hl m)[i].held = 1 := by
  induction m with
  | zero => simp [hl] at h
  | succ m ih =>
    simp only [hl, List.getElem_append]
    split
    · rename_i h2; exact ih h2
    · simp
theorem spin_rest (m : Nat) (n : Nat) : ∀ (p q : Pt) (i : Nat) (f0 : Fr), p.frames = f0 :: hl m → f0.held = 0 → p.hand < m + 1 → spin n p = some (q, i) → i = 0 ∧ (∃ f1, q.frames = f1 :: hl m) ∧ q.hand < m + 1 := by
  induction n with
  | zero => intro p q i f0 _ _ _ h; simp [spin] at h
  | succ n ih =>
    intro p q i f0 hf h0 hh h
    have hlen : p.frames.length = m + 1 := by rw [hf]; simp [hl_length]
    have hmod : (p.hand + 1) % p.frames.length < m + 1 := by rw [hlen]; exact Nat.mod_lt _ (by omega)
    have hd : p.hand < p.frames.length := by omega
    by_cases e : p.hand = 0
    · have hx : p.frames[p.hand] = f0 := by simp [hf, e]
      cases ht : f0.touched with
      | false =>
        have hk := tick_stop p hd (by rw [hx, h0]; omega) (by rw [hx]; exact ht)
        simp only [spin, hk, if_true] at h
        injection h with h; injection h with h1 h2
        exact ⟨by rw [← h2, e], ⟨f0, by rw [← h1]; exact hf⟩, by rw [← h1]; exact hmod⟩
      | true =>
        have hk := tick_touched p hd (by rw [hx, h0]; omega) (by rw [hx]; exact ht)
        simp only [spin, hk, Bool.false_eq_true, if_false] at h
        refine ih _ q i { f0 with touched := false } ?_ h0 hmod h
        simp [hf, e]
    · have hx : 0 < p.frames[p.hand].held := by
        obtain ⟨k, hk⟩ : ∃ k, p.hand = k + 1 := ⟨p.hand - 1, by omega⟩
        have : p.frames[p.hand] = (hl m)[k]'(by rw [hl_length]; omega) := by simp [hf, hk]
        rw [this, hl_held]; decide
      have hk := tick_held p hd hx
      simp only [spin, hk, Bool.false_eq_true, if_false] at h
      exact ih { p with hand := (p.hand + 1) % p.frames.length } q i f0 hf h0 hmod h
theorem rest_find {q : Nat} {p : Pt} {pg : Int} (h : Rest q p pg) (y : Int) (hy : y < 101) : firstOf (isPage y) p.frames = if pg = y then some 0 else none := by
  obtain ⟨f0, hf, h1, h2, h3⟩ := h.fr
  have hn := hl_no (isPage y) (q - 1) (fun j hj => by simp [isPage]; omega)
  rw [hf]
  simp only [firstOf, skips, hn, List.length_cons, hl_length]
  by_cases e : pg = y
  · rw [if_pos e]; simp [isPage, h2, h1, e]
  · rw [if_neg e]; simp [isPage, h2, h1, e]
theorem rest_has {q : Nat} {p : Pt} {pg : Int} (h : Rest q p pg) (k : Nat) (h1 : 1 ≤ k) (hk : k < q) (hpg : pg < 101) : has p (100 + k) = true := by
  obtain ⟨f0, hf, g1, g2, g3⟩ := h.fr
  obtain ⟨k, rfl⟩ : ∃ j, k = j + 1 := ⟨k - 1, by omega⟩
  have he : ((100 : Int) + ((k + 1 : Nat) : Int)) = 101 + k := by omega
  have hs := hl_page (q - 1) k (by omega)
  have hx : isPage (101 + (k : Int)) f0 = false := by simp [isPage, g1]; omega
  unfold has firstOf
  rw [hf, he]
  simp only [skips, hx, Bool.false_eq_true, if_false, hs, List.length_cons, hl_length]
  rw [if_pos (by omega)]
  rfl
theorem rest_touch {q : Nat} {p : Pt} {pg : Int} (h : Rest q p pg) (y : Int) (hy : y < 101) : (touch p y).2.2 = 0 ∧ Rest q (touch p y).1 y := by
  have hfd := rest_find h y hy
  obtain ⟨f0, hf, h1, h2, h3⟩ := h.fr
  have hq := h.q1
  have hlen : p.frames.length = q := by rw [hf]; simp [hl_length]; omega
  unfold touch
  by_cases e : pg = y
  · rw [hfd, if_pos e]
    refine ⟨rfl, ⟨{ f0 with touched := true }, ?_, by simpa using h1.trans e, h2, h3⟩, h.hand, hq⟩
    simp [hf]
  · rw [hfd, if_neg e]
    have hr : skips isRoom p.frames = q := by
      have := hl_no isRoom (q - 1) (fun j hj => rfl)
      rw [hf]
      simp only [skips, isRoom, h2, Bool.not_true, Bool.false_eq_true, if_false]
      have h4 : skips isRoom (hl (q - 1)) + 1 = q := by rw [this]; omega
      exact h4
    have hls : skips isLoose p.frames = 0 := by rw [hf]; simp [skips, isLoose, h3]
    simp only [hr, hlen, Nat.lt_irrefl, if_false, hls]
    rw [if_pos (by omega)]
    obtain ⟨x, i, hs⟩ := spin_some { p with misses := p.misses + 1 } (by simp only [hlen]; exact h.hand) (by simp only [hls, hlen]; omega)
    simp only [hlen] at hs
    rw [hs]
    obtain ⟨hi, ⟨f1, hf1⟩, hh⟩ := spin_rest (q - 1) _ _ x i f0 (by exact hf) h3 (by have := h.hand; simp only; omega) hs
    subst hi
    refine ⟨rfl, ⟨fresh y, ?_, rfl, rfl, rfl⟩, by show x.hand < q; omega, hq⟩
    simp [hf1]
/-- the last lines: page 95 is held, 96 finds no room -/
theorem rest_hold {q : Nat} {p : Pt} {pg : Int} (h : Rest q p pg) (hpg : pg < 101) : ∃ f0, (hold p pg).2 = true ∧ (hold p pg).1 = { p with frames := f0 :: hl (q - 1) } ∧ f0.page = pg ∧ f0.full = true ∧ f0.held = 1 := by
  have hfd := rest_find h pg hpg
  rw [if_pos rfl] at hfd
  obtain ⟨f0, hf, h1, h2, h3⟩ := h.fr
  have hg : frameAt p 0 = f0 := by simp [frameAt, hf]
  refine ⟨{ f0 with held := 1 }, ?_, ?_, h1, h2, rfl⟩
  · unfold hold; rw [hfd]
  · unfold hold; rw [hfd]; simp only [hg]; simp [hf, h3]
theorem full_touch {q : Nat} {p : Pt} {f0 : Fr} (hq : 1 ≤ q) (hf : p.frames = f0 :: hl (q - 1)) (h2 : f0.full = true) (h3 : f0.held = 1) (y : Int) (hy : y < 101) (hp : f0.page ≠ y) : touch p y = ({ p with misses := p.misses + 1 }, false, 210) := by
  have hn := hl_no (isPage y) (q - 1) (fun j hj => by simp [isPage]; omega)
  have hlen : p.frames.length = q := by rw [hf]; simp [hl_length]; omega
  have hfd : firstOf (isPage y) p.frames = none := by rw [hf]; simp [firstOf, skips, hn, hl_length, isPage, h2, hp]
  have hr : skips isRoom p.frames = q := by
    have := hl_no isRoom (q - 1) (fun j hj => rfl)
    rw [hf]
    simp only [skips, isRoom, h2, Bool.not_true, Bool.false_eq_true, if_false]
    have h4 : skips isRoom (hl (q - 1)) + 1 = q := by rw [this]; omega
    exact h4
  have hls : skips isLoose p.frames = q := by
    have := hl_no isLoose (q - 1) (fun j hj => rfl)
    rw [hf]
    simp only [skips, isLoose, h3]
    have h4 : skips isLoose (hl (q - 1)) + 1 = q := by rw [this]; omega
    exact h4
  unfold touch
  rw [hfd]
  simp only [hr, hls, hlen, Nat.lt_irrefl, if_false]
theorem full_pins {q : Nat} {p : Pt} {f0 : Fr} (hq : 1 ≤ q) (hf : p.frames = f0 :: hl (q - 1)) (h3 : f0.held = 1) : pins p.frames = q := by
  rw [hf]; simp [pins, hl_pins, h3]; omega
theorem full_release {q : Nat} {p : Pt} {f0 : Fr} (hf : p.frames = f0 :: hl (q - 1)) (h2 : f0.full = true) (h3 : f0.held = 1) : ∃ f9 : Fr, (release p f0.page).2 = true ∧ (release p f0.page).1 = { p with frames := f9 :: hl (q - 1) } ∧ f9.page = f0.page ∧ f9.full = true ∧ f9.held = 0 := by
  have hfd : firstOf (isPage f0.page) p.frames = some 0 := by rw [hf]; simp [firstOf, skips, isPage, h2]
  have hg : frameAt p 0 = f0 := by simp [frameAt, hf]
  refine ⟨{ f0 with held := 0 }, ?_, ?_, rfl, h2, rfl⟩
  · unfold release; rw [hfd]; simp only [hg, h3]; simp
  · unfold release; rw [hfd]; simp only [hg, h3]; simp [hf]
theorem full_drop {q : Nat} {p : Pt} {f0 : Fr} (hf : p.frames = f0 :: hl (q - 1)) (h2 : f0.full = true) (h3 : f0.held = 0) : (drop p f0.page).2 = true := by
  have hfd : firstOf (isPage f0.page) p.frames = some 0 := by rw [hf]; simp [firstOf, skips, isPage, h2]
  have hg : frameAt p 0 = f0 := by simp [frameAt, hf]
  unfold drop
  rw [hfd]
  simp [hg, h3]
end Go.Proofs.Ytdblpcfkiiliiaa
