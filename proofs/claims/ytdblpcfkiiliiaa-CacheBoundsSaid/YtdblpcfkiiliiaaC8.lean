/- CacheFits: the plain law. -/
import Derived.Test.YtdblpcfkiiliiaaC6
set_option linter.unusedVariables false
set_option linter.unusedSimpArgs false
namespace Go.Proofs.Ytdblpcfkiiliiaa
open Go.RowKit

theorem skips_append (p : Fr → Bool) (xs ys : List Fr) : skips p (xs ++ ys) = if skips p xs < xs.length then skips p xs else xs.length + skips p ys := by
  induction xs with
  | nil => simp [skips]
  | cons x xs ih =>
    simp only [List.cons_append, skips, List.length_cons]
    by_cases h : p x = true
    · simp [h]
    · have h' : p x = false := by simpa using h
      simp only [h', Bool.false_eq_true, if_false, ih]
      split <;> split <;> omega
theorem skips_zero (p : Fr → Bool) (m : Nat) (h : p Fr.zero = false) : skips p (List.replicate m Fr.zero) = m := by
  induction m with
  | zero => rfl
  | succ m ih => simp [List.replicate_succ, skips, h, ih]
theorem skips_zero' (p : Fr → Bool) (m : Nat) (h : p Fr.zero = true) : skips p (List.replicate m Fr.zero) = 0 := by
  cases m with
  | zero => rfl
  | succ m => simp [List.replicate_succ, skips, h]
theorem skips_map (k : Int) (l : List Int) : (k ∈ l → ∃ h : skips (isPage k) (l.map fresh) < l.length, l[skips (isPage k) (l.map fresh)] = k) ∧ (k ∉ l → skips (isPage k) (l.map fresh) = l.length) := by
  induction l with
  | nil => exact ⟨fun h => by simp at h, fun _ => rfl⟩
  | cons x l ih =>
    have hx : isPage k (fresh x) = (x == k) := by simp [isPage, fresh]
    simp only [List.map_cons, skips, hx]
    by_cases e : x = k
    · subst e; simp
    · have hb : (x == k) = false := by simpa using e
      simp only [hb, List.mem_cons, List.length_cons]
      constructor
      · rintro (h | h)
        · exact absurd h.symm e
        · obtain ⟨h1, h2⟩ := ih.1 h
          exact ⟨by simp; omega, by simpa using h2⟩
      · intro h
        have := ih.2 (fun h2 => h (.inr h2))
        simp [this]
theorem skips_full (l : List Int) : skips isRoom (l.map fresh) = l.length := by
  induction l with
  | nil => rfl
  | cons x l ih => simp [skips, isRoom, fresh]; simpa [isRoom, fresh] using ih

theorem nodup_le (q : Nat) : ∀ (l : List Int), l.Nodup → (∀ x ∈ l, 0 ≤ x ∧ x < q) → l.length ≤ q := by
  induction q with
  | zero =>
    intro l _ h
    cases l with
    | nil => simp
    | cons x l => have := h x (by simp); omega
  | succ q ih =>
    intro l hn h
    by_cases hm : (q : Int) ∈ l
    · have h1 := ih (l.erase q) (hn.erase _) (fun x hx => by
        have h2 := h x (List.mem_of_mem_erase hx)
        have h3 : x ≠ q := fun e => by subst e; exact (List.Nodup.not_mem_erase hn) hx
        omega)
      have h2 := List.length_erase_of_mem hm
      omega
    · have := ih l hn (fun x hx => by
        have h2 := h x hx
        have h3 : x ≠ q := fun e => by subst e; exact hm hx
        omega)
      omega

/-- the pages l have been touched, one by one -/
def fits (q : Nat) (l : List Int) (h : Int) : Pt := ⟨l.map fresh ++ List.replicate (q - l.length) Fr.zero, 0, h, l.length⟩
theorem fits_hit (q : Nat) (l : List Int) (h k : Int) (hk : k ∈ l) : touch (fits q l h) k = (fits q l (h + 1), true, 0) := by
  obtain ⟨h1, h2⟩ := (skips_map k l).1 hk
  have hf : firstOf (isPage k) (fits q l h).frames = some (skips (isPage k) (l.map fresh)) := by
    simp only [firstOf, fits, skips_append, List.length_map, if_pos h1, List.length_append]
    rw [if_pos (by omega)]
  unfold touch
  rw [hf]
  simp only
  have hg : (fits q l h).frames.getD (skips (isPage k) (l.map fresh)) Fr.zero = fresh k := by
    simp only [fits, List.getD_eq_getElem?_getD]
    rw [List.getElem?_append_left (by simpa using h1), List.getElem?_map, List.getElem?_eq_getElem h1, h2]
    rfl
  rw [hg]
  have hs : (fits q l h).frames.set (skips (isPage k) (l.map fresh)) { fresh k with touched := true } = (fits q l h).frames := by
    have : (fits q l h).frames[skips (isPage k) (l.map fresh)]? = some (fresh k) := by
      simp only [fits]
      rw [List.getElem?_append_left (by simpa using h1), List.getElem?_map, List.getElem?_eq_getElem h1, h2]
      rfl
    obtain ⟨hl, he⟩ := List.getElem?_eq_some_iff.1 this
    rw [show ({ fresh k with touched := true } : Fr) = (fits q l h).frames[skips (isPage k) (l.map fresh)] from by rw [he]; rfl]
    exact List.set_getElem_self hl
  rw [hs]
  rfl
theorem fits_miss (q : Nat) (l : List Int) (h k : Int) (hk : k ∉ l) (hl : l.length < q) : touch (fits q l h) k = (fits q (l ++ [k]) h, false, 0) := by
  have h1 := (skips_map k l).2 hk
  have hf : firstOf (isPage k) (fits q l h).frames = none := by
    simp only [firstOf, fits, skips_append, List.length_map, h1, List.length_append, List.length_replicate, skips_zero (isPage k) _ (by simp [isPage, Fr.zero])]
    rw [if_neg (by rw [if_neg (Nat.lt_irrefl _)]; exact Nat.lt_irrefl _)]
  have hr : skips isRoom (fits q l h).frames = l.length := by
    simp only [fits, skips_append, skips_full, List.length_map, skips_zero' isRoom _ (by rfl)]
    rw [if_neg (by omega)]; rfl
  have hlen : (fits q l h).frames.length = q := by simp [fits]; omega
  unfold touch
  rw [hf]
  simp only [hr, hlen, if_pos hl]
  have : (fits q l h).frames.set l.length (fresh k) = (l ++ [k]).map fresh ++ List.replicate (q - (l ++ [k]).length) Fr.zero := by
    simp only [fits, List.map_append, List.map_cons, List.map_nil, List.length_append, List.length_cons, List.length_nil, List.append_assoc]
    obtain ⟨m, hm⟩ : ∃ m, q - l.length = m + 1 := ⟨q - l.length - 1, by omega⟩
    rw [hm, List.replicate_succ, show q - (l.length + (0 + 1)) = m from by omega]
    rw [List.set_append_right _ _ (by simp)]
    simp
  rw [this]
  simp [fits]
theorem fulls_fits (q : Nat) (l : List Int) (h : Int) : fulls (fits q l h).frames = l.length := by
  simp only [fits, fulls_append]
  have h1 : fulls (l.map fresh) = l.length := by
    induction l with
    | nil => rfl
    | cons x l ih => simp only [List.map_cons, fulls, ih, fresh, if_true, List.length_cons]; omega
  have h2 : ∀ m, fulls (List.replicate m Fr.zero) = 0 := by
    intro m
    induction m with
    | zero => rfl
    | succ m ih => rw [List.replicate_succ, fulls, ih]; rfl
  rw [h1, h2]; rfl
theorem fits_ok (q : Nat) (l : List Int) (h : Int) (h0 : 0 ≤ h) (h1 : h ≤ 1000) (hl : l.length ≤ 1000) : (fits q l h).ok 1000000 := by
  refine ⟨h0, by show h ≤ _; omega, by show (0 : Int) ≤ (l.length : Int); omega, by show (l.length : Int) ≤ _; omega, fun f hf => ?_⟩
  simp only [fits, List.mem_append, List.mem_map, List.mem_replicate] at hf
  rcases hf with ⟨x, _, rfl⟩ | ⟨_, rfl⟩
  · simp [fresh]
  · simp [Fr.zero]
end Go.Proofs.Ytdblpcfkiiliiaa
