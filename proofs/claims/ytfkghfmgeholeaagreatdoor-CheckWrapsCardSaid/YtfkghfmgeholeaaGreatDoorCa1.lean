/- The document's faults of a test; tests of tests. No code is stepped through. -/
import Derived.Test.YtfkghfmgeholeaaGreatDoorCa0
set_option linter.unusedVariables false
set_option linter.unusedSimpArgs false
namespace Go.Proofs.YtfkghfmgeholeaaGreatDoor
open Go.RowKit

/-- the kind of an operand; -1: there is no such field -/
def kdR (l : List Fd) (t : Tree) : Int := if t.k = 1 then t.v.k else (kindL l t.col).getD (-1)
def opR (l : List Fd) (t : Tree) : List (Int × Int) := if kdR l t < 0 then [(t.pos, 180)] else []
def opsR (l : List Fd) : List Tree → List (Int × Int)
  | [] => []
  | t :: r => opR l t ++ opsR l r
def boolR (l : List Fd) (t : Tree) : List (Int × Int) := if kdR l t = 1 ∨ kdR l t = 3 ∨ kdR l t = 4 then [(t.pos, 181)] else []
def pairR (l : List Fd) (p : Int) : List Tree → List (Int × Int)
  | [a, b] => if 0 < kdR l a ∧ 0 < kdR l b ∧ kdR l a ≠ kdR l b then [(p, 181)] else []
  | _ => []
mutual
/-- the document's faults of a test, in their order -/
def faultsL (l : List Fd) : Tree → List (Int × Int)
  | .mk k p c o v kids => (if k = 2 ∨ k = 3 then opsR l kids else []) ++ ((if 3 < k then faultsLs l kids else []) ++ ((if k < 2 then opR l (.mk k p c o v kids) ++ boolR l (.mk k p c o v kids) else []) ++ (if k = 2 then pairR l p kids else [])))
def faultsLs (l : List Fd) : List Tree → List (Int × Int)
  | [] => []
  | t :: r => faultsL l t ++ faultsLs l r
end
theorem head_append (a b : List (Int × Int)) : (a ++ b).head? = orF a.head? b.head? := by
  cases a <;> rfl
theorem fields_kind {l : List Fd} (h : fieldsB l = true) {s : List UInt8} {k : Int} (hk : kindL l s = some k) : 1 ≤ k ∧ k ≤ 4 := by
  unfold fieldsB at h
  simp only [Bool.and_eq_true, decide_eq_true_eq] at h
  have hz : ¬ idxL l s < 0 := fun h0 => by rw [(idxL_none l s).1 h0] at hk; cases hk
  have hb := idxL_lo l s
  obtain ⟨i, hi⟩ : ∃ i : Nat, idxL l s = (i : Int) := ⟨(idxL l s).toNat, by omega⟩
  obtain ⟨f, h1, h2, h3⟩ := idxL_some l s i hi
  rw [h3] at hk
  injection hk with hk
  subst hk
  have hlt : i < l.length := by omega
  have ho : okField l i = true := by
    cases ho : okField l i with
    | true => rfl
    | false => rw [okTo_bad ho l.length hlt] at h; simp at h
  unfold okField at ho
  rw [h1] at ho
  simp only [Bool.and_eq_true, decide_eq_true_eq] at ho
  exact ⟨ho.1.1.2, ho.1.2⟩
/-- an operand's kind, told both ways -/
theorem op_both {l : List Fd} (h : fieldsB l = true) {t : Tree} (ht : t.k = 1 → rightB t.v = true) : ((kdR l t < 0) ↔ opK l t = none) ∧ (0 ≤ kdR l t → opV l t = kdR l t ∧ kdR l t ≤ 4) ∧ (kdR l t < 0 → opV l t = 0) := by
  unfold kdR opV opK
  by_cases h1 : t.k = 1
  · rw [if_pos h1, if_pos h1]
    have hr := ht h1
    have hk : 0 ≤ t.v.k ∧ t.v.k ≤ 4 := by
      unfold rightB at hr
      repeat' split at hr
      all_goals first
        | omega
        | (simp_all; done)
        | (simp_all; omega)
    refine ⟨⟨fun h0 => by omega, fun h0 => by cases h0⟩, fun _ => ⟨rfl, hk.2⟩, fun h0 => by omega⟩
  · rw [if_neg h1, if_neg h1]
    cases hk : kindL l t.col with
    | none => exact ⟨⟨fun _ => rfl, fun _ => by decide⟩, fun h0 => by simp at h0, fun _ => rfl⟩
    | some k =>
      have := fields_kind h hk
      refine ⟨⟨fun h0 => by simp at h0; omega, fun h0 => by cases h0⟩, fun _ => ⟨rfl, by simpa using this.2⟩, fun h0 => by simp at h0; omega⟩
theorem opR_head {l : List Fd} (h : fieldsB l = true) {t : Tree} (ht : t.k = 1 → rightB t.v = true) : (opR l t).head? = opF l t := by
  have hb := (op_both h ht).1
  unfold opR opF
  cases hk : opK l t with
  | none => rw [if_pos (hb.2 hk)]; rfl
  | some k => rw [if_neg (fun h0 => by rw [hb.1 h0] at hk; cases hk)]; rfl
theorem boolR_head {l : List Fd} (h : fieldsB l = true) {t : Tree} (ht : t.k = 1 → rightB t.v = true) : (boolR l t).head? = boolF l t := by
  obtain ⟨-, h2, h3⟩ := op_both h ht
  unfold boolR boolF
  by_cases h0 : 0 ≤ kdR l t
  · obtain ⟨h4, h5⟩ := h2 h0
    rw [h4]
    by_cases hc : kdR l t = 1 ∨ kdR l t = 3 ∨ kdR l t = 4
    · rw [if_pos hc, if_pos (by omega)]; rfl
    · rw [if_neg hc, if_neg (by omega)]; rfl
  · rw [h3 (by omega), if_neg (by omega), if_neg (by omega)]; rfl
theorem pairR_head {l : List Fd} (h : fieldsB l = true) {a b : Tree} (ha : a.k = 1 → rightB a.v = true) (hb : b.k = 1 → rightB b.v = true) (p : Int) : (pairR l p [a, b]).head? = pairF l p a b := by
  obtain ⟨-, a2, a3⟩ := op_both h ha
  obtain ⟨-, b2, b3⟩ := op_both h hb
  rw [show pairR l p [a, b] = if 0 < kdR l a ∧ 0 < kdR l b ∧ kdR l a ≠ kdR l b then [(p, 181)] else [] from rfl]
  unfold pairF
  by_cases h0 : 0 ≤ kdR l a
  · obtain ⟨a4, -⟩ := a2 h0
    by_cases h1 : 0 ≤ kdR l b
    · obtain ⟨b4, -⟩ := b2 h1
      rw [a4, b4]
      by_cases hc : 0 < kdR l a ∧ 0 < kdR l b ∧ kdR l a ≠ kdR l b
      · rw [if_pos hc, if_pos (by omega)]; rfl
      · rw [if_neg hc, if_neg (by omega)]; rfl
    · rw [b3 (by omega), if_neg (by omega), if_neg (by omega)]; rfl
  · rw [a3 (by omega), if_neg (by omega), if_neg (by omega)]; rfl
/-- what a right literal holds is right -/
theorem right_lit {d : Nat} {t : Tree} (h : rightT d t = true) (hk : t.k = 1) : rightB t.v = true := by
  have := (right_form h).1
  cases this with
  | lit p v hv => exact hv
  | _ => simp [Tree.k] at hk
theorem faults_first {l : List Fd} (h : fieldsB l = true) (N : Nat) : ∀ (t : Tree) (d : Nat), t.depth ≤ N → rightT d t = true → (faultsL l t).head? = firstT l t := by
  induction N with
  | zero => intro t d hd; have := depth_eq t; omega
  | succ N ih =>
    intro t d hd hr
    have hf := (right_form hr).1
    cases hf with
    | col p c hn =>
      rw [faultsL, if_neg (by decide), if_neg (by decide), if_pos (by decide), if_neg (by decide), firstT, if_pos (by decide)]
      simp only [List.nil_append, List.append_nil]
      rw [head_append, opR_head h (fun e => by cases e), boolR_head h (fun e => by cases e)]
    | lit p v hv =>
      rw [faultsL, if_neg (by decide), if_neg (by decide), if_pos (by decide), if_neg (by decide), firstT, if_pos (by decide)]
      simp only [List.nil_append, List.append_nil]
      rw [head_append, opR_head (t := .mk 1 p [] 0 v []) h (fun e => hv), boolR_head (t := .mk 1 p [] 0 v []) h (fun e => hv)]
    | cmp p o a b h0 h5 ha hb hra hrb =>
      rw [faultsL, if_pos (by decide), if_neg (by decide), if_neg (by decide), if_pos (by decide), firstT, if_neg (by decide), if_pos (by decide)]
      simp only [List.nil_append, List.append_nil, opsR, cmpFt]
      rw [head_append, head_append, opR_head h (right_lit hra), opR_head h (right_lit hrb), pairR_head h (right_lit hra) (right_lit hrb)]
      cases opF l a <;> cases opF l b <;> rfl
    | null p a ha hra =>
      rw [faultsL, if_pos (by decide), if_neg (by decide), if_neg (by decide), if_neg (by decide), firstT, if_neg (by decide), if_neg (by decide), if_pos (by decide)]
      simp only [List.nil_append, List.append_nil, opsR, nullF]
      exact opR_head h (right_lit hra)
    | not p a hra =>
      rw [depth_mk, deep_cons] at hd
      rw [faultsL, if_neg (by decide), if_pos (by decide), if_neg (by decide), if_neg (by decide), firstT, if_neg (by decide), if_neg (by decide), if_neg (by decide)]
      simp only [List.nil_append, List.append_nil]
      rw [faultsLs, faultsLs, List.append_nil, firstTs, firstTs, ih a _ (by omega) hra]
      cases firstT l a <;> rfl
    | and p a b hra hrb =>
      rw [depth_mk, deep_cons, deep_cons] at hd
      rw [faultsL, if_neg (by decide), if_pos (by decide), if_neg (by decide), if_neg (by decide), firstT, if_neg (by decide), if_neg (by decide), if_neg (by decide)]
      simp only [List.nil_append, List.append_nil]
      rw [faultsLs, faultsLs, faultsLs, List.append_nil, firstTs, firstTs, firstTs, head_append, ih a _ (by omega) hra, ih b _ (by omega) hrb]
      cases firstT l a <;> cases firstT l b <;> rfl
    | or p a b hra hrb =>
      rw [depth_mk, deep_cons, deep_cons] at hd
      rw [faultsL, if_neg (by decide), if_pos (by decide), if_neg (by decide), if_neg (by decide), firstT, if_neg (by decide), if_neg (by decide), if_neg (by decide)]
      simp only [List.nil_append, List.append_nil]
      rw [faultsLs, faultsLs, faultsLs, List.append_nil, firstTs, firstTs, firstTs, head_append, ih a _ (by omega) hra, ih b _ (by omega) hrb]
      cases firstT l a <;> cases firstT l b <;> rfl
theorem firstT_node (l : List Fd) (k p : Int) (kids : List Tree) (h0 : k ≠ 0) (h1 : k ≠ 1) (h2 : k ≠ 2) (h3 : k ≠ 3) (c : List UInt8) (o : Int) (v : Val) : firstT l (.mk k p c o v kids) = firstTs l kids := by
  rw [firstT, if_neg (by omega), if_neg h2, if_neg h3]
/-- a test's tests being right, it is, if it isn't too deep -/
theorem right_up {k p : Int} {kids : List Tree} (hk : (k = 4 ∧ kids.length = 1) ∨ ((k = 5 ∨ k = 6) ∧ kids.length = 2)) (h : ∀ t ∈ kids, rightT 0 t = true ∧ t.depth ≤ 39) : rightT 0 (.mk k p [] 0 zeroVal kids) = true := by
  have hlen : kids.length = kidsN k := by
    rcases hk with ⟨rfl, h⟩ | ⟨rfl | rfl, h⟩ <;> rw [h] <;> rfl
  rw [rightT_mk, Bool.and_eq_true]
  constructor
  · unfold rightK
    rcases hk with ⟨rfl, -⟩ | ⟨rfl | rfl, -⟩ <;> simp [hlen, zero_isZero]
  · have hn : k ≠ 2 ∧ k ≠ 3 := by omega
    clear hk hlen
    induction kids with
    | nil => rw [rightTs]
    | cons t r ih =>
      obtain ⟨h1, h2⟩ := h t (by simp)
      rw [rightTs_cons, ih (fun u hu => h u (List.mem_cons_of_mem _ hu))]
      have : rightT 1 t = true := (rightT_iff t 1).2 ⟨((rightT_iff t 0).1 h1).1, by omega⟩
      rw [this, decide_eq_true hn]
      rfl
theorem check_bad {t : Tree} {l : List Fd} (h : fieldsB l = false) : checkF t l = (0, 2) := by
  unfold checkF
  rw [h, Bool.and_false]
  rfl
theorem check_good {t : Tree} {l : List Fd} (h : rightT 0 t = true) (hl : fieldsB l = true) : checkF t l = (firstT l t).getD (0, 0) := by
  unfold checkF
  rw [h, hl]
  rfl
/-- the errors of the not, the and, the or of tests -/
theorem check_wraps {a b : Tree} {l : List Fd} (ha : rightT 0 a = true) (hb : rightT 0 b = true) (da : a.depth ≤ 30) (db : b.depth ≤ 30) :
    (checkF (.mk 4 0 [] 0 zeroVal [a]) l).2 = (checkF a l).2 ∧ (checkF (.mk 5 0 [] 0 zeroVal [a, b]) l).2 = (if (checkF a l).2 = 0 then (checkF b l).2 else (checkF a l).2) ∧ (checkF (.mk 6 0 [] 0 zeroVal [a, b]) l).2 = (if (checkF a l).2 = 0 then (checkF b l).2 else (checkF a l).2) := by
  cases hl : fieldsB l with
  | false =>
    rw [check_bad hl, check_bad hl, check_bad hl, check_bad hl, check_bad hl]
    exact ⟨rfl, rfl, rfl⟩
  | true =>
    have h4 := right_up (k := 4) (p := 0) (kids := [a]) (.inl ⟨rfl, rfl⟩) (by simp [ha]; omega)
    have h5 := right_up (k := 5) (p := 0) (kids := [a, b]) (.inr ⟨.inl rfl, rfl⟩) (by simp [ha, hb]; omega)
    have h6 := right_up (k := 6) (p := 0) (kids := [a, b]) (.inr ⟨.inr rfl, rfl⟩) (by simp [ha, hb]; omega)
    rw [check_good h4 hl, check_good h5 hl, check_good h6 hl, check_good ha hl, check_good hb hl]
    rw [firstT_node l 4 0 [a] (by decide) (by decide) (by decide) (by decide), firstT_node l 5 0 [a, b] (by decide) (by decide) (by decide) (by decide), firstT_node l 6 0 [a, b] (by decide) (by decide) (by decide) (by decide)]
    rw [firstTs, firstTs, firstTs, firstTs, firstTs]
    have e1 := firstT_err l a
    cases h1 : firstT l a with
    | none =>
      cases h2 : firstT l b with
      | none => exact ⟨rfl, rfl, rfl⟩
      | some y => exact ⟨rfl, rfl, rfl⟩
    | some x =>
      have := e1 x h1
      refine ⟨rfl, ?_, ?_⟩ <;> (show x.2 = if x.2 = 0 then _ else x.2; rw [if_neg this])
theorem insides_pos {sz : Nat} {l : List Tree} (h : Tree.insides sz l) {u : Tree} (hu : u ∈ l) : 0 ≤ u.pos ∧ u.pos < sz := by
  induction l with
  | nil => cases hu
  | cons t r ih =>
    rw [Tree.insides] at h
    rcases List.mem_cons.1 hu with rfl | hu
    · obtain ⟨k, p, c, o, v, kids⟩ := u
      have := h.1
      rw [Tree.inside] at this
      exact ⟨this.1, this.2.1⟩
    · exact ih h.2 hu
theorem pos_of_op {l : List Fd} {t : Tree} {x : Int × Int} {sz : Nat} (h0 : 0 ≤ t.pos) (h1 : t.pos < sz) (h : opF l t = some x) : 0 ≤ x.1 ∧ x.1 < sz := by
  unfold opF at h
  split at h
  · injection h with h; subst h; exact ⟨h0, h1⟩
  · cases h
theorem pos_of_bool {l : List Fd} {t : Tree} {x : Int × Int} {sz : Nat} (h0 : 0 ≤ t.pos) (h1 : t.pos < sz) (h : boolF l t = some x) : 0 ≤ x.1 ∧ x.1 < sz := by
  unfold boolF at h
  split at h
  · injection h with h; subst h; exact ⟨h0, h1⟩
  · cases h
theorem pos_of_cmp {l : List Fd} {p : Int} {kids : List Tree} {x : Int × Int} {sz : Nat} (h0 : 0 ≤ p) (h1 : p < sz) (hp : ∀ u ∈ kids, 0 ≤ u.pos ∧ u.pos < sz) (h : cmpFt l p kids = some x) : 0 ≤ x.1 ∧ x.1 < sz := by
  unfold cmpFt at h
  split at h
  · rename_i a b
    cases e1 : opF l a with
    | some y => rw [e1] at h; injection h with h; subst h; exact pos_of_op (hp a (by simp)).1 (hp a (by simp)).2 e1
    | none =>
      rw [e1] at h
      cases e2 : opF l b with
      | some y => rw [e2] at h; injection h with h; subst h; exact pos_of_op (hp b (by simp)).1 (hp b (by simp)).2 e2
      | none =>
        rw [e2] at h
        unfold pairF at h
        simp only [orF] at h
        split at h
        · injection h with h; subst h; exact ⟨h0, h1⟩
        · cases h
  · cases h
theorem pos_of_null {l : List Fd} {kids : List Tree} {x : Int × Int} {sz : Nat} (hp : ∀ u ∈ kids, 0 ≤ u.pos ∧ u.pos < sz) (h : nullF l kids = some x) : 0 ≤ x.1 ∧ x.1 < sz := by
  unfold nullF at h
  split at h
  · rename_i a
    exact pos_of_op (hp a (by simp)).1 (hp a (by simp)).2 h
  · cases h
mutual
/-- a fault stands where a part of the test stands -/
theorem first_inside (l : List Fd) (sz : Nat) : ∀ (t : Tree) (x : Int × Int), t.inside sz → firstT l t = some x → 0 ≤ x.1 ∧ x.1 < sz
  | .mk k p c o v kids, x, hi, h => by
    rw [Tree.inside] at hi
    rw [firstT] at h
    have hp : ∀ u ∈ kids, 0 ≤ u.pos ∧ u.pos < sz := fun u hu => insides_pos hi.2.2 hu
    split at h
    · cases h1 : opF l (.mk k p c o v kids) with
      | none => rw [h1] at h; exact pos_of_bool (t := .mk k p c o v kids) hi.1 hi.2.1 h
      | some y => rw [h1] at h; injection h with h; subst h; exact pos_of_op (t := .mk k p c o v kids) hi.1 hi.2.1 h1
    · split at h
      · exact pos_of_cmp hi.1 hi.2.1 hp h
      · split at h
        · exact pos_of_null hp h
        · exact firsts_inside l sz kids x hi.2.2 h
theorem firsts_inside (l : List Fd) (sz : Nat) : ∀ (k : List Tree) (x : Int × Int), Tree.insides sz k → firstTs l k = some x → 0 ≤ x.1 ∧ x.1 < sz
  | [], x, hi, h => by rw [firstTs] at h; cases h
  | t :: r, x, hi, h => by
    rw [Tree.insides] at hi
    rw [firstTs] at h
    cases h1 : firstT l t with
    | none => rw [h1] at h; exact firsts_inside l sz r x hi.2 h
    | some y => rw [h1] at h; injection h with h; subst h; exact first_inside l sz t y hi.1 h1
end
end Go.Proofs.YtfkghfmgeholeaaGreatDoor
