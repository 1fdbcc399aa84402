/- What the walk of CachePlays keeps. -/
import Derived.Test.YtdblpcfkiiliiaaR3
import Derived.Test.YtdblpcfkiiliiaaD1
set_option linter.unusedVariables false
set_option linter.unusedSimpArgs false
namespace Go.Proofs.Ytdblpcfkiiliiaa
open Go.RowKit

/-- the document's parts that are being made -/
structure MkAt (w0 wr : World) (v : Value) (j : Nat) (qs : List Int) (rp rf rc : Nat → Nat) : Prop where
  below : Below w0.heap.size w0 wr
  own : wr.ownsRow w0.heap.size 40 1 v j (ptrs rp j)
  pt : ∀ t, t < j → RpAt wr (rp t) (rf t) (rc t) (newPt (qs.getD t 0).toNat) ∧ w0.heap.size ≤ rp t ∧ w0.heap.size ≤ rf t
  dis : ∀ t s, t < j → s < j → rp t ≠ rf s ∧ (t ≠ s → rp t ≠ rp s ∧ rf t ≠ rf s)
  ob : ∀ k, v.ownBlock = some k → ∀ t, t < j → rp t ≠ k ∧ rf t ≠ k

theorem info40 : (Try.prog.info? 40).map (fun i => (i.zero, i.size, i.bytes)) = some (some (.pointer none), 1, 8) := by kernel_rfl

theorem made_lt {w0 wr : World} {v : Value} {j : Nat} {qs : List Int} {rp rf rc : Nat → Nat} (h : MkAt w0 wr v j qs rp rf rc) (s : Nat) (hs : s < j) : rp s < wr.heap.size ∧ rf s < wr.heap.size := ⟨(h.pt s hs).1.b1, (h.pt s hs).1.b2⟩
theorem MkAt.step {w0 wr w1 W w2 : World} {v : Value} {j : Nat} {qs : List Int} {rp rf rc : Nat → Nat} (h : MkAt w0 wr v j qs rp rf rc) (q : Nat) (hq : qs.getD j 0 = q)
    (hp : RpAt w1 (wr.heap.size + 1) wr.heap.size q (newPt q)) (hb : Below wr.heap.size wr w1) (hB : Below w1.heap.size w1 W) {g cap : Nat}
    (ho : w2.ownsRow w0.heap.size 40 1 (.slice (some ⟨g, 0, none⟩) (j + 1) cap) (j + 1) (ptrs rp j ++ [.pointer (some ⟨wr.heap.size + 1, 0, none⟩)])) (hg : W.grownBy w2 v.ownBlock) (hat : v.ownBlock = some g ∨ g = W.heap.size) :
    MkAt w0 w2 (.slice (some ⟨g, 0, none⟩) (j + 1) cap) (j + 1) qs (fun t => if t = j then wr.heap.size + 1 else rp t) (fun t => if t = j then wr.heap.size else rf t) (fun t => if t = j then q else rc t) := by
  have b1 := hp.b1
  have s1 := hb.size
  have s2 := hB.size
  have s0 := h.below.size
  have hob : ∀ k, v.ownBlock = some k → w0.heap.size ≤ k ∧ k < wr.heap.size := fun k hk => own_lt h.own k hk
  have hw2 : ∀ k, k < W.heap.size → v.ownBlock ≠ some k → w2.heap[k]? = W.heap[k]? := fun k hk hne => hg.block k hk (fun e => hne e.symm)
  have hold : ∀ k, k < wr.heap.size → v.ownBlock ≠ some k → w2.heap[k]? = wr.heap[k]? := fun k hk hne => by
    rw [hw2 k (by omega) hne, hB.block k (by omega), hb.block k hk]
  have hnew : ∀ k, wr.heap.size ≤ k → k < w1.heap.size → w2.heap[k]? = w1.heap[k]? := fun k hk hk2 => by
    rw [hw2 k (by omega) (fun e => by have := hob k e; omega), hB.block k hk2]
  have hgb : ∀ k, (Value.slice (some ⟨g, 0, none⟩) (j + 1) cap).ownBlock = some k → k = g := fun k hk => by simp [Value.ownBlock] at hk; omega
  refine ⟨?_, ?_, ?_, ?_, ?_⟩
  · exact (h.below.trans (hb.mono (by omega))).trans ((hB.mono (by omega)).trans ⟨hg.os, hg.tape, hg.output, hg.size, fun k hk => hw2 k (by omega) (fun e => by have := hob k e; omega)⟩)
  · rw [ptrs_succ, ptrs_congr _ rp j (fun t ht => by simp; omega)]
    simp only [if_true]
    exact ho
  · intro t ht
    by_cases e : t = j
    · subst e
      simp only [if_true]
      refine ⟨?_, by omega, by omega⟩
      rw [hq, Int.toNat_natCast]
      exact hp.kept (by have := hg.size; omega) (hnew _ (by omega) b1) (hnew _ (by omega) hp.b2)
    · simp only [e, if_false]
      obtain ⟨h2, h3, h4⟩ := h.pt t (by omega)
      refine ⟨?_, h3, h4⟩
      have o1 : v.ownBlock ≠ some (rp t) := fun e => (h.ob _ e t (by omega)).1 rfl
      have o2 : v.ownBlock ≠ some (rf t) := fun e => (h.ob _ e t (by omega)).2 rfl
      exact h2.kept (by have := hg.size; omega) (hold _ h2.b1 o1) (hold _ h2.b2 o2)
  · intro t s ht hs
    by_cases et : t = j <;> by_cases es : s = j
    · subst et; subst es; simp
    · subst et
      have := made_lt h s (by omega)
      simp [es]; omega
    · subst es
      have := made_lt h t (by omega)
      simp [et]; omega
    · simp only [et, es, if_false]
      exact h.dis t s (by omega) (by omega)
  · intro k hk t ht
    have := hgb k hk
    subst this
    by_cases et : t = j
    · subst et
      simp only [if_true]
      rcases hat with e | e
      · have := hob _ e; omega
      · omega
    · simp only [et, if_false]
      have hp := made_lt h t (by omega)
      rcases hat with e | e
      · exact h.ob _ e t (by omega)
      · omega

/-- the state of a play: the cache, the document's parts, alike -/
structure PlAt (w wr : World) (S C a ca Q : Nat) (pb fb : Nat → Nat) (G gc : Nat) (rp rf rc : Nat → Nat) (ps : List Pt) (B : Int) : Prop where
  c : CaAt wr C a ca pb fb ps
  len : ps.length = Q
  ok : ∀ t (h : t < ps.length), ps[t].ok B
  r : ∀ t (h : t < ps.length), RpAt wr (rp t) (rf t) (rc t) ps[t]
  dis : ∀ t s, t < Q → s < Q → rp t ≠ rf s ∧ (t ≠ s → rp t ≠ rp s ∧ rf t ≠ rf s)
  low : C < S ∧ a < S ∧ ∀ t, t < Q → pb t < S ∧ fb t < S
  high : ∀ t, t < Q → S ≤ rp t ∧ S ≤ rf t
  g : ∀ t, t < Q → wr.cell? ⟨G, t, none⟩ = some (.pointer (some ⟨rp t, 0, none⟩))
  gl : G < wr.heap.size
  gs : S ≤ G
  go : ∀ t, t < Q → rp t ≠ G ∧ rf t ≠ G
  below : Below w.heap.size w wr
  base : w.heap.size ≤ S ∧ (∀ t, t < Q → w.heap.size ≤ pb t ∧ w.heap.size ≤ fb t)
  sz : S ≤ wr.heap.size
theorem PlAt.grown {w wr w' : World} {S C a ca Q : Nat} {pb fb : Nat → Nat} {G gc : Nat} {rp rf rc : Nat → Nat} {ps : List Pt} {B : Int} (h : PlAt w wr S C a ca Q pb fb G gc rp rf rc ps B) (k : Below wr.heap.size wr w') : PlAt w w' S C a ca Q pb fb G gc rp rf rc ps B :=
  ⟨h.c.below k, h.len, h.ok, fun t ht => (h.r t ht).below k, h.dis, h.low, h.high, fun t ht => (k.cell (p := ⟨G, t, none⟩) h.gl).trans (h.g t ht), Nat.lt_of_lt_of_le h.gl k.size, h.gs, h.go, h.below.trans (k.mono h.below.size), h.base, Nat.le_trans h.sz k.size⟩
/-- both have done the same act -/
theorem PlAt.acted {w wr w1 w2 : World} {S C a ca Q : Nat} {pb fb : Nat → Nat} {G gc : Nat} {rp rf rc : Nat → Nat} {ps : List Pt} {B B' : Int} (h : PlAt w wr S C a ca Q pb fb G gc rp rf rc ps B) (hB : B ≤ B') (t : Nat) (ht : t < ps.length) {p' : Pt} (hc : CaAt w1 C a ca pb fb (ps.set t p')) (hu : Upd (Of (pb t) (fb t)) wr w1)
    {g c : Nat} (hr : RpAt w2 (rp t) g c p') (hu2 : Upd (Of (rp t) (rf t)) w1 w2) (hg : g = rf t ∨ w1.heap.size ≤ g) (hok : p'.ok B') :
    PlAt w w2 S C a ca Q pb fb G gc rp (fun s => if s = t then g else rf s) (fun s => if s = t then c else rc s) (ps.set t p') B' := by
  have htQ : t < Q := by rw [← h.len]; exact ht
  have hl1 := h.low.2.2 t htQ
  have hh1 := h.high t htQ
  have hsz := h.sz
  have s1 := hu.size
  have hgo := h.go t htQ
  have hgl := h.gl
  have hgs := h.gs
  have hb1 : Below w.heap.size w w1 := Upd.below h.below hu (fun i hi => by have := h.base.2 t htQ; rcases hi with rfl | rfl <;> omega) h.below.size
  have hb2 : Below w.heap.size w w2 := Upd.below hb1 hu2 (fun i hi => by have := h.base.1; rcases hi with rfl | rfl <;> omega) hb1.size
  have hmid : ∀ s (hs : s < ps.length), RpAt w1 (rp s) (rf s) (rc s) ps[s] := fun s hs => (h.r s hs).upd hu (by have := h.high s (by rw [← h.len]; exact hs); rintro (e | e) <;> omega) (by have := h.high s (by rw [← h.len]; exact hs); rintro (e | e) <;> omega)
  have hlt : ∀ s, s < Q → rp s < w1.heap.size ∧ rf s < w1.heap.size := fun s hs => ⟨(hmid s (by rw [h.len]; exact hs)).b1, (hmid s (by rw [h.len]; exact hs)).b2⟩
  have hgne : ∀ s, s < Q → rp s ≠ g ∧ (s ≠ t → rf s ≠ g) := fun s hs => by
    have h1 := hlt s hs
    have h2 := h.dis s t hs htQ
    rcases hg with e | e
    · subst e; exact ⟨h2.1, fun hne => (h2.2 hne).2⟩
    · exact ⟨by omega, fun _ => by omega⟩
  refine ⟨hc.upd hu2 ?_ ?_ ?_, by rw [List.length_set]; exact h.len, ?_, ?_, ?_, h.low, ?_, ?_, Nat.lt_of_lt_of_le h.gl (Nat.le_trans s1 hu2.size), h.gs, ?_, hb2, h.base, by have := hu2.size; omega⟩
  · rintro (e | e) <;> have := h.low.1 <;> omega
  · rintro (e | e) <;> have := h.low.2.1 <;> omega
  · intro s hs
    have := h.low.2.2 s (by rw [← h.len]; simpa using hs)
    exact ⟨by rintro (e | e) <;> omega, by rintro (e | e) <;> omega⟩
  · intro s hs
    have hs' : s < ps.length := by simpa using hs
    by_cases e : s = t
    · subst e; simpa using hok
    · have e' : ¬ t = s := fun x => e x.symm
      rw [List.getElem_set_ne e']; exact (h.ok s hs').mono hB
  · intro s hs
    have hs' : s < ps.length := by simpa using hs
    have hsQ : s < Q := by rw [← h.len]; exact hs'
    by_cases e : s = t
    · subst e; simpa using hr
    · have e' : ¬ t = s := fun x => e x.symm
      simp only [e, if_false]
      rw [List.getElem_set_ne e']
      have d1 := h.dis s t hsQ htQ
      have d2 := h.dis t s htQ hsQ
      exact (hmid s hs').upd hu2 (by have := d1.2 e; rintro (x | x) <;> omega) (by have := d1.2 e; rintro (x | x) <;> omega)
  · intro s u hs hu'
    by_cases es : s = t <;> by_cases eu : u = t
    · subst es; subst eu; simp; exact (hgne _ hs).1
    · subst es
      have d := h.dis s u hs hu'
      have := hgne u hu'
      simp only [if_true, eu, if_false]
      exact ⟨d.1, fun hne => ⟨(d.2 hne).1, fun e => this.2 eu e.symm⟩⟩
    · subst eu
      have d := h.dis s u hs hu'
      have := hgne s hs
      simp only [if_true, es, if_false]
      exact ⟨this.1, fun hne => ⟨(d.2 hne).1, this.2 es⟩⟩
    · simp only [es, eu, if_false]
      exact h.dis s u hs hu'
  · intro s hs
    have := h.high s hs
    by_cases e : s = t
    · subst e; simp only [if_true]; rcases hg with e | e <;> omega
    · simp only [e, if_false]; exact this
  · intro s hs
    exact (hu2.cell (p := ⟨G, s, none⟩) (by simp only; omega) (by rintro (e | e) <;> simp only at e <;> omega)).trans ((hu.cell (p := ⟨G, s, none⟩) hgl (by rintro (e | e) <;> simp only at e <;> omega)).trans (h.g s hs))
  · intro s hs
    have := h.go s hs
    by_cases e : s = t
    · subst e; simp only [if_true]; rcases hg with e | e <;> omega
    · simp only [e, if_false]; exact this
theorem has_of_full {p : Pt} {i : Nat} (hi : i < p.frames.length) (h : p.frames[i].full = true) : has p p.frames[i].page = true := by
  unfold has firstOf
  by_cases hl : skips (isPage p.frames[i].page) p.frames < p.frames.length
  · rw [if_pos hl]; rfl
  · have := not_first hl _ (List.getElem_mem hi)
    simp [isPage, h] at this

/-- the first quota that is wrong -/
theorem first_wrong (qs : List Int) : ∃ m, m ≤ qs.length ∧ (∀ i, ∀ h : i < qs.length, i < m → 1 ≤ qs[i] ∧ qs[i] ≤ 64) ∧ (∀ h : m < qs.length, qs[m] < 1 ∨ 64 < qs[m]) := by
  induction qs with
  | nil => exact ⟨0, Nat.le_refl _, fun i h => by simp at h, fun h => by simp at h⟩
  | cons x xs ih =>
    by_cases hx : 1 ≤ x ∧ x ≤ 64
    · obtain ⟨m, h1, h2, h3⟩ := ih
      refine ⟨m + 1, by simpa using h1, fun i hi hm => ?_, fun h => by simpa using h3 (by simpa using h)⟩
      cases i with
      | zero => exact hx
      | succ i => exact h2 i (by simpa using hi) (by omega)
    · exact ⟨0, by simp, fun i _ hm => by omega, fun _ => by simp; omega⟩

theorem wpList_push {ops : Array Oper} {rest : List Oper} {o : Oper} {a : Act} {Q : Exit → Act → World → Prop} {W : World} (hgd : o.guard = none)
    (ho : o.op = .call { callee := .builtin .append, args := #[.tmp 82, .tmp 85], argTypes := #[39, 39] }) (hdst : o.dst = some 86)
    (w0 wr w1 : World) (v : Value) (j : Nat) (qs : List Int) (rp rf rc : Nat → Nat) (hm : MkAt w0 wr v j qs rp rf rc) (hj : j < 8) (hb : Below wr.heap.size wr w1) (P : Value) (hP : P.oneCell' = true)
    (hW : W = w1.alloc (.cells #[P] 40)) (hs : a.eval (.tmp 82) = v) (hx : a.eval (.tmp 85) = .slice (some ⟨w1.heap.size, 0, none⟩) 1 1)
    (h : ∀ g c w2, w2.ownsRow w0.heap.size 40 1 (.slice (some ⟨g, 0, none⟩) (j + 1) c) (j + 1) (ptrs rp j ++ [P]) → W.grownBy w2 v.ownBlock → (v.ownBlock = some g ∨ g = W.heap.size) → wpList Try.prog ops Q rest (a.put (some 86) (.slice (some ⟨g, 0, none⟩) (j + 1) c)) w2) :
    wpList Try.prog ops Q (o :: rest) a W := by
  obtain ⟨i0, hi0, hz0, hz1, hz2⟩ := info_parts info40
  have hbW : Below w1.heap.size w1 W := by rw [hW]; exact (Below.refl _ _).alloc (Nat.le_refl _) _
  have s0 := hm.below.size
  have s1 := hb.size
  have s2 := hbW.size
  refine wpList_append_lies (P := Try.prog) W hgd (.tmp 82) (.tmp 85) 39 ho w0.heap.size 40 i0 _ 1 8 Try.underlying39 hi0 hz0 hz1 hz2 rfl (by decide) v j (ptrs rp j) hs (own_later hm.own (hb.trans (hbW.mono s1)))
    ⟨w1.heap.size, 0, none⟩ 1 1 [P] hx rfl ?_ (by intro u hu; simp at hu; subst hu; exact hP) (by omega) (by unfold maxLen; omega) (by omega) (by omega) W.heap.size rfl ?_
  · intro i u hu
    match i, hu with
    | 0, hu =>
      simp at hu
      subst hu
      show World.cell? W (Addr.add ⟨w1.heap.size, 0, none⟩ 0) = _
      rw [hW, show Addr.add ⟨w1.heap.size, 0, none⟩ 0 = ⟨w1.heap.size, 0, none⟩ from rfl]
      simp
  · intro g c w2 h1 h2 h3 _
    rw [hdst]
    exact h g c w2 h1 h2 h3


theorem nums_of_at {w : World} {A : Option Addr} {xs : List Int} (h : NumsAt w A xs) (h1 : 1 ≤ xs.length) : ∃ b off, A = some ⟨b, off, none⟩ ∧ Nums w b off xs := by
  obtain ⟨b, off, hA, hb, h0⟩ := h 0 (by omega)
  refine ⟨b, off, hA, fun i hi => ?_, hb⟩
  obtain ⟨b', off', hA', hb', hi'⟩ := h i hi
  rw [hA] at hA'
  simp at hA'
  obtain ⟨rfl, rfl⟩ := hA'
  exact hi'
theorem new_not (w : World) (A : Option Addr) (n c : Nat) (qs : List Int) (hn : qs.length = n) (hm : n ≤ 20) (hq : NumsAt w A qs) (m : Nat) (hml : m ≤ n) (hr : ∀ i, ∀ h : i < qs.length, i < m → 1 ≤ qs[i] ∧ qs[i] ≤ 64) (hx : ∀ h : m < qs.length, qs[m] < 1 ∨ 64 < qs[m])
    (hg : ¬ (m = n ∧ 1 ≤ n ∧ n ≤ 8)) : Calls Try.prog 9 #[.slice A n c] w fun e w' => e = .returned (.tuple #[.pointer none, .int .i64 2]) ∧ Below w.heap.size w w' := by
  by_cases h8 : n < 1 ∨ 8 < n
  · refine (new_bad w _ n A c rfl h8 (by omega)).mono ?_
    rintro e w' ⟨h1, rfl⟩
    exact ⟨h1, Below.refl _ _⟩
  · obtain ⟨b, off, rfl, hN⟩ := nums_of_at hq (by omega)
    refine (new_any w b off c qs n hn (by omega) (by omega) hN m hml hr hx).mono ?_
    rintro e w' (⟨h1, _⟩ | ⟨_, h1, h2⟩)
    · omega
    · exact ⟨h1, h2⟩
theorem new_good (w : World) (A : Option Addr) (n c : Nat) (qs : List Int) (hn : qs.length = n) (h1 : 1 ≤ n) (h8 : n ≤ 8) (hq : NumsAt w A qs) (hr : ∀ i, ∀ h : i < qs.length, 1 ≤ qs[i] ∧ qs[i] ≤ 64) :
    Calls Try.prog 9 #[.slice A n c] w fun e w' => ∃ C a cap pb fb, e = .returned (.tuple #[.pointer (some ⟨C, 0, none⟩), .int .i64 0]) ∧ CaAt w' C a cap pb fb (qs.map fun q => newPt q.toNat) ∧ Below w.heap.size w w' ∧ w.heap.size ≤ C ∧ w.heap.size ≤ a ∧ (∀ t, t < n → w.heap.size ≤ pb t ∧ w.heap.size ≤ fb t) := by
  obtain ⟨b, off, rfl, hN⟩ := nums_of_at hq (by omega)
  refine (new_any w b off c qs n hn h1 h8 hN n (Nat.le_refl _) (fun i h _ => hr i h) (fun h => by omega)).mono ?_
  rintro e w' hne
  exact new_cache hne h1 h8 hn
theorem right_not (w : World) (A : Option Addr) (n c : Nat) (qs : List Int) (hn : qs.length = n) (hm : n ≤ 20) (hq : NumsAt w A qs) (m : Nat) (hml : m ≤ n) (hr : ∀ i, ∀ h : i < qs.length, i < m → 1 ≤ qs[i] ∧ qs[i] ≤ 64) (hx : ∀ h : m < qs.length, qs[m] < 1 ∨ 64 < qs[m])
    (hg : ¬ (m = n ∧ 1 ≤ n ∧ n ≤ 8)) : Calls Try.prog 12 #[.slice A n c] w fun e w' => e = .returned (.bool false) ∧ w = w' := by
  by_cases hmn : m < n
  · exact right_wrong w A n c qs hn (by omega) hq m hmn hr hx
  · refine right_all w A n c qs hn (by omega) hq (fun i h => hr i h (by omega)) false ?_
    rw [eq_comm, Bool.and_eq_false_iff]
    simp only [decide_eq_false_iff_not]
    omega
/-- the parts made, and the cache -/
theorem MkAt.play {w w2 wr : World} {v : Value} {n : Nat} {qs : List Int} {rp rf rc : Nat → Nat} {C a ca : Nat} {pb fb : Nat → Nat} (h : MkAt w2 wr v n qs rp rf rc) (hn : qs.length = n) (h1 : 1 ≤ n) (hb : Below w.heap.size w w2) (hc : CaAt w2 C a ca pb fb (qs.map fun q => newPt q.toNat))
    (hs : w.heap.size ≤ w2.heap.size) (hp : ∀ t, t < n → w.heap.size ≤ pb t ∧ w.heap.size ≤ fb t) :
    ∃ G gc, v = .slice (some ⟨G, 0, none⟩) n gc ∧ PlAt w wr w2.heap.size C a ca n pb fb G gc rp rf rc (qs.map fun q => newPt q.toNat) 0 := by
  have hl : (ptrs rp n).length = n := by simp [ptrs]
  rcases h.own.2 with ⟨hv, h0⟩ | ⟨g, cap, cur, hv, hg, hh, hx⟩
  · omega
  · subst hv
    refine ⟨g, cap, rfl, ?_⟩
    refine ⟨hc.below h.below, by simp [hn], ?_, ?_, h.dis, ?_, ?_, ?_, (Array.getElem?_eq_some_iff.1 hh).1, hg, ?_, hb.trans (h.below.mono hs), ⟨hs, hp⟩, h.below.size⟩
    · intro t ht
      simp only [List.getElem_map]
      exact newPt_ok _
    · intro t ht
      have ht' : t < n := by simpa [hn] using ht
      have := (h.pt t ht').1
      simp only [List.getElem_map]
      have e : qs.getD t 0 = qs[t]'(by omega) := by simp [List.getD_eq_getElem?_getD, hn, ht']
      rw [e] at this
      exact this
    · exact ⟨hc.bc, hc.ba, fun t ht => ⟨(hc.pt t (by simp [hn, ht])).b1, (hc.pt t (by simp [hn, ht])).b2⟩⟩
    · intro t ht; exact (h.pt t ht).2
    · intro t ht
      have := h.own.cells (g := g) rfl t (.pointer (some ⟨rp t, 0, none⟩)) (by simp [ptrs, ht])
      rwa [show (⟨g, 0, none⟩ : Addr).add t = ⟨g, t, none⟩ from by unfold Addr.add; split <;> simp_all] at this
    · intro t ht
      exact h.ob g rfl t ht
end Go.Proofs.Ytdblpcfkiiliiaa
