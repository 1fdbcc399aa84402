/- The document's part of a cache: where it lies, and the walks of its functions. -/
import Derived.Test.YtdblpcfkiiliiaaC6
set_option linter.unusedVariables false
set_option linter.unusedSimpArgs false
namespace Go.Proofs.Ytdblpcfkiiliiaa
open Go.RowKit

def Fr.rcell (f : Fr) : Nat → Value
  | 0 => .int .i64 f.page
  | 1 => .int .i64 f.held
  | 2 => .bool f.full
  | _ => .bool f.touched
/-- frames lie in a block, as the document has them -/
def RfAt (w : World) (fb : Nat) (xs : List Fr) : Prop :=
  ∀ i, ∀ h : i < xs.length, ∀ j, j < 4 → w.cell? ⟨fb, i * 4 + j, none⟩ = some (xs[i].rcell j)
theorem RfAt.four {w : World} {fb : Nat} {xs : List Fr} (h : RfAt w fb xs) (i : Nat) (hi : i < xs.length) :
    w.cell? ⟨fb, i * 4, none⟩ = some (.int .i64 xs[i].page) ∧ w.cell? ⟨fb, i * 4 + 1, none⟩ = some (.int .i64 xs[i].held)
    ∧ w.cell? ⟨fb, i * 4 + 2, none⟩ = some (.bool xs[i].full) ∧ w.cell? ⟨fb, i * 4 + 3, none⟩ = some (.bool xs[i].touched) :=
  ⟨h i hi 0 (by omega), h i hi 1 (by omega), h i hi 2 (by omega), h i hi 3 (by omega)⟩
theorem RfAt.kept {w w' : World} {fb : Nat} {xs : List Fr} (h : RfAt w fb xs) (h2 : w'.heap[fb]? = w.heap[fb]?) : RfAt w' fb xs :=
  fun i hi j hj => (World.cell?_of_block (w := w) (a := ⟨fb, i * 4 + j, none⟩) h2).trans (h i hi j hj)
theorem RfAt.set {w : World} {fb : Nat} {xs : List Fr} (h : RfAt w fb xs) (k : Nat) (hk : k < xs.length) (j0 : Nat) (hj0 : j0 < 4) (f : Fr) (hf : ∀ j, j < 4 → j ≠ j0 → f.rcell j = xs[k].rcell j) :
    RfAt (w.setCell ⟨fb, k * 4 + j0, none⟩ (f.rcell j0)) fb (xs.set k f) := by
  intro i hi j hj
  have hi' : i < xs.length := by simpa using hi
  rw [cell_set (h i hi' j hj)]
  by_cases e : i = k
  · subst e
    simp only [List.getElem_set_self]
    by_cases e2 : j = j0
    · subst e2; simp
    · rw [if_neg (by intro e3; injection e3 with e4 e5; omega), hf j hj e2]
  · rw [if_neg (by intro e3; injection e3 with e4 e5; omega), List.getElem_set_ne (by omega)]
theorem RfAt.setAll {w : World} {fb : Nat} {xs : List Fr} (h : RfAt w fb xs) (k : Nat) (hk : k < xs.length) (f : Fr) :
    RfAt ((((w.setCell ⟨fb, k * 4, none⟩ (.int .i64 f.page)).setCell ⟨fb, k * 4 + 1, none⟩ (.int .i64 f.held)).setCell ⟨fb, k * 4 + 2, none⟩ (.bool f.full)).setCell ⟨fb, k * 4 + 3, none⟩ (.bool f.touched)) fb (xs.set k f) := by
  have h0 := h.set k hk 0 (by omega) { xs[k] with page := f.page } (fun j hj hne => by match j, hj with | 0, _ => exact absurd rfl hne | 1, _ => rfl | 2, _ => rfl | 3, _ => rfl)
  have h1 := h0.set k (by simpa using hk) 1 (by omega) { xs[k] with page := f.page, held := f.held } (fun j hj hne => by simp only [List.getElem_set_self]; match j, hj with | 0, _ => rfl | 1, _ => exact absurd rfl hne | 2, _ => rfl | 3, _ => rfl)
  have h2 := h1.set k (by simpa using hk) 2 (by omega) { xs[k] with page := f.page, held := f.held, full := f.full } (fun j hj hne => by simp only [List.getElem_set_self]; match j, hj with | 0, _ => rfl | 1, _ => rfl | 2, _ => exact absurd rfl hne | 3, _ => rfl)
  have h3 := h2.set k (by simpa using hk) 3 (by omega) f (fun j hj hne => by simp only [List.getElem_set_self]; match j, hj with | 0, _ => rfl | 1, _ => rfl | 2, _ => rfl | 3, _ => exact absurd rfl hne)
  simpa [Fr.rcell, List.set_set] using h3

/-- a part lies in two blocks, as the document has it -/
structure RpAt (w : World) (pb fb cap : Nat) (p : Pt) : Prop where
  c0 : w.cell? ⟨pb, 0, none⟩ = some (.slice (some ⟨fb, 0, none⟩) p.frames.length cap)
  c1 : w.cell? ⟨pb, 1, none⟩ = some (.int .i64 p.hand)
  c2 : w.cell? ⟨pb, 2, none⟩ = some (.int .i64 p.hits)
  c3 : w.cell? ⟨pb, 3, none⟩ = some (.int .i64 p.misses)
  fr : RfAt w fb p.frames
  z1 : ∀ o, w.frozen? ⟨pb, o, none⟩ = false
  z2 : ∀ o, w.frozen? ⟨fb, o, none⟩ = false
  b1 : pb < w.heap.size
  b2 : fb < w.heap.size
  ne : pb ≠ fb
  n1 : 1 ≤ p.frames.length
  n64 : p.frames.length ≤ 64
  hd : p.hand < p.frames.length
theorem RpAt.kept {w w' : World} {pb fb cap : Nat} {p : Pt} (h : RpAt w pb fb cap p) (hs : w.heap.size ≤ w'.heap.size) (h1 : w'.heap[pb]? = w.heap[pb]?) (h2 : w'.heap[fb]? = w.heap[fb]?) : RpAt w' pb fb cap p where
  c0 := (World.cell?_of_block (w := w) (a := ⟨pb, 0, none⟩) h1).trans h.c0
  c1 := (World.cell?_of_block (w := w) (a := ⟨pb, 1, none⟩) h1).trans h.c1
  c2 := (World.cell?_of_block (w := w) (a := ⟨pb, 2, none⟩) h1).trans h.c2
  c3 := (World.cell?_of_block (w := w) (a := ⟨pb, 3, none⟩) h1).trans h.c3
  fr := h.fr.kept h2
  z1 := fun o => (World.frozen?_of_block (w := w) (a := ⟨pb, o, none⟩) h1).trans (h.z1 o)
  z2 := fun o => (World.frozen?_of_block (w := w) (a := ⟨fb, o, none⟩) h2).trans (h.z2 o)
  b1 := Nat.lt_of_lt_of_le h.b1 hs
  b2 := Nat.lt_of_lt_of_le h.b2 hs
  ne := h.ne
  n1 := h.n1
  n64 := h.n64
  hd := h.hd
theorem RpAt.upd {S : Nat → Prop} {w w' : World} {pb fb cap : Nat} {p : Pt} (h : RpAt w pb fb cap p) (k : Upd S w w') (h1 : ¬ S pb) (h2 : ¬ S fb) : RpAt w' pb fb cap p :=
  h.kept k.size (k.block pb h.b1 h1) (k.block fb h.b2 h2)
theorem RpAt.below {w w' : World} {pb fb cap : Nat} {p : Pt} (h : RpAt w pb fb cap p) (k : Below w.heap.size w w') : RpAt w' pb fb cap p :=
  h.kept k.size (k.block pb h.b1) (k.block fb h.b2)
theorem RpAt.drewN {w : World} {pb fb cap : Nat} {p : Pt} (h : RpAt w pb fb cap p) (n : Nat) : RpAt (w.drewN n) pb fb cap p := ⟨h.c0, h.c1, h.c2, h.c3, h.fr, h.z1, h.z2, h.b1, h.b2, h.ne, h.n1, h.n64, h.hd⟩
theorem RpAt.frames {w : World} {pb fb cap : Nat} {p : Pt} (h : RpAt w pb fb cap p) (o : Nat) (v : Value) (xs : List Fr) (hl : xs.length = p.frames.length) (hx : RfAt (w.setCell ⟨fb, o, none⟩ v) fb xs) : RpAt (w.setCell ⟨fb, o, none⟩ v) pb fb cap { p with frames := xs } := by
  have hne : ∀ o', (⟨fb, o, none⟩ : Addr) ≠ ⟨pb, o', none⟩ := fun o' e => h.ne (by injection e with e1; exact e1.symm)
  have hc : ∀ o' u, w.cell? ⟨pb, o', none⟩ = some u → (w.setCell ⟨fb, o, none⟩ v).cell? ⟨pb, o', none⟩ = some u := fun o' u hv => by rw [World.cell?_setCell_other _ _ _ _ (hne o')]; exact hv
  exact ⟨by simpa [hl] using hc _ _ h.c0, hc _ _ h.c1, hc _ _ h.c2, hc _ _ h.c3, hx, fun o => by rw [World.frozen?_setCell]; exact h.z1 o, fun o => by rw [World.frozen?_setCell]; exact h.z2 o,
    by simpa [World.setCell] using h.b1, by simpa [World.setCell] using h.b2, h.ne, by simpa [hl] using h.n1, by simpa [hl] using h.n64, by simpa [hl] using h.hd⟩
theorem RpAt.setFrame {w : World} {pb fb cap : Nat} {p : Pt} (h : RpAt w pb fb cap p) (k : Nat) (hk : k < p.frames.length) (j0 : Nat) (hj0 : j0 < 4) (f : Fr) (hf : ∀ j, j < 4 → j ≠ j0 → f.rcell j = p.frames[k].rcell j) :
    RpAt (w.setCell ⟨fb, k * 4 + j0, none⟩ (f.rcell j0)) pb fb cap { p with frames := p.frames.set k f } :=
  h.frames _ _ _ (by simp) (h.fr.set k hk j0 hj0 f hf)
theorem RpAt.setAll {w : World} {pb fb cap : Nat} {p : Pt} (h : RpAt w pb fb cap p) (k : Nat) (hk : k < p.frames.length) (f : Fr) :
    RpAt ((((w.setCell ⟨fb, k * 4, none⟩ (.int .i64 f.page)).setCell ⟨fb, k * 4 + 1, none⟩ (.int .i64 f.held)).setCell ⟨fb, k * 4 + 2, none⟩ (.bool f.full)).setCell ⟨fb, k * 4 + 3, none⟩ (.bool f.touched)) pb fb cap { p with frames := p.frames.set k f } := by
  have h0 := h.setFrame k hk 0 (by omega) { p.frames[k] with page := f.page } (fun j hj hne => by match j, hj with | 0, _ => exact absurd rfl hne | 1, _ => rfl | 2, _ => rfl | 3, _ => rfl)
  have h1 := h0.setFrame k (by simpa using hk) 1 (by omega) { p.frames[k] with page := f.page, held := f.held } (fun j hj hne => by simp only [List.getElem_set_self]; match j, hj with | 0, _ => rfl | 1, _ => exact absurd rfl hne | 2, _ => rfl | 3, _ => rfl)
  have h2 := h1.setFrame k (by simpa using hk) 2 (by omega) { p.frames[k] with page := f.page, held := f.held, full := f.full } (fun j hj hne => by simp only [List.getElem_set_self]; match j, hj with | 0, _ => rfl | 1, _ => rfl | 2, _ => exact absurd rfl hne | 3, _ => rfl)
  have h3 := h2.setFrame k (by simpa using hk) 3 (by omega) f (fun j hj hne => by simp only [List.getElem_set_self]; match j, hj with | 0, _ => rfl | 1, _ => rfl | 2, _ => rfl | 3, _ => exact absurd rfl hne)
  simpa [Fr.rcell, List.set_set] using h3
/-- a cell of the part itself is written -/
theorem RpAt.own {w : World} {pb fb cap : Nat} {p p' : Pt} (h : RpAt w pb fb cap p) (o : Nat) (v : Value) (hf : p'.frames = p.frames) (hd : p'.hand < p'.frames.length)
    (h0 : o ≠ 0) (h1 : (if o = 1 then v else .int .i64 p.hand) = .int .i64 p'.hand) (h2 : (if o = 2 then v else .int .i64 p.hits) = .int .i64 p'.hits) (h3 : (if o = 3 then v else .int .i64 p.misses) = .int .i64 p'.misses) : RpAt (w.setCell ⟨pb, o, none⟩ v) pb fb cap p' := by
  have hc : ∀ o' u, w.cell? ⟨pb, o', none⟩ = some u → (w.setCell ⟨pb, o, none⟩ v).cell? ⟨pb, o', none⟩ = some (if o = o' then v else u) := fun o' u hv => by
    rw [cell_set hv]; by_cases e : o = o' <;> simp [e]
  have c0 := hc _ _ h.c0
  rw [if_neg h0] at c0
  refine ⟨by rw [hf]; exact c0, by rw [← h1]; exact hc _ _ h.c1, by rw [← h2]; exact hc _ _ h.c2, by rw [← h3]; exact hc _ _ h.c3, ?_,
    fun o => by rw [World.frozen?_setCell]; exact h.z1 o, fun o => by rw [World.frozen?_setCell]; exact h.z2 o, by simpa [World.setCell] using h.b1, by simpa [World.setCell] using h.b2, h.ne, by rw [hf]; exact h.n1, by rw [hf]; exact h.n64, hd⟩
  rw [hf]
  intro i hi j hj
  rw [World.cell?_setCell_other _ _ _ _ (fun e => h.ne (by injection e))]
  exact h.fr i hi j hj

/-! ### Find -/
theorem rfind_any (w : World) (pb fb cap : Nat) (p : Pt) (h : RpAt w pb fb cap p) (page : Int) :
    Calls Try.prog 25 #[.pointer (some ⟨pb, 0, none⟩), .int .i64 page] w fun e w' => e = .returned (.int .i64 (idxOf (isPage page) p.frames)) ∧ Below w.heap.size w w' := by
  have hb1 := h.b1
  have hb2 := h.b2
  have h64 := h.n64
  have c0 := h.c0
  have hfr := h.fr
  have hle := skips_le (isPage page) p.frames
  generalize hN : p.frames.length = N at c0 h64 hle
  have HN := Lib.hid hN; clear hN
  have Hfr := Lib.hid hfr; clear hfr
  clear h
  go_enter Try.func25, Try.ntmps25
  go_wp2_with fail
  go_loopg [12] N (fun k i wr => ∃ j : Nat, j ≤ N ∧ k = N - j ∧ i = .int .i64 j ∧ j ≤ skips (isPage page) p.frames ∧ Below w.heap.size w wr)
  case atStart => exact ⟨0, by omega, by omega, rfl, by omega, Below.refl _ _⟩
  case round =>
    obtain ⟨j, hj, hk, rfl, hs, hb⟩ := hrel
    have Hk := Lib.hid hk; clear hk
    by_cases hlt : j < N
    · have hl : j < p.frames.length := by rw [HN.out]; exact hlt
      have hsk := skips_at (isPage page) p.frames j hl hs
      obtain ⟨k0, k1, k2, k3⟩ := Hfr.out.four j hl
      have e0 := (hb.cell (p := ⟨fb, j * 4, none⟩) hb2).trans k0
      have e1 := (hb.cell (p := ⟨fb, j * 4 + 1, none⟩) hb2).trans k1
      have e2 := (hb.cell (p := ⟨fb, j * 4 + 2, none⟩) hb2).trans k2
      have e3 := (hb.cell (p := ⟨fb, j * 4 + 3, none⟩) hb2).trans k3
      clear k0 k1 k2 k3
      have hpk : isPage page p.frames[j] = (p.frames[j].full && p.frames[j].page == page) := rfl
      cases hf : p.frames[j].full with
      | false =>
        rw [hf] at e2
        have hq := hsk.2 (by rw [hpk, hf]; rfl)
        clear hsk hpk hf
        go_wp2_with fail
        go_roundg (N - (j + 1))
        case measure => have := Hk.out; omega
        case rel => exact ⟨j + 1, by omega, rfl, by go_num, hq, hb.alloc hb.size _⟩
      | true =>
        rw [hf] at e2
        cases hp : p.frames[j].page == page with
        | false =>
          have hq := hsk.2 (by rw [hpk, hf, hp]; rfl)
          clear hsk hpk hf
          go_wp2_with fail
          go_roundg (N - (j + 1))
          case measure => have := Hk.out; omega
          case rel => exact ⟨j + 1, by omega, rfl, by go_num, hq, hb.alloc hb.size _⟩
        | true =>
          have hq := hsk.1 (by rw [hpk, hf, hp]; rfl)
          have Hq := Lib.hid hq
          clear hsk hpk hf hq
          go_wp2_with fail
          go_ret
          refine ⟨?_, hb.alloc hb.size _⟩
          rw [idxOf, Hq.out, if_pos hl]
          rfl
    · go_wp2_with fail
      go_ret
      refine ⟨?_, hb⟩
      rw [idxOf, if_neg (by have := HN.out; omega)]
      rfl

theorem info53 : (Try.prog.info? 53).map (fun i => (i.zero, i.size, i.bytes)) = some (some (.agg #[.int .i64 0, .int .i64 0, .bool false, .bool false]), 4, 24) := by kernel_rfl
def newRCells (q : Nat) : Array Value := madeCells #[.int .i64 0, .int .i64 0, .bool false, .bool false] (q * 4)
theorem newRCells_at (q i j : Nat) (hi : i < q) (hj : j < 4) : (newRCells q)[i * 4 + j]? = some (Fr.zero.rcell j) := by
  unfold newRCells madeCells
  have h1 : i * 4 + j < q * 4 := by omega
  simp [h1]
  match j, hj with
  | 0, _ => rfl
  | 1, _ => rfl
  | 2, _ => rfl
  | 3, _ => rfl
theorem run_newRFrames (q : Nat) (hq : q ≤ 64) (W : World) : (Instr.makeSlice 49 (.int .i64 (q : Int)) (.int .i64 (q : Int))).run Try.prog W = .ok (.slice (some ⟨W.heap.size, 0, none⟩) q q) (W.alloc (.cells (newRCells q) 53)) := by
  obtain ⟨i, hi, hz, hs, hb⟩ := info_parts info53
  have := run_make (P := Try.prog) W 49 53 i _ Try.underlying49 hi hz .i64 .i64 (q : Int) (q : Int) (by omega) (by omega) (by rw [hb]; omega) (by omega)
  rw [hs] at this
  simpa [newRCells, Value.cells] using this
theorem rnew_any (w : World) (q : Nat) (h1 : 1 ≤ q) (h64 : q ≤ 64) :
    Calls Try.prog 17 #[.int .i64 q] w fun e w' => e = .returned (.pointer (some ⟨w.heap.size + 1, 0, none⟩)) ∧ RpAt w' (w.heap.size + 1) w.heap.size q (newPt q) ∧ Below w.heap.size w w' := by
  have hmk := run_newRFrames q h64
  go_enter Try.func17, Try.ntmps17
  go_wp2
  go_ret
  refine ⟨rfl, ?_, ((Below.refl _ _).alloc (Nat.le_refl _) _).alloc (by simp) _⟩
  refine ⟨by simp [go_sem, newPt], by simp [go_sem, newPt], by simp [go_sem, newPt], by simp [go_sem, newPt], ?_, fun o => by simp [go_sem], fun o => by simp [go_sem], by simp, by simp; omega, by omega, by simpa [newPt] using h1, by simpa [newPt] using h64, by simp [newPt]; omega⟩
  intro i hi j hj
  have hi' : i < q := by simpa [newPt] using hi
  have := newRCells_at q i j hi' hj
  simpa [go_sem, newPt] using this
end Go.Proofs.Ytdblpcfkiiliiaa
