/- The walk of cache.New. -/
import Derived.Test.YtdblpcfkiiliiaaC4
import Derived.Deep.AppendLies
import Derived.Deep.RegionLaw
set_option linter.unusedVariables false
set_option linter.unusedSimpArgs false
namespace Go.Proofs.Ytdblpcfkiiliiaa
open Go.RowKit

/-- numbers are read -/
structure Nums (w : World) (b off : Nat) (xs : List Int) : Prop where
  cell : ∀ i, ∀ h : i < xs.length, w.cell? ⟨b, off + i, none⟩ = some (.int .i64 xs[i])
  lt : b < w.heap.size

theorem new_bad (w : World) (v : Value) (n : Nat) (A : Option Addr) (c : Nat) (hv : v = .slice A n c) (hn : n < 1 ∨ 8 < n) (hm : n ≤ 9223372036854775807) :
    Calls Try.prog 9 #[v] w fun e w' => e = .returned (.tuple #[.pointer none, .int .i64 2]) ∧ w = w' := by
  subst hv
  by_cases h1 : n < 1
  · clear hn
    have hd : decide (n < 1) = true := by simpa using h1
    go_enter Try.func9, Try.ntmps9
    go_wp2
    go_ret2
    exact ⟨rfl, rfl⟩
  · have h8 : 8 < n := by omega
    clear hn
    go_enter Try.func9, Try.ntmps9
    go_wp2
    go_ret2
    exact ⟨rfl, rfl⟩

theorem info69 : (Try.prog.info? 69).map (fun i => (i.zero, i.size, i.bytes)) = some (some (.agg #[.int .i64 0, .bool false, .bool false, .int .i64 0]), 4, 24) := by kernel_rfl
theorem info61 : (Try.prog.info? 61).map (fun i => (i.zero, i.size, i.bytes)) = some (some (.pointer none), 1, 8) := by kernel_rfl
/-- the cells of new frames -/
def newCells (q : Nat) : Array Value := madeCells #[.int .i64 0, .bool false, .bool false, .int .i64 0] (q * 4)
theorem newCells_at (q i j : Nat) (hi : i < q) (hj : j < 4) : (newCells q)[i * 4 + j]? = some (Fr.zero.cell j) := by
  unfold newCells madeCells
  have h1 : i * 4 + j < q * 4 := by omega
  simp [h1]
  match j, hj with
  | 0, _ => rfl
  | 1, _ => rfl
  | 2, _ => rfl
  | 3, _ => rfl
theorem run_newFrames (q : Nat) (hq : q ≤ 64) (W : World) : (Instr.makeSlice 62 (.int .i64 (q : Int)) (.int .i64 (q : Int))).run Try.prog W = .ok (.slice (some ⟨W.heap.size, 0, none⟩) q q) (W.alloc (.cells (newCells q) 69)) := by
  obtain ⟨i, hi, hz, hs, hb⟩ := info_parts info69
  have := run_make (P := Try.prog) W 62 69 i _ Try.underlying62 hi hz .i64 .i64 (q : Int) (q : Int) (by omega) (by omega) (by rw [hb]; omega) (by omega)
  rw [hs] at this
  simpa [newCells, Value.cells] using this

def newPt (q : Nat) : Pt := ⟨List.replicate q Fr.zero, 0, 0, 0⟩
def ptrs (pb : Nat → Nat) (j : Nat) : List Value := (List.range j).map fun t => .pointer (some ⟨pb t, 0, none⟩)
/-- a cache that is being made -/
structure NewAt (w wr : World) (C j : Nat) (qs : List Int) (pb fb : Nat → Nat) (v : Value) : Prop where
  below : Below w.heap.size w wr
  c1 : w.heap.size ≤ C
  c2 : C < wr.heap.size
  c0 : wr.cell? ⟨C, 0, none⟩ = some v
  z0 : wr.frozen? ⟨C, 0, none⟩ = false
  own : wr.ownsRow (C + 1) 61 1 v j (ptrs pb j)
  pt : ∀ t, t < j → PtAt wr (pb t) (fb t) (newPt (qs.getD t 0).toNat) ∧ C < pb t ∧ C < fb t
  dis : ∀ t s, t < j → s < j → pb t ≠ fb s ∧ (t ≠ s → pb t ≠ pb s ∧ fb t ≠ fb s)
  ob : ∀ k, v.ownBlock = some k → ∀ t, t < j → pb t ≠ k ∧ fb t ≠ k

theorem own_later {W w1 : World} {base : Nat} {e : TypeId} {size : Nat} {v : Value} {n : Nat} {xs : List Value} (h : W.ownsRow base e size v n xs) (hb : Below W.heap.size W w1) : w1.ownsRow base e size v n xs :=
  h.kept ⟨hb.os, hb.tape, hb.output, hb.size, fun k hk _ => hb.block k hk⟩ (row := none) (by cases v.ownBlock <;> simp)
theorem cell_grown {W w1 : World} {row : Option Nat} (h : W.grownBy w1 row) {p : Addr} (hp : p.block < W.heap.size) (hr : row ≠ some p.block) : w1.cell? p = W.cell? p := World.cell?_of_block (w := W) (h.block p.block hp (fun e => hr e.symm))
theorem frozen_grown {W w1 : World} {row : Option Nat} (h : W.grownBy w1 row) {p : Addr} (hp : p.block < W.heap.size) (hr : row ≠ some p.block) : w1.frozen? p = W.frozen? p := World.frozen?_of_block (w := W) (h.block p.block hp (fun e => hr e.symm))
theorem NewAt.own_ne {w wr : World} {C j : Nat} {qs : List Int} {pb fb : Nat → Nat} {v : Value} (h : NewAt w wr C j qs pb fb v) : v.ownBlock ≠ some C := by
  intro e
  rcases h.own.2 with ⟨hv, _⟩ | ⟨g, cap, cur, hv, hb, _⟩
  · subst hv; simp [Value.ownBlock] at e
  · subst hv; simp [Value.ownBlock] at e; omega

theorem step_new {ops : Array Oper} {o : Oper} {a : Act} {K : Act → World → Prop} {Q : Exit → Act → World → Prop} {E : Prop} {W : World} (hgd : o.guard = none)
    (ho : o.op = .call { callee := .builtin .append, args := #[.tmp 33, .tmp 38], argTypes := #[58, 58] }) (hdst : o.dst = some 39)
    (w wr : World) (C j : Nat) (qs : List Int) (pb fb : Nat → Nat) (v : Value) (hna : NewAt w wr C j qs pb fb v) (hj : j < 8) (A1 A2 : Array Value)
    (hW : W = ((wr.drew.alloc (.cells A1 69)).alloc (.cells A2 64)).alloc (.cells #[.pointer (some ⟨wr.heap.size + 1, 0, none⟩)] 61))
    (hs : a.eval (.tmp 33) = v) (hx : a.eval (.tmp 38) = .slice (some ⟨wr.heap.size + 1 + 1, 0, none⟩) 1 1)
    (h : ∀ g cap w1, w1.ownsRow (C + 1) 61 1 (.slice (some ⟨g, 0, none⟩) (j + 1) cap) (j + 1) (ptrs pb j ++ [.pointer (some ⟨wr.heap.size + 1, 0, none⟩)]) → W.grownBy w1 v.ownBlock → (v.ownBlock = some g ∨ g = wr.heap.size + 3) → g < w1.heap.size →
      w1.cell? ⟨C, 0, none⟩ = some v → w1.frozen? ⟨C, 0, none⟩ = false → K (a.put (some 39) (.slice (some ⟨g, 0, none⟩) (j + 1) cap)) w1) :
    if Region.wanted o (yielded ops a.tmps) = true then Oper.wp Try.prog o a W K Q else E := by
  obtain ⟨i0, hi0, hz0, hz1, hz2⟩ := info_parts info61
  have c2 := hna.c2
  have hb : Below wr.heap.size wr W := by
    subst hW
    exact ((((Below.refl _ _).drew).alloc (by simp) _).alloc (by simp) _).alloc (by simp; omega) _
  have hsz : W.heap.size = wr.heap.size + 3 := by subst hW; simp
  refine step_append_lies (P := Try.prog) W hgd (.tmp 33) (.tmp 38) 58 ho (C + 1) 61 i0 (.pointer none) 1 8 Try.underlying58 hi0 hz0 hz1 hz2 rfl (by decide) v j (ptrs pb j) hs (own_later hna.own hb)
    ⟨wr.heap.size + 1 + 1, 0, none⟩ 1 1 [.pointer (some ⟨wr.heap.size + 1, 0, none⟩)] hx rfl ?_ ?_ (by omega) (by unfold maxLen; omega) (by omega) (by omega) (wr.heap.size + 3) hsz ?_
  · intro i u hu
    match i, hu with
    | 0, hu =>
      simp at hu
      subst hu
      subst hW
      show World.cell? _ (Addr.add ⟨wr.heap.size + 1 + 1, 0, none⟩ 0) = _
      rw [show Addr.add ⟨wr.heap.size + 1 + 1, 0, none⟩ 0 = ⟨wr.heap.size + 1 + 1, 0, none⟩ from rfl, World.cell?_alloc_at _ _ _ _ (by simp)]
      rfl
  · intro u hu; simp at hu; subst hu; rfl
  · intro g cap w1 h1 h2 h3 h4
    rw [hdst]
    refine h g cap w1 h1 h2 h3 h4 ?_ ?_
    · exact (cell_grown h2 (p := ⟨C, 0, none⟩) (by simp only; omega) hna.own_ne).trans ((hb.cell (p := ⟨C, 0, none⟩) c2).trans hna.c0)
    · exact (frozen_grown h2 (p := ⟨C, 0, none⟩) (by simp only; omega) hna.own_ne).trans ((hb.frozen (p := ⟨C, 0, none⟩) c2).trans hna.z0)

theorem own_lt {w : World} {base : Nat} {e : TypeId} {size n : Nat} {v : Value} {xs : List Value} (h : w.ownsRow base e size v n xs) (k : Nat) (hk : v.ownBlock = some k) : base ≤ k ∧ k < w.heap.size := by
  rcases h.2 with ⟨rfl, _⟩ | ⟨g, cap, cur, rfl, hb, hh, _⟩
  · simp [Value.ownBlock] at hk
  · have : g = k := by simpa [Value.ownBlock] using hk
    subst this
    exact ⟨hb, (Array.getElem?_eq_some_iff.1 hh).1⟩
theorem ptrs_congr (pb pb' : Nat → Nat) (j : Nat) (h : ∀ t, t < j → pb t = pb' t) : ptrs pb j = ptrs pb' j := by
  unfold ptrs
  refine List.map_congr_left fun t ht => ?_
  rw [h t (by simpa using ht)]
theorem ptrs_succ (pb : Nat → Nat) (j : Nat) : ptrs pb (j + 1) = ptrs pb j ++ [.pointer (some ⟨pb j, 0, none⟩)] := by
  simp [ptrs, List.range_succ]
theorem newPt_at {W : World} {F P q : Nat} (h1 : 1 ≤ q) (h64 : q ≤ 64) (hne : P ≠ F) (hF : W.heap[F]? = some (.cells (newCells q) 69 (0, 0)))
    (hP : W.heap[P]? = some (.cells #[.slice (some ⟨F, 0, none⟩) q q, .int .i64 0, .int .i64 0, .int .i64 0, .int .i64 0, .int .i64 0] 64 (0, 0))) : PtAt W P F (newPt q) := by
  have lP := (Array.getElem?_eq_some_iff.1 hP).1
  have lF := (Array.getElem?_eq_some_iff.1 hF).1
  refine ⟨by simp [World.cell?, hP, newPt], by simp [World.cell?, hP, newPt], by simp [World.cell?, hP, newPt], by simp [World.cell?, hP, newPt], by simp [World.cell?, hP], by simp [World.cell?, hP], ?_, fun o => by simp [World.frozen?, hP], fun o => by simp [World.frozen?, hF], lP, lF, hne, by simpa [newPt] using h1, by simpa [newPt] using h64, by simp [newPt]; omega⟩
  intro i hi j hj
  have hi' : i < q := by simpa [newPt] using hi
  simp only [World.cell?, hF]
  have := newCells_at q i j hi' hj
  simpa [newPt] using this

theorem NewAt.step {w wr W w1 : World} {C j : Nat} {qs : List Int} {pb fb : Nat → Nat} {v : Value} (hna : NewAt w wr C j qs pb fb v) (q : Nat) (hq : qs.getD j 0 = q) (h1 : 1 ≤ q) (h64 : q ≤ 64)
    (hb : Below wr.heap.size wr W) (hs : W.heap.size = wr.heap.size + 3) (hF : W.heap[wr.heap.size]? = some (.cells (newCells q) 69 (0, 0)))
    (hP : W.heap[wr.heap.size + 1]? = some (.cells #[.slice (some ⟨wr.heap.size, 0, none⟩) q q, .int .i64 0, .int .i64 0, .int .i64 0, .int .i64 0, .int .i64 0] 64 (0, 0)))
    {g cap : Nat} (ho : w1.ownsRow (C + 1) 61 1 (.slice (some ⟨g, 0, none⟩) (j + 1) cap) (j + 1) (ptrs pb j ++ [.pointer (some ⟨wr.heap.size + 1, 0, none⟩)])) (hg : W.grownBy w1 v.ownBlock) (hat : v.ownBlock = some g ∨ g = wr.heap.size + 3)
    (d1 : w1.cell? ⟨C, 0, none⟩ = some v) (d2 : w1.frozen? ⟨C, 0, none⟩ = false) :
    NewAt w (w1.setCell ⟨C, 0, none⟩ (.slice (some ⟨g, 0, none⟩) (j + 1) cap)) C (j + 1) qs (fun t => if t = j then wr.heap.size + 1 else pb t) (fun t => if t = j then wr.heap.size else fb t) (.slice (some ⟨g, 0, none⟩) (j + 1) cap) := by
  have hc1 := hna.c1
  have hc2 := hna.c2
  have hob : ∀ k, v.ownBlock = some k → C + 1 ≤ k ∧ k < wr.heap.size := fun k hk => own_lt hna.own k hk
  have hw1 : ∀ k, k < W.heap.size → v.ownBlock ≠ some k → w1.heap[k]? = W.heap[k]? := fun k hk hne => hg.block k hk (fun e => hne e.symm)
  have hsz := hg.size
  have hset : ∀ k, k ≠ C → (w1.setCell ⟨C, 0, none⟩ (.slice (some ⟨g, 0, none⟩) (j + 1) cap)).heap[k]? = w1.heap[k]? := fun k hk => Below.heap_setCell _ _ _ _ hk
  have hssz : (w1.setCell ⟨C, 0, none⟩ (.slice (some ⟨g, 0, none⟩) (j + 1) cap)).heap.size = w1.heap.size := by simp [World.setCell]
  have hold : ∀ k, k < wr.heap.size → k ≠ C → v.ownBlock ≠ some k → (w1.setCell ⟨C, 0, none⟩ (.slice (some ⟨g, 0, none⟩) (j + 1) cap)).heap[k]? = wr.heap[k]? := fun k hk hne ho => by
    rw [hset k hne, hw1 k (by omega) ho]; exact hb.block k hk
  have hgb : ∀ k, (Value.slice (some ⟨g, 0, none⟩) (j + 1) cap).ownBlock = some k → k = g := fun k hk => by simp [Value.ownBlock] at hk; omega
  have hgC : C + 1 ≤ g := by
    rcases hat with e | e
    · exact (hob g e).1
    · omega
  refine ⟨?_, hc1, by rw [hssz]; omega, World.cell?_setCell_same _ _ _ d1, by rw [World.frozen?_setCell]; exact d2, ?_, ?_, ?_, ?_⟩
  · exact ((hna.below.trans (hb.mono hna.below.size)).trans ⟨hg.os, hg.tape, hg.output, hg.size, fun k hk => hw1 k (by omega) (fun e => by have := hob k e; omega)⟩).setCell hc1 _
  · rw [ptrs_succ, ptrs_congr _ pb j (fun t ht => by simp; omega)]
    simp only [if_true]
    refine ho.kept (row := some C) ?_ ?_
    · exact ⟨rfl, rfl, rfl, by rw [hssz]; omega, fun k hk hne => hset k (fun e => hne (by rw [e]))⟩
    · right; simp [Value.ownBlock]; omega
  · intro t ht
    by_cases e : t = j
    · subst e
      simp only [if_true]
      refine ⟨?_, by omega, by omega⟩
      rw [hq, Int.toNat_natCast]
      have nF : v.ownBlock ≠ some wr.heap.size := fun e => by have := hob _ e; omega
      have nP : v.ownBlock ≠ some (wr.heap.size + 1) := fun e => by have := hob _ e; omega
      exact newPt_at h1 h64 (by omega) (by rw [hset _ (by omega), hw1 _ (by omega) nF]; exact hF) (by rw [hset _ (by omega), hw1 _ (by omega) nP]; exact hP)
    · simp only [e, if_false]
      obtain ⟨h2, h3, h4⟩ := hna.pt t (by omega)
      refine ⟨?_, h3, h4⟩
      have o1 : v.ownBlock ≠ some (pb t) := fun e => (hna.ob _ e t (by omega)).1 rfl
      have o2 : v.ownBlock ≠ some (fb t) := fun e => (hna.ob _ e t (by omega)).2 rfl
      exact h2.kept (by rw [hssz]; omega) (hold _ h2.b1 (by omega) o1) (hold _ h2.b2 (by omega) o2)
  · intro t s ht hs
    by_cases et : t = j <;> by_cases es : s = j
    · subst et; subst es; simp
    · subst et
      have := hna.pt s (by omega)
      have b1 := this.1.b1; have b2 := this.1.b2
      simp [es]; omega
    · subst es
      have := hna.pt t (by omega)
      have b1 := this.1.b1; have b2 := this.1.b2
      simp [et]; omega
    · simp only [et, es, if_false]
      exact hna.dis t s (by omega) (by omega)
  · intro k hk t ht
    have := hgb k hk
    subst this
    by_cases et : t = j
    · subst et
      simp only [if_true]
      rcases hat with e | e
      · have := hob _ e; omega
      · omega
    · simp only [et, if_false]
      have hp := hna.pt t (by omega)
      have b1 := hp.1.b1; have b2 := hp.1.b2
      rcases hat with e | e
      · exact hna.ob _ e t (by omega)
      · omega

theorem three_allocs (wr : World) (o1 o2 o3 : Obj) : Below wr.heap.size wr (((wr.alloc o1).alloc o2).alloc o3).drew ∧ (((wr.alloc o1).alloc o2).alloc o3).drew.heap.size = wr.heap.size + 3 ∧
    (((wr.alloc o1).alloc o2).alloc o3).drew.heap[wr.heap.size]? = some o1 ∧ (((wr.alloc o1).alloc o2).alloc o3).drew.heap[wr.heap.size + 1]? = some o2 := by
  have e : (((wr.alloc o1).alloc o2).alloc o3).drew.heap = ((wr.heap.push o1).push o2).push o3 := rfl
  refine ⟨((((Below.refl _ _).alloc (Nat.le_refl _) _).alloc (by simp) _).alloc (by simp; omega) _).drew, by rw [e]; simp, ?_, ?_⟩
  · rw [e]; simp [Array.getElem?_push]; omega
  · rw [e, Array.getElem?_push, if_neg (by simp), Array.getElem?_push, if_pos (by simp)]

/-- how New ends: the first m quotas are right; all of them, or the next is wrong -/
def NewEnds (w w' : World) (e : Ending) (qs : List Int) (n m : Nat) : Prop :=
  (m = n ∧ ∃ C pb fb v, e = .returned (.tuple #[.pointer (some ⟨C, 0, none⟩), .int .i64 0]) ∧ NewAt w w' C n qs pb fb v) ∨ (m < n ∧ e = .returned (.tuple #[.pointer none, .int .i64 2]) ∧ Below w.heap.size w w')

theorem new_any (w : World) (b off c : Nat) (qs : List Int) (n : Nat) (hn : qs.length = n) (h1 : 1 ≤ n) (h8 : n ≤ 8) (hq : Nums w b off qs) (m : Nat) (hm : m ≤ n) (hr : ∀ i, ∀ h : i < qs.length, i < m → 1 ≤ qs[i] ∧ qs[i] ≤ 64) (hx : ∀ h : m < qs.length, qs[m] < 1 ∨ 64 < qs[m]) :
    Calls Try.prog 9 #[.slice (some ⟨b, off, none⟩) n c] w fun e w' => NewEnds w w' e qs n m := by
  have Hq := Lib.hid hq; clear hq
  have Hr := Lib.hid hr; clear hr
  have Hx := Lib.hid hx; clear hx
  have Hn := Lib.hid hn; clear hn
  have hlt := Hq.out.lt
  go_enter Try.func9, Try.ntmps9
  go_wp2_with fail
  go_loopg [6, 19] m (fun k _ i wr => ∃ (j : Nat) (pb fb : Nat → Nat) (v : Value), j ≤ m ∧ k = m - j ∧ i = .int .i64 j ∧ NewAt w wr w.heap.size j qs pb fb v)
  case atStart =>
    refine ⟨0, fun _ => 0, fun _ => 0, .slice none 0 0, by omega, by omega, rfl, ?_⟩
    exact ⟨(Below.refl _ _).alloc (Nat.le_refl _) _, Nat.le_refl _, by simp, by simp, by simp, ⟨by simp [ptrs], .inl ⟨rfl, rfl⟩⟩, fun t ht => by omega, fun t s ht => by omega, fun k hk => by simp [Value.ownBlock] at hk⟩
  case round =>
    obtain ⟨j, pb, fb, v, hj, hk, rfl, hna⟩ := hrel
    have Hk := Lib.hid hk; clear hk
    have c0 := hna.c0
    have c2 := hna.c2
    have z0 := hna.z0
    have hb := (hna.below.cell (p := ⟨b, off + j, none⟩) hlt)
    have Hna := Lib.hid hna; clear hna
    by_cases hjn : j < n
    · have hl : j < qs.length := by rw [Hn.out]; exact hjn
      have hcell := Hq.out.cell j hl
      rw [hcell] at hb
      clear hcell
      by_cases hjm : j < m
      · have hx := Hr.out j hl hjm
        obtain ⟨q, hq⟩ := Int.eq_ofNat_of_zero_le (show (0 : Int) ≤ qs[j] by omega)
        rw [hq] at hb hx
        have Hqq := Lib.hid hq; clear hq
        obtain ⟨x1, x2⟩ := hx
        have hmk := run_newFrames q (by omega)
        have hnl : ¬ (q : Int) < 1 := by omega
        have hng : ¬ 64 < (q : Int) := by omega
        have c1 : w.heap.size ≤ wr.heap.size := by omega
        have c3 : w.heap.size < wr.heap.size + 1 := by omega
        have c4 : w.heap.size ≤ wr.heap.size + 1 := by omega
        have c5 : w.heap.size < wr.heap.size + 1 + 1 := by omega
        go_wp2_with fail
        go_region_law (refine step_new rfl rfl rfl w wr w.heap.size j qs pb fb v Hna.out (by omega) _ _ rfl rfl rfl ?_; intro g cap w1 hown1 hgrow hat hlt1 d1 d2; have Hown1 := Lib.hid hown1; have Hgrow := Lib.hid hgrow; have Hat := Lib.hid hat; clear hown1 hgrow hat)
        all_goals
          go_wp2_with fail
          go_roundg (m - (j + 1))
          case measure => have := Hk.out; omega
          case rel =>
            obtain ⟨t1, t2, t3, t4⟩ := three_allocs wr (.cells (newCells q) 69) (.cells #[.slice (some ⟨wr.heap.size, 0, none⟩) q q, .int .i64 0, .int .i64 0, .int .i64 0, .int .i64 0, .int .i64 0] 64) (.cells #[.pointer (some ⟨wr.heap.size + 1, 0, none⟩)] 61)
            exact ⟨j + 1, _, _, _, by omega, rfl, by go_num, Hna.out.step q (by rw [← Hqq.out]; simp [List.getD_eq_getElem?_getD, hl]) (by omega) (by omega) t1 t2 t3 t4 Hown1.out Hgrow.out Hat.out d1 d2⟩
      · have hjm' : j = m := by omega
        subst hjm'
        have hx := Hx.out hl
        have hbel := Hna.out.below
        by_cases h1' : qs[j] < 1
        · have hd : decide (qs[j] < 1) = true := by simpa using h1'
          clear hx
          go_wp2_with fail
          go_ret2
          exact .inr ⟨hjn, rfl, hbel⟩
        · have hd : 64 < qs[j] := by omega
          clear hx
          go_wp2_with fail
          go_ret2
          exact .inr ⟨hjn, rfl, hbel⟩
    · have hjn' : j = n := by omega
      have hmn : m = n := by omega
      subst hjn'
      have Hmn := Lib.hid hmn; clear hmn
      go_wp2_with fail
      go_ret2
      exact .inl ⟨Hmn.out, w.heap.size, pb, fb, v, rfl, Hna.out⟩

/-- what New has made is a cache -/
theorem NewAt.cache {w w' : World} {C n : Nat} {qs : List Int} {pb fb : Nat → Nat} {v : Value} (h : NewAt w w' C n qs pb fb v) (h1 : 1 ≤ n) (h8 : n ≤ 8) (hn : qs.length = n) :
    ∃ a cap, CaAt w' C a cap pb fb (qs.map fun q => newPt q.toNat) ∧ w.heap.size ≤ C ∧ w.heap.size ≤ a ∧ (∀ t, t < n → w.heap.size ≤ pb t ∧ w.heap.size ≤ fb t) := by
  have ho := h.own
  have c1 := h.c1
  rcases ho.2 with ⟨hv, h0⟩ | ⟨g, cap, cur, hv, hb, hh, hcap, hm, hcs, htk⟩
  · omega
  · have hgl := (Array.getElem?_eq_some_iff.1 hh).1
    refine ⟨g, cap, ⟨?_, ?_, ?_, h.c2, hgl, ?_, ?_, by simpa [hn] using h8⟩, c1, by omega, fun t ht => by have := h.pt t ht; omega⟩
    · rw [h.c0, hv]; simp [hn]
    · intro t ht
      have ht' : t < n := by simpa [hn] using ht
      have := ho.cells (g := g) (by rw [hv]; rfl) t (.pointer (some ⟨pb t, 0, none⟩)) (by simp [ptrs, ht'])
      rwa [show (⟨g, 0, none⟩ : Addr).add t = ⟨g, t, none⟩ from by unfold Addr.add; split <;> simp_all] at this
    · intro t ht
      have ht' : t < n := by simpa [hn] using ht
      have := (h.pt t ht').1
      have hl : t < qs.length := by omega
      simpa [List.getD_eq_getElem?_getD, hl] using this
    · intro t s ht hs
      exact h.dis t s (by simpa [hn] using ht) (by simpa [hn] using hs)
    · intro t ht
      have ht' : t < n := by simpa [hn] using ht
      have h2 := h.pt t ht'
      have h3 := h.ob g (by rw [hv]; rfl) t ht'
      exact ⟨by omega, by omega, h3.1, h3.2⟩
end Go.Proofs.Ytdblpcfkiiliiaa
