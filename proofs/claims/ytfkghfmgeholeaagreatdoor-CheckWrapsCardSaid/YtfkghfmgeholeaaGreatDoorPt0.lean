/- Tests among a law's arguments: opened. -/
import Derived.Test.YtfkghfmgeholeaaGreatDoorPb0
import Derived.Test.YtfkghfmgeholeaaGreatDoorGS
import Derived.Test.YtfkghfmgeholeaaGreatDoorVg0
import Derived.Deep.Slices
set_option linter.unusedVariables false
set_option linter.unusedSimpArgs false
namespace Go.Proofs.YtfkghfmgeholeaaGreatDoor
open Go.ChangeShapes Go.WideShapes Go.ChangeAt Go.RowKit Go.Joins

section
variable {H : Type} {enc : TypeId × Value → H} {w : World} {base : Nat} {spare : Nat → Bool} {held : Bool}
theorem addr_add (b o k : Nat) : (⟨b, o, none⟩ : Addr).add k = ⟨b, o + k, none⟩ := by
  unfold Addr.add
  by_cases h : k = 0
  · simp [h]
  · simp [h]
theorem cell_spot {a : Addr} {v : Value} (h : w.cell? a = some v) : a.spot = none := by
  unfold World.cell? at h
  split at h
  · split at h
    · cases h
    · rename_i hs
      cases hsp : a.spot with
      | none => rfl
      | some x => rw [hsp] at hs; exact absurd rfl hs
  · cases h
set_option maxRecDepth 100000 in
theorem trod_val {fuel : Nat} {cs : List Value} {x : DataW H × List MemPlace} (h : DataW.trod enc Tryz.prog w base spare held fuel 26 cs = some x) : ∃ v : Val, cs = [.int .i64 v.k, .int .i64 v.n, .string v.s, .int .u64 v.f] ∧ v.Ok := by
  obtain ⟨y0, y1, y2, y3, n, -, hl, h0, h1, h2, h3⟩ := trod_struct4 Tryz.underlying26 h
  rw [show Tryz.prog.cellsOf 26 = 4 by kernel_rfl] at hl
  match cs, hl with
  | [z0, z1, z2, z3], _ =>
    rw [show Tryz.prog.cellsOf 23 = 1 by kernel_rfl] at h0
    rw [show Tryz.prog.cellsOf 3 = 1 by kernel_rfl] at h1
    rw [show Tryz.prog.cellsOf 9 = 1 by kernel_rfl] at h2
    rw [show Tryz.prog.cellsOf 24 = 1 by kernel_rfl] at h3
    obtain ⟨k, hk, -, wk⟩ := DataW.trod_int Tryz.underlying23 h0
    obtain ⟨m, hm, -, wm⟩ := DataW.trod_int Tryz.underlying3 h1
    obtain ⟨s, hs, -, ws⟩ := DataW.trod_string Tryz.underlying9 h2
    obtain ⟨f, hf, -, wf⟩ := DataW.trod_int Tryz.underlying24 h3
    simp only [List.drop_zero, List.take_succ_cons, List.take_zero, List.drop_succ_cons, List.cons.injEq, and_true] at hk hm hs hf
    subst hk hm hs hf
    exact ⟨⟨k, m, s, f⟩, rfl, wk, wm, ws, wf⟩
theorem row_of {b : Nat} (len : Nat) : ∀ o : Nat, (∀ i, i < len → ∃ t a n c, KAt w b (o + i * 9) t a n c ∧ KSl w (fun _ => True) t.kids a n ∧ WfT t) → ∃ l, l.length = len ∧ KRow w (fun _ => True) l b o ∧ WfTs l := by
  induction len with
  | zero => intro o _; exact ⟨[], rfl, .nil _ _, by rw [WfTs]; trivial⟩
  | succ len ih =>
    intro o h
    obtain ⟨t, a, n, c, h1, h2, h3⟩ := h 0 (by omega)
    obtain ⟨l, h4, h5, h6⟩ := ih (o + 9) (fun i hi => by
      have := h (i + 1) (by omega)
      rwa [show o + (i + 1) * 9 = o + 9 + i * 9 from by omega] at this)
    rw [Nat.zero_mul, Nat.add_zero] at h1
    exact ⟨t :: l, by rw [List.length_cons, h4], .cons h1 h2 h5, by rw [WfTs]; exact ⟨h3, h6⟩⟩
set_option maxRecDepth 100000 in
theorem trod_test (fuel : Nat) : ∀ (cs : List Value) (x : DataW H × List MemPlace), DataW.trod enc Tryz.prog w base spare held fuel 30 cs = some x → ∃ (t : Tree) (a : Option Addr) (n c : Nat), cs = (t.cells a n c).toList ∧ KSl w (fun _ => True) t.kids a n ∧ WfT t := by
  induction fuel using Nat.strongRecOn with
  | _ fuel ih =>
    intro cs x h
    obtain ⟨xs, m, rfl, -, hl, hn, hi⟩ := DataW.trod_struct Tryz.underlying30 h
    rw [show Tryz.prog.cellsOf 30 = 9 by kernel_rfl] at hl
    have h0 : DataW.trod enc Tryz.prog w base spare held m 22 ((cs.drop 0).take (Tryz.prog.cellsOf 22)) = xs[0]? := hi 0 _ rfl
    have h1 : DataW.trod enc Tryz.prog w base spare held m 3 ((cs.drop 1).take (Tryz.prog.cellsOf 3)) = xs[1]? := hi 1 _ rfl
    have h2 : DataW.trod enc Tryz.prog w base spare held m 9 ((cs.drop 2).take (Tryz.prog.cellsOf 9)) = xs[2]? := hi 2 _ rfl
    have h3 : DataW.trod enc Tryz.prog w base spare held m 26 ((cs.drop 3).take (Tryz.prog.cellsOf 26)) = xs[3]? := hi 3 _ rfl
    have h4 : DataW.trod enc Tryz.prog w base spare held m 27 ((cs.drop 7).take (Tryz.prog.cellsOf 27)) = xs[4]? := hi 4 _ rfl
    have h5 : DataW.trod enc Tryz.prog w base spare held m 28 ((cs.drop 8).take (Tryz.prog.cellsOf 28)) = xs[5]? := hi 5 _ rfl
    match xs, hn with
    | [y0, y1, y2, y3, y4, y5], _ =>
    match cs, hl with
    | [z0, z1, z2, z3, z4, z5, z6, z7, z8], _ =>
      rw [show Tryz.prog.cellsOf 22 = 1 by kernel_rfl] at h0
      rw [show Tryz.prog.cellsOf 3 = 1 by kernel_rfl] at h1
      rw [show Tryz.prog.cellsOf 9 = 1 by kernel_rfl] at h2
      rw [show Tryz.prog.cellsOf 26 = 4 by kernel_rfl] at h3
      rw [show Tryz.prog.cellsOf 27 = 1 by kernel_rfl] at h4
      rw [show Tryz.prog.cellsOf 28 = 1 by kernel_rfl] at h5
      obtain ⟨k, hk, -, wk⟩ := DataW.trod_int Tryz.underlying22 h0
      obtain ⟨p, hp, -, wp⟩ := DataW.trod_int Tryz.underlying3 h1
      obtain ⟨s, hs, -, ws⟩ := DataW.trod_string Tryz.underlying9 h2
      obtain ⟨v, hv, wv⟩ := trod_val h3
      obtain ⟨q, hq, -, wq⟩ := DataW.trod_int Tryz.underlying27 h4
      have h6 := DataW.trod_slice Tryz.underlying28 h5
      simp only [List.drop_zero, List.take_succ_cons, List.take_zero, List.drop_succ_cons, List.cons.injEq, and_true] at hk hp hs hv hq h6
      obtain ⟨rfl, rfl, rfl, rfl⟩ := hv
      subst hk hp hs hq
      have hcol : s = ⟨s.data.toList.toArray⟩ := by simp
      rcases h6 with ⟨rfl, -⟩ | ⟨a, len, cap, elems, rest, n, hnm, rfl, -, -, -, -, hlen, hel, -⟩
      · exact ⟨.mk k p s.data.toList q v [], none, 0, 0, by simp [Tree.k, Tree.pos, Tree.col, Tree.v, Tree.op], .empty, by rw [WfT, WfTs]; exact ⟨wv.wf, trivial⟩⟩
      · rw [show Tryz.prog.cellsOf 30 = 9 by kernel_rfl] at hel
        obtain ⟨b, o, sp⟩ := a
        rcases Nat.eq_zero_or_pos len with rfl | hpos
        · exact ⟨.mk k p s.data.toList q v [], some ⟨b, o, sp⟩, 0, cap, by simp [Tree.k, Tree.pos, Tree.col, Tree.v, Tree.op], .empty, by rw [WfT, WfTs]; exact ⟨wv.wf, trivial⟩⟩
        · have hsome : ∀ i, i < len → ∃ ds, w.cells? base ((⟨b, o, sp⟩ : Addr).add (i * 9)) 9 = some ds ∧ ∃ y, DataW.trod enc Tryz.prog w base spare held n 30 ds = some y := fun i hi => by
            have := hel i hi
            rw [List.getElem?_eq_getElem (by omega)] at this
            obtain ⟨ds, e1, e2⟩ := Option.bind_eq_some_iff.1 this
            exact ⟨ds, e1, _, e2⟩
          have hsp : sp = none := by
            obtain ⟨ds, e1, -⟩ := hsome 0 hpos
            obtain ⟨-, l1, e2⟩ := World.cells?_some e1
            have e3 := e2 0 (by decide)
            rw [List.getElem?_eq_getElem (by omega)] at e3
            have := cell_spot e3
            simpa [Addr.add] using this
          subst hsp
          have hblk : b < w.heap.size := by
            obtain ⟨ds, e1, -⟩ := hsome 0 hpos
            obtain ⟨-, l1, e2⟩ := World.cells?_some e1
            have e3 := e2 0 (by decide)
            rw [List.getElem?_eq_getElem (by omega), addr_add, addr_add] at e3
            exact World.block_lt_of_cell? _ _ e3
          have hrows : ∀ i, i < len → ∃ t a n c, KAt w b (o + i * 9) t a n c ∧ KSl w (fun _ => True) t.kids a n ∧ WfT t := fun i hi => by
            obtain ⟨ds, e1, y, e2⟩ := hsome i hi
            obtain ⟨t, a, n', c, rfl, g1, g2⟩ := ih n (by omega) ds y e2
            obtain ⟨-, -, e3⟩ := World.cells?_some e1
            have f : ∀ j, j < 9 → w.cell? ⟨b, o + i * 9 + j, none⟩ = (t.cells a n' c).toList[j]? := fun j hj => by
              have := e3 j hj
              rwa [addr_add, addr_add] at this
            exact ⟨t, a, n', c, ⟨f 0 (by decide), f 1 (by decide), f 2 (by decide), f 3 (by decide), f 4 (by decide), f 5 (by decide), f 6 (by decide), f 7 (by decide), f 8 (by decide)⟩, g1, g2⟩
          obtain ⟨l, g1, g2, g3⟩ := row_of len o hrows
          exact ⟨.mk k p s.data.toList q v l, some ⟨b, o, none⟩, len, cap, by simp [Tree.k, Tree.pos, Tree.col, Tree.v, Tree.op], .on trivial hblk g1.symm g2, by rw [WfT]; exact ⟨wv.wf, g3⟩⟩
set_option maxRecDepth 100000 in
/-- a test that came in -/
theorem open_test {r : Reach} {b0 : Nat} {v : Value} {d : DataW H} {p : List MemPlace} (hv : Value.okWide Tryz.prog w r b0 30 v) (h : DataW.Trod enc Tryz.prog w base spare held 30 v d p) :
    ∃ (t : Tree) (a : Option Addr) (n c : Nat), v = t.val a n c ∧ KSl w (fun _ => True) t.kids a n ∧ WfT t := by
  have hv2 : ∃ cs, v = .agg cs := by
    simp only [Value.okWide, Tryz.underlying30] at hv
    obtain ⟨cs, h1, h2, _⟩ := hv
    exact ⟨cs, h1⟩
  obtain ⟨cs, rfl⟩ := hv2
  obtain ⟨fuel, hf⟩ := h
  obtain ⟨t, a, n, c, h1, h2, h3⟩ := trod_test fuel _ _ hf
  refine ⟨t, a, n, c, ?_, h2, h3⟩
  have : cs.toList = (t.cells a n c).toList := h1
  rw [Array.toList_inj.1 this]
end
end Go.Proofs.YtfkghfmgeholeaaGreatDoor
