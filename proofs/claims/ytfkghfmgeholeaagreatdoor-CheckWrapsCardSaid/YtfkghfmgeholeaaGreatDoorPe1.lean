/- The walk of parse.Parse. -/
import Derived.Test.YtfkghfmgeholeaaGreatDoorPe0
import Derived.Test.YtfkghfmgeholeaaGreatDoorGL
set_option linter.unusedVariables false
set_option linter.unusedSimpArgs false
namespace Go.Proofs.YtfkghfmgeholeaaGreatDoor
open Go.RowKit

def zeroT : Tree := .mk 0 0 [] 0 zeroVal []
/-- what parse.Parse answers: the test, the place, the error -/
def parseA (e : Nat) (r : Option (List Tk) × Nat) : Tree × Nat × Int := match r with
  | (none, p) => (zeroT, p, 160)
  | (some x, _) => match parseL e x with
    | .bad p => (zeroT, p, 160)
    | .ok t _ => (t, 0, 0)
def parseF (s : List UInt8) : Tree × Nat × Int := parseA s.length (lexL s)
def ParseAns (w w' : World) (r : Tree × Nat × Int) (en : Ending) : Prop := Below w.heap.size w w' ∧ ∃ a n c, en = .returned (.tuple #[r.1.val a n c, .int .i64 (r.2.1 : Int), .int .i64 r.2.2]) ∧ KSl w' w.heap.size r.1.kids a n
/-- the results' variables of Parse -/
structure Res3 (w X : World) (t : Tree) (a : Option Addr) (n c : Nat) (y z : Int) : Prop where
  a : KVar X w.heap.size t a n c
  b : X.cell? ⟨w.heap.size + 1, 0, none⟩ = some (.int .i64 y)
  c : X.cell? ⟨w.heap.size + 1 + 1, 0, none⟩ = some (.int .i64 z)
  zb : X.frozen? ⟨w.heap.size + 1, 0, none⟩ = false
  zc : X.frozen? ⟨w.heap.size + 1 + 1, 0, none⟩ = false
  bel : Below w.heap.size w X
  sz : w.heap.size + 3 ≤ X.heap.size
  ty : ∃ cur, X.heap[w.heap.size]? = some (.cells cur 30 (0, 0))
theorem Res3.new (w : World) (t2 t3 : TypeId) : Res3 w (((w.alloc (.cells zcells 30)).alloc (.cells #[.int .i64 0] t2)).alloc (.cells #[.int .i64 0] t3)) zeroT none 0 0 0 0 := by
  have h0 := ZVar.new w 30
  have hb0 := Below.new w (.cells zcells 30)
  have hy0 : (w.alloc (.cells zcells 30)).heap[w.heap.size]? = some (.cells zcells 30 (0, 0)) := by
    show (w.heap.push _)[w.heap.size]? = _
    simp
  have hs0 : (w.alloc (.cells zcells 30)).heap.size = w.heap.size + 1 := by simp
  generalize (w.alloc (.cells zcells 30)) = W0 at *
  have hb1 := Below.new W0 (.cells #[.int .i64 0] t2)
  have h1 := h0.below hb1 h0.lt
  have hs1 : (W0.alloc (.cells #[.int .i64 0] t2)).heap.size = w.heap.size + 2 := by simp [hs0]
  have c1 : (W0.alloc (.cells #[.int .i64 0] t2)).cell? ⟨w.heap.size + 1, 0, none⟩ = some (.int .i64 0) := by simp [← hs0]
  have z1 : (W0.alloc (.cells #[.int .i64 0] t2)).frozen? ⟨w.heap.size + 1, 0, none⟩ = false := by simp [← hs0]
  generalize (W0.alloc (.cells #[.int .i64 0] t2)) = W1 at *
  have hb2 := Below.new W1 (.cells #[.int .i64 0] t3)
  have h2 := h1.below hb2 h1.lt
  have c2 : (W1.alloc (.cells #[.int .i64 0] t3)).cell? ⟨w.heap.size + 1 + 1, 0, none⟩ = some (.int .i64 0) := by simp [← hs1]
  have z2 : (W1.alloc (.cells #[.int .i64 0] t3)).frozen? ⟨w.heap.size + 1 + 1, 0, none⟩ = false := by simp [← hs1]
  have hl : w.heap.size + 1 < W1.heap.size := by omega
  exact ⟨h2.k, (hb2.cell (p := ⟨_, 0, none⟩) hl).trans c1, c2, (hb2.frozen (p := ⟨_, 0, none⟩) hl).trans z1, z2, hb0.trans ((hb1.mono hb0.size).trans (hb2.mono (by omega))), by simp; omega, _, (hb2.block _ (by omega)).trans ((hb1.block _ (by omega)).trans hy0)⟩
theorem Res3.of {w X X' : World} {t : Tree} {a : Option Addr} {n c : Nat} {y z : Int} (h : Res3 w X t a n c y z) (hb : Below (w.heap.size + 3) X X') : Res3 w X' t a n c y z := by
  have := h.sz
  exact ⟨h.a.below hb (by omega), (hb.cell (p := ⟨_, 0, none⟩) (by show _ + 1 < _; omega)).trans h.b, (hb.cell (p := ⟨_, 0, none⟩) (by show _ + 1 + 1 < _; omega)).trans h.c, (hb.frozen (p := ⟨_, 0, none⟩) (by show _ + 1 < _; omega)).trans h.zb, (hb.frozen (p := ⟨_, 0, none⟩) (by show _ + 1 + 1 < _; omega)).trans h.zc, h.bel.trans (hb.mono (by omega)), Nat.le_trans h.sz hb.size, by obtain ⟨cur, h1⟩ := h.ty; exact ⟨cur, (hb.block _ (by omega)).trans h1⟩⟩
theorem Res3.later {w X X' : World} {t : Tree} {a : Option Addr} {n c : Nat} {y z : Int} (h : Res3 w X t a n c y z) (hb : Below X.heap.size X X') : Res3 w X' t a n c y z := h.of (hb.mono h.sz)
theorem Res3.but {w X X' : World} {P : Nat} {t : Tree} {a : Option Addr} {n c : Nat} {y z : Int} (h : Res3 w X t a n c y z) (hb : But P X X') (hP : w.heap.size + 3 ≤ P) : Res3 w X' t a n c y z := h.of (hb.below hP h.sz)
theorem Res3.setB {w X : World} {t : Tree} {a : Option Addr} {n c : Nat} {y z : Int} (h : Res3 w X t a n c y z) (u : Int) : Res3 w (X.setCell ⟨w.heap.size + 1, 0, none⟩ (.int .i64 u)) t a n c u z :=
  ⟨h.a.off (by omega) _ _, World.cell?_setCell_same _ _ _ h.b, cell_off h.c (addr_block_ne (by omega) _ _), (World.frozen?_setCell _ _ _ _).trans h.zb, (World.frozen?_setCell _ _ _ _).trans h.zc, h.bel.setCell (p := ⟨w.heap.size + 1, 0, none⟩) (Nat.le_succ _) _, by simpa [World.setCell] using h.sz, by obtain ⟨cur, h1⟩ := h.ty; exact ⟨cur, (Below.heap_setCell X ⟨w.heap.size + 1, 0, none⟩ _ _ (by show _ ≠ _ + 1; omega)).trans h1⟩⟩
theorem Res3.setC {w X : World} {t : Tree} {a : Option Addr} {n c : Nat} {y z : Int} (h : Res3 w X t a n c y z) (u : Int) : Res3 w (X.setCell ⟨w.heap.size + 1 + 1, 0, none⟩ (.int .i64 u)) t a n c y u :=
  ⟨h.a.off (by omega) _ _, cell_off h.b (addr_block_ne (by omega) _ _), World.cell?_setCell_same _ _ _ h.c, (World.frozen?_setCell _ _ _ _).trans h.zb, (World.frozen?_setCell _ _ _ _).trans h.zc, h.bel.setCell (p := ⟨w.heap.size + 1 + 1, 0, none⟩) (by show _ ≤ _ + 1 + 1; omega) _, by simpa [World.setCell] using h.sz, by obtain ⟨cur, h1⟩ := h.ty; exact ⟨cur, (Below.heap_setCell X ⟨w.heap.size + 1 + 1, 0, none⟩ _ _ (by show _ ≠ _ + 1 + 1; omega)).trans h1⟩⟩
theorem cell_off9 {X : World} {b d : Nat} {x : Value} (hd : b ≠ d) (hx : X.cell? ⟨d, 0, none⟩ = some x) (v0 v1 v2 v3 v4 v5 v6 v7 v8 : Value) : (st9 X b v0 v1 v2 v3 v4 v5 v6 v7 v8).cell? ⟨d, 0, none⟩ = some x :=
  cell_off (cell_off (cell_off (cell_off (cell_off (cell_off (cell_off (cell_off (cell_off hx (addr_block_ne hd _ _)) (addr_block_ne hd _ _)) (addr_block_ne hd _ _)) (addr_block_ne hd _ _)) (addr_block_ne hd _ _)) (addr_block_ne hd _ _)) (addr_block_ne hd _ _)) (addr_block_ne hd _ _)) (addr_block_ne hd _ _)
theorem frozen_off9 {X : World} {b : Nat} {p : Addr} (hx : X.frozen? p = false) (v0 v1 v2 v3 v4 v5 v6 v7 v8 : Value) : (st9 X b v0 v1 v2 v3 v4 v5 v6 v7 v8).frozen? p = false := by
  simp only [st9, World.frozen?_setCell]; exact hx
theorem hty1 {X : World} {b : Nat} {ty : TypeId} (h : ∃ cur, X.heap[b]? = some (.cells cur ty (0, 0))) (o : Nat) (v : Value) : ∃ cur, (X.setCell ⟨b, o, none⟩ v).heap[b]? = some (.cells cur ty (0, 0)) := by
  obtain ⟨cur, h⟩ := h
  exact ⟨_, heap_setCell_same X b o cur ty v h⟩
theorem hty9 {X : World} {b : Nat} {ty : TypeId} (h : ∃ cur, X.heap[b]? = some (.cells cur ty (0, 0))) (v0 v1 v2 v3 v4 v5 v6 v7 v8 : Value) : ∃ cur, (st9 X b v0 v1 v2 v3 v4 v5 v6 v7 v8).heap[b]? = some (.cells cur ty (0, 0)) :=
  hty1 (hty1 (hty1 (hty1 (hty1 (hty1 (hty1 (hty1 (hty1 h _ _) _ _) _ _) _ _) _ _) _ _) _ _) _ _) _ _
theorem PAt.offA {w : World} {P b : Nat} {l : List Tk} {e d : Nat} (h : PAt w P l e d) (hb : b ≠ P) (hy : ∃ cur, w.heap[b]? = some (.cells cur 30 (0, 0))) (o : Nat) (v : Value) : PAt (w.setCell ⟨b, o, none⟩ v) P l e d := by
  obtain ⟨⟨u, h1, h2⟩, c1, c2, z, lt⟩ := h
  refine ⟨⟨u, cell_off h1 (addr_block_ne hb _ _), ?_⟩, cell_off c1 (addr_block_ne hb _ _), cell_off c2 (addr_block_ne hb _ _), fun i => (World.frozen?_setCell _ _ _ _).trans (z i), by simpa [World.setCell] using lt⟩
  rcases h2 with h | ⟨g, off, c, e1, e2, ⟨e3, cur, e5⟩, e4⟩
  · exact .inl h
  · have hg : b ≠ g := by
      rintro rfl
      obtain ⟨cur2, hy⟩ := hy
      rw [hy] at e5
      cases e5
    exact .inr ⟨g, off, c, e1, e2, ⟨e3, cur, (Below.heap_setCell w ⟨b, o, none⟩ v g (Ne.symm hg)).trans e5⟩, fun j u hj => cell_off (e4 j u hj) (addr_block_ne hg _ _)⟩
theorem PAt.putA {w : World} {P b : Nat} {l : List Tk} {e d : Nat} (h : PAt w P l e d) (hb : b ≠ P) (hy : ∃ cur, w.heap[b]? = some (.cells cur 30 (0, 0))) (v0 v1 v2 v3 v4 v5 v6 v7 v8 : Value) : PAt (st9 w b v0 v1 v2 v3 v4 v5 v6 v7 v8) P l e d :=
  (((((((((h.offA hb hy _ _).offA hb (hty1 hy _ _) _ _).offA hb (hty1 (hty1 hy _ _) _ _) _ _).offA hb (hty1 (hty1 (hty1 hy _ _) _ _) _ _) _ _).offA hb (hty1 (hty1 (hty1 (hty1 hy _ _) _ _) _ _) _ _) _ _).offA hb (hty1 (hty1 (hty1 (hty1 (hty1 hy _ _) _ _) _ _) _ _) _ _) _ _).offA hb (hty1 (hty1 (hty1 (hty1 (hty1 (hty1 hy _ _) _ _) _ _) _ _) _ _) _ _) _ _).offA hb (hty1 (hty1 (hty1 (hty1 (hty1 (hty1 (hty1 hy _ _) _ _) _ _) _ _) _ _) _ _) _ _) _ _).offA hb (hty1 (hty1 (hty1 (hty1 (hty1 (hty1 (hty1 (hty1 hy _ _) _ _) _ _) _ _) _ _) _ _) _ _) _ _) _ _)
theorem Res3.putA {w X : World} {t : Tree} {a : Option Addr} {n c : Nat} {y z : Int} (h : Res3 w X t a n c y z) (u : Tree) (a' : Option Addr) (n' c' : Nat) : Res3 w (st9 X w.heap.size (.int .i64 u.k) (.int .i64 u.pos) (.string ⟨u.col.toArray⟩) (.int .i64 u.v.k) (.int .i64 u.v.n) (.string u.v.s) (.int .u64 u.v.f) (.int .i64 u.op) (.slice a' n' c')) u a' n' c' y z :=
  ⟨h.a.put u a' n' c', cell_off9 (by omega) h.b _ _ _ _ _ _ _ _ _, cell_off9 (by omega) h.c _ _ _ _ _ _ _ _ _, frozen_off9 h.zb _ _ _ _ _ _ _ _ _, frozen_off9 h.zc _ _ _ _ _ _ _ _ _, below_put9 h.bel (Nat.le_refl _) _ _ _ _ _ _ _ _ _, by rw [st9_size]; exact h.sz, hty9 h.ty _ _ _ _ _ _ _ _ _⟩
theorem TBuf.slb {w W X : World} {v : Value} {l : List Tk} {R : Nat} (h : TBuf w W v l) (hX : ∀ b i u, w.heap.size ≤ b → W.cell? ⟨b, i, none⟩ = some u → X.cell? ⟨b, i, none⟩ = some u) (hH : ∀ b, w.heap.size ≤ b → X.heap[b]? = W.heap[b]?) (hR : W.heap.size ≤ R) : TSlB X R v l := by
  rcases h.own.2 with h0 | ⟨g, cap, cur, hv, hwg, hg, hcap, _⟩
  · exact .inl ⟨h0.1, List.eq_nil_of_length_eq_zero h0.2⟩
  · have hlt : g < W.heap.size := by
      rcases Nat.lt_or_ge g W.heap.size with h1 | h1
      · exact h1
      · rw [Array.getElem?_eq_none h1] at hg; cases hg
    rcases h.row with h0 | ⟨b, c, e, hc, hcell⟩
    · exact .inl h0
    · rw [e] at hv
      cases hv
      exact .inr ⟨_, 0, _, e, hc, ⟨Nat.lt_of_lt_of_le hlt hR, cur, (hH _ hwg).trans hg⟩, fun j u hj => by rw [Nat.zero_add]; exact hX _ _ _ hwg (hcell j u hj)⟩
theorem PAt.new {W : World} {v : Value} {l : List Tk} {e P : Nat} (hP : W.heap.size = P) (h : TSlB W P v l) (ty : TypeId) : PAt (W.alloc (.cells #[v, .int .i64 (e : Int), .int .i64 0] ty)) P l e 0 := by
  subst hP
  exact ⟨⟨v, by simp, h.but (But.of (Below.new _ _))⟩, by simp, by simp, fun o => by simp, by simp⟩
set_option maxHeartbeats 4000000 in
theorem res3_out {w F : World} {t : Tree} {a : Option Addr} {n c : Nat} {y z : Int} {Rp : Ending → World → Prop} (h : Res3 w F t a n c y z) (tmps : Array Value) (hp : Rp (.returned (.tuple #[t.val a n c, .int .i64 y, .int .i64 z])) F) (h2 : tmps[2]?.getD undef = .pointer (some ⟨w.heap.size, 0, none⟩)) (h3 : tmps[3]?.getD undef = .pointer (some ⟨w.heap.size + 1, 0, none⟩)) (h4 : tmps[4]?.getD undef = .pointer (some ⟨w.heap.size + 1 + 1, 0, none⟩)) : bodyPostD Tryz.prog Tryz.f15 Rp Exit.ret { tmps := tmps, defers := [] } F := by
  obtain ⟨⟨k0, k1, k2, k3, k4, k5, k6, k7, k8, -, -⟩, cb, cc, -, -, -, -⟩ := h
  simp [bodyPostD, Leaves, settle, results, Tryz.results15, go_sem, h2, h3, h4, k0, k1, k2, k3, k4, k5, k6, k7, k8, cb, cc]
  exact hp
theorem parse_door {w w2 : World} {t : Tree} {a : Option Addr} {n c : Nat} {y z : Int} {Rp : Ending → World → Prop} (h : Res3 w w2 t a n c y z) (p : Nat) (hp : ∀ w5, Below w.heap.size w w5 → Rp (.returned (.tuple #[zeroT.val none 0 0, .int .i64 (p : Int), .int .i64 160])) w5) (tmps : Array Value) (h2 : tmps[2]?.getD undef = .pointer (some ⟨w.heap.size, 0, none⟩)) (h3 : tmps[3]?.getD undef = .pointer (some ⟨w.heap.size + 1, 0, none⟩)) (h4 : tmps[4]?.getD undef = .pointer (some ⟨w.heap.size + 1 + 1, 0, none⟩)) : bodyPostD Tryz.prog Tryz.f15 Rp (Exit.panic [{ v := faultV p, recovered := false }]) { tmps := tmps, defers := [{ target := Target.fn (Fn.func 37) #[.pointer (some ⟨w.heap.size, 0, none⟩), .pointer (some ⟨w.heap.size + 1, 0, none⟩), .pointer (some ⟨w.heap.size + 1 + 1, 0, none⟩)], args := #[] }] } w2 := by
  refine leaves_cons (f := 37) (args := #[.pointer (some ⟨w.heap.size, 0, none⟩), .pointer (some ⟨w.heap.size + 1, 0, none⟩), .pointer (some ⟨w.heap.size + 1 + 1, 0, none⟩)]) (by simp) (by simp [go_sem]) ?_
  refine (catch_fault w.heap.size w.heap.size (w.heap.size + 1) (w.heap.size + 1 + 1) p [] w2 t a n c y z h.a h.b h.c h.zb h.zc (by omega) (by omega) (by omega) (Nat.le_refl _) (by omega) (by omega)).mono ?_
  rintro e u' w5 ⟨rfl, rfl, hC⟩
  have hB := h.bel.trans hC.bel
  have hp5 := hp w5 hB
  clear hp
  obtain ⟨⟨k0, k1, k2, k3, k4, k5, k6, k7, k8, -, -⟩, cb, cc, -⟩ := hC
  simp only [Tree.k, Tree.pos, Tree.col, Tree.v, Tree.op, zeroVal] at k0 k1 k2 k3 k4 k5 k6 k7
  simp [Leaves, settle, results, Tryz.results15, go_sem, h2, h3, h4, k0, k1, k2, k3, k4, k5, k6, k7, k8, cb, cc]
  exact hp5
theorem parse_door_ok {w F : World} {t : Tree} {a : Option Addr} {n c : Nat} {y z : Int} {Rp : Ending → World → Prop} (h : Res3 w F t a n c y z) (tmps : Array Value) (hp : Rp (.returned (.tuple #[t.val a n c, .int .i64 y, .int .i64 z])) F) (h2 : tmps[2]?.getD undef = .pointer (some ⟨w.heap.size, 0, none⟩)) (h3 : tmps[3]?.getD undef = .pointer (some ⟨w.heap.size + 1, 0, none⟩)) (h4 : tmps[4]?.getD undef = .pointer (some ⟨w.heap.size + 1 + 1, 0, none⟩)) : bodyPostD Tryz.prog Tryz.f15 Rp Exit.ret { tmps := tmps, defers := [{ target := Target.fn (Fn.func 37) #[.pointer (some ⟨w.heap.size, 0, none⟩), .pointer (some ⟨w.heap.size + 1, 0, none⟩), .pointer (some ⟨w.heap.size + 1 + 1, 0, none⟩)], args := #[] }] } F := by
  refine leaves_cons (f := 37) (args := #[.pointer (some ⟨w.heap.size, 0, none⟩), .pointer (some ⟨w.heap.size + 1, 0, none⟩), .pointer (some ⟨w.heap.size + 1 + 1, 0, none⟩)]) (by simp) (by simp [go_sem]) ?_
  refine (catch_idle w.heap.size (w.heap.size + 1) (w.heap.size + 1 + 1) F).mono ?_
  rintro e u' w5 ⟨rfl, rfl, rfl⟩
  obtain ⟨⟨k0, k1, k2, k3, k4, k5, k6, k7, k8, -, -⟩, cb, cc, -⟩ := h
  simp [Leaves, settle, results, Tryz.results15, go_sem, h2, h3, h4, k0, k1, k2, k3, k4, k5, k6, k7, k8, cb, cc]
  exact hp
set_option maxHeartbeats 16000000 in
set_option maxRecDepth 100000 in
theorem pparse_any (w : World) (hl : Laid w) (hs : Spc w) (s : ByteArray) :
    Calls Tryz.prog 15 #[.string s] w fun en w' => ParseAns w w' (parseF s.data.toList) en := by
  have Hl := Lib.hid hl; have Hs := Lib.hid hs
  have hlen : s.data.toList.length = s.size := (Lib.size_eq s).symm
  unfold parseF
  rw [hlen]
  generalize hL : lexL s.data.toList = L
  have HL := Lib.hid hL
  have Hx : Hid (∀ W, Laid W → Spc W → Calls Tryz.prog 36 #[.string s] W fun e w' => LexAns W w' L e) := Lib.hid fun W h1 h2 => hL ▸ lex_all W h1 h2 s
  have Hsz : Hid (∀ x q, L = (some x, q) → x.length ≤ 2000) := Lib.hid fun x q h => by
    have := lexL_length (hL.trans h); omega
  clear hl hs hlen hL
  generalize hA : parseA s.size L = A
  have HA := Lib.hid hA
  clear hA
  have hmf : ∀ (fn : Fn) (first cap : Array Value) (w : World), (Instr.makeFunc fn first cap).run Tryz.prog w = .ok (.func fn first cap) w := fun _ _ _ _ => rfl
  go_enter_defers Tryz.func15, Tryz.ntmps15
  go_upto_region 1 with fail
  have hR := Res3.new w 3 35
  generalize (((w.alloc _).alloc _).alloc _) = W at hR ⊢
  have HR := Lib.hid hR
  have Hx1 := Lib.hid (Hx.out W (Hl.out.below hR.bel) (Hs.out.below hR.bel))
  clear hR
  go_wp2_with fail
  refine Hx1.out.mono ?_
  rintro e w1 ⟨v, rfl, hT⟩
  have hR1 := HR.out.later hT.below
  have HT := Lib.hid hT
  have HR1 := Lib.hid hR1
  have b1 := hR1.b; have c1 := hR1.c; have zb1 := hR1.zb; have zc1 := hR1.zc
  clear hT hR1 Hx1
  obtain ⟨L1, q⟩ := L
  cases L1 with
  | none =>
    have Ha : Hid (A = (zeroT, q, 160)) := Lib.hid HA.out.symm
    have he : lexE ((none : Option (List Tk)), q) = 160 := rfl
    rw [he]
    clear he hmf
    go_upto_region 3 with fail
    have hR2 := (HR1.out.setB (q : Int)).setC 160
    clear b1 c1 zb1 zc1
    generalize (w1.setCell _ _).setCell _ _ = X at hR2 ⊢
    have HR2 := Lib.hid hR2
    have b1 := hR2.b; have c1 := hR2.c; have zb1 := hR2.zb; have zc1 := hR2.zc
    obtain ⟨k0, k1, k2, k3, k4, k5, k6, k7, k8, kz, -⟩ := hR2.a
    have hab : w.heap.size ≠ w.heap.size + 1 := by omega
    have hac : w.heap.size ≠ w.heap.size + 1 + 1 := by omega
    clear hR2
    go_region
    go_wp2_with fail
    have hF := (((HR2.out.putA zeroT none 0 0).setB (q : Int)).setC 160).later (Below.refl _ _).drew
    clear b1 c1 zb1 zc1 k0 k1 k2 k3 k4 k5 k6 k7 k8 kz
    change bodyPostD _ _ _ _ _ (World.drew (World.setCell (World.setCell (st9 X w.heap.size (.int .i64 zeroT.k) (.int .i64 zeroT.pos) (.string ⟨zeroT.col.toArray⟩) (.int .i64 zeroT.v.k) (.int .i64 zeroT.v.n) (.string zeroT.v.s) (.int .u64 zeroT.v.f) (.int .i64 zeroT.op) (.slice none 0 0)) _ _) _ _))
    generalize (World.drew _) = F at hF ⊢
    refine res3_out (Rp := fun en w' => ParseAns w w' A en) hF _ ?_ rfl rfl rfl
    show ParseAns w F A _
    rw [Ha.out]
    exact ⟨hF.bel, none, 0, 0, rfl, .empty⟩
  | some x =>
    obtain rfl : q = 0 := (lexL_length HL.out).2.2
    have hT1 : TBuf W w1 v x := HT.out
    have he : lexE (some x, 0) = 0 := rfl
    obtain ⟨va, vc, hv⟩ := hT1.row.form
    subst hv
    have hs1 := hT1.slb (X := (w1.setCell ⟨w.heap.size + 1, 0, none⟩ (.int .i64 0)).setCell ⟨w.heap.size + 1 + 1, 0, none⟩ (.int .i64 0)) (fun b i u hb hu => cell_off (cell_off hu (addr_block_ne (by have := HR.out.sz; omega) _ _)) (addr_block_ne (by have := HR.out.sz; omega) _ _)) (fun b hb => (Below.heap_setCell _ ⟨w.heap.size + 1 + 1, 0, none⟩ _ b (by show b ≠ _ + 1 + 1; have := HR.out.sz; omega)).trans (Below.heap_setCell _ ⟨w.heap.size + 1, 0, none⟩ _ b (by show b ≠ _ + 1; have := HR.out.sz; omega))) (Nat.le_refl _)
    have hR2 := (HR1.out.setB 0).setC 0
    have hsz : ((w1.setCell ⟨w.heap.size + 1, 0, none⟩ (.int .i64 0)).setCell ⟨w.heap.size + 1 + 1, 0, none⟩ (.int .i64 0)).heap.size = w1.heap.size := by simp [World.setCell]
    have HT1 := Lib.hid hT1
    have Hs1 := Lib.hid hs1; have HR2 := Lib.hid hR2; have Hsz1 := Lib.hid hsz
    have HP : Hid (w.heap.size + 3 ≤ w1.heap.size) := Lib.hid HR1.out.sz
    rw [he]
    clear he hs1 hR2 hsz hT1 HT
    go_upto_region 6 with fail
    clear b1 c1 zb1 zc1
    generalize (w1.setCell _ _).setCell _ _ = X at Hs1 HR2 Hsz1 ⊢
    have Hp := Lib.hid (PAt.new (e := s.size) Hsz1.out Hs1.out 80)
    have hbn := Below.new X (.cells #[.slice va x.length vc, .int .i64 (s.size : Int), .int .i64 0] 80)
    have HR3 := Lib.hid (HR2.out.later hbn)
    clear Hs1 HR2 hbn HT1
    generalize (X.alloc _) = Y at Hp HR3 ⊢
    generalize w1.heap.size = P at Hp HP Hsz1 ⊢
    have Ht := Lib.hid (ptestP_any s.size P (x.length + 1) 0 Y x Hp.out (Nat.lt_succ_self _))
    go_wp2_with fail
    refine Ht.out.mono ?_
    clear Ht
    rintro en w2 ⟨hb2, h2⟩
    have HR4 := Lib.hid (HR3.out.but hb2 HP.out)
    cases hq : pTest s.size (x.length + 1) 0 x with
    | bad p =>
      rw [hq] at h2
      have h3 : en = .panicked [{ v := faultV p, recovered := false }] := h2
      have Ha : Hid (A = (zeroT, p, 160)) := Lib.hid (by rw [← HA.out]; simp only [parseA, parseL, hq])
      clear h2 hb2 hq
      subst h3
      go_wp2_with fail
      refine parse_door (Rp := fun en w' => ParseAns w w' A en) HR4.out p ?_ _ rfl rfl rfl
      intro w5 hb
      show ParseAns w w5 A _
      rw [Ha.out]
      exact ⟨hb, none, 0, 0, rfl, .empty⟩
    | ok t r =>
      rw [hq] at h2
      obtain ⟨aa, an, ac, rfl, hk, hp⟩ := h2
      have hnod : t.nodes ≤ 1000000 := by
        have h1 := row_good (e := s.size) (.inr rfl) (fun l t r hl h => row_good (.inl rfl) (pPiece_good s.data.toList.length s.size (x.length + 1) 0) l t r hl h) x t r (lexL_ok HL.out) hq
        have h3 := h1.2.1
        have h4 := Hsz.out x 0 rfl
        omega
      have Hnod := Lib.hid hnod
      have Hp4 := Lib.hid hp; have Hk4 := Lib.hid hk
      have Hq := Lib.hid hq
      have HYl : Hid (w.heap.size + 3 ≤ Y.heap.size) := Lib.hid HR3.out.sz
      obtain ⟨k0, k1, k2, k3, k4, k5, k6, k7, k8, kz, -⟩ := HR4.out.a
      simp only [Tree.val]
      clear hnod hp hk hb2 hq
      go_upto_region 7 with fail
      clear k0 k1 k2 k3 k4 k5 k6 k7 k8 kz
      have hR5 := HR4.out.putA t aa an ac
      have hp5 := Hp4.out.putA (b := w.heap.size) (by have := HP.out; omega) HR4.out.ty (.int .i64 t.k) (.int .i64 t.pos) (.string ⟨t.col.toArray⟩) (.int .i64 t.v.k) (.int .i64 t.v.n) (.string t.v.s) (.int .u64 t.v.f) (.int .i64 t.op) (.slice aa an ac)
      have hk5 := Hk4.out.put9 (b := w.heap.size) (by have := HYl.out; omega) (.int .i64 t.k) (.int .i64 t.pos) (.string ⟨t.col.toArray⟩) (.int .i64 t.v.k) (.int .i64 t.v.n) (.string t.v.s) (.int .u64 t.v.f) (.int .i64 t.op) (.slice aa an ac)
      dsimp only [st9] at hR5 hp5 hk5
      generalize World.setCell _ ⟨w.heap.size, 8, none⟩ _ = Z at hR5 hp5 hk5 ⊢
      have HR5 := Lib.hid hR5; have Hp5 := Lib.hid hp5; have Hk5 := Lib.hid hk5
      clear hR5 hp5 hk5 HR4 Hp4 Hk4
      cases r with
      | cons m r =>
        have Ha : Hid (A = (zeroT, pAt s.size (m :: r), 160)) := Lib.hid (by rw [← HA.out]; simp only [parseA, parseL, Hq.out]; rfl)
        obtain ⟨g, off, c, N, c0, hN, hc, hg, -, -, -⟩ := Hp5.out.head
        have hN1 : (0 : Int) < (N : Int) := by omega
        have Hf := Lib.hid (pfail_any Z P s.size 0 (m :: r) Hp5.out)
        clear hN hc hg
        go_wp2_with fail
        refine Hf.out.mono ?_
        rintro en w6 ⟨rfl, rfl⟩
        go_wp2_with fail
        refine parse_door (Rp := fun en w' => ParseAns w w' A en) HR5.out (pAt s.size (m :: r)) ?_ _ rfl rfl rfl
        intro w5 hb
        show ParseAns w w5 A _
        rw [Ha.out]
        exact ⟨hb, none, 0, 0, rfl, .empty⟩
      | nil =>
        obtain ⟨⟨pv, c0, hpv⟩, -, -, -, -⟩ := Hp5.out
        obtain ⟨pa, pc, rfl⟩ := hpv.nilv
        obtain ⟨k0, k1, k2, k3, k4, k5, k6, k7, k8, kz, -⟩ := HR5.out.a
        have Hd := Lib.hid (depth_any 1000000 (Nat.le_refl _) t Hnod.out Z _ aa an ac Hk5.out)
        clear hpv
        go_wp2_with fail
        refine Hd.out.mono ?_
        rintro en w6 ⟨rfl, hb6⟩
        have HR6 := Lib.hid (HR5.out.later hb6)
        have Hk6 := Lib.hid (Hk5.out.later hb6)
        clear k0 k1 k2 k3 k4 k5 k6 k7 k8 kz hb6 c0 Hd
        by_cases hdp : 40 < t.depth
        · have hdi : (40 : Int) < (t.depth : Int) := by omega
          have Ha : Hid (A = (zeroT, 0, 160)) := Lib.hid (by rw [← HA.out]; simp [parseA, parseL, Hq.out, hdp])
          clear hdp
          go_wp2_with fail
          refine parse_door (Rp := fun en w' => ParseAns w w' A en) HR6.out 0 ?_ _ rfl rfl rfl
          intro w5 hb
          show ParseAns w w5 A _
          rw [Ha.out]
          exact ⟨hb, none, 0, 0, rfl, .empty⟩
        · have hdi : ¬ (40 : Int) < (t.depth : Int) := by omega
          have Ha : Hid (A = (t, 0, 0)) := Lib.hid (by rw [← HA.out]; simp [parseA, parseL, Hq.out, hdp])
          clear hdp
          obtain ⟨k0, k1, k2, k3, k4, k5, k6, k7, k8, kz, -⟩ := HR6.out.a
          have b1 := HR6.out.b; have c1 := HR6.out.c; have zb1 := HR6.out.zb; have zc1 := HR6.out.zc
          have hab : w.heap.size ≠ w.heap.size + 1 := by omega
          have hac : w.heap.size ≠ w.heap.size + 1 + 1 := by omega
          go_wp2_with fail
          have hF := ((HR6.out.putA t aa an ac).setB 0).setC 0
          have hk7 := ((Hk6.out.put9 (b := w.heap.size) (by have := HYl.out; omega) (.int .i64 t.k) (.int .i64 t.pos) (.string ⟨t.col.toArray⟩) (.int .i64 t.v.k) (.int .i64 t.v.n) (.string t.v.s) (.int .u64 t.v.f) (.int .i64 t.op) (.slice aa an ac)).off (b := w.heap.size + 1) (by have := HYl.out; omega) 0 (.int .i64 0)).off (b := w.heap.size + 1 + 1) (by have := HYl.out; omega) 0 (.int .i64 0)
          refine parse_door_ok (Rp := fun en w' => ParseAns w w' A en) hF _ ?_ rfl rfl rfl
          show ParseAns w _ A _
          rw [Ha.out]
          exact ⟨hF.bel, aa, an, ac, rfl, hk7.mono (by have := HYl.out; omega)⟩
end Go.Proofs.YtfkghfmgeholeaaGreatDoor
