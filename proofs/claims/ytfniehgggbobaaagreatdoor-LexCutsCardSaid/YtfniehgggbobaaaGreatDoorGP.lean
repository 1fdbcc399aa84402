/- Joined texts: Lq0; Lq1; Lq2; Lq3; Lq4; Lq5. -/
import Derived.Test.YtfniehgggbobaaaGreatDoorGL
import Derived.Test.YtfniehgggbobaaaGreatDoorGM
import Derived.Deep.CutRange
import Derived.Deep.CutBlock
set_option linter.unusedVariables false
set_option linter.unusedSimpArgs false
namespace Go.Proofs.YtfniehgggbobaaaGreatDoor
open Go.RowKit

/-- what ref.Lex hands back -/
def RefAns (w w' : World) (r : Option (List Tk) × Nat) (e : Ending) : Prop := ∃ v, e = .returned (.tuple #[v, .int .i64 (r.2 : Int), .bool r.1.isSome]) ∧ TBuf w w' v (lexT r)
theorem refAns_none {w W : World} {r : Option (List Tk) × Nat} {p : Nat} {P : Int} (h : r = (none, p)) (hp : P = (p : Int)) (hb : Below w.heap.size w W) : RefAns w W r (.returned (.tuple #[.slice none 0 0, .int .i64 P, .bool false])) := by
  subst h hp
  exact ⟨_, rfl, (TBuf.start w).later hb⟩
theorem refAns_some {w W : World} {r : Option (List Tk) × Nat} {x : List Tk} {v : Value} (h : r = (some x, 0)) (hb : TBuf w W v x) : RefAns w W r (.returned (.tuple #[v, .int .i64 0, .bool true])) := by
  subst h
  exact ⟨_, rfl, hb⟩
theorem TAt.kind {w : World} {b : Nat} {t : Tk} (h : TAt w b t) (k : Int) : TAt (w.setCell ⟨b, 0, none⟩ (.int .i64 k)) b { t with k := k } := by
  have ne : ∀ j : Nat, 0 ≠ j → (⟨b, 0, none⟩ : Addr) ≠ ⟨b, j, none⟩ := fun j e h => by injection h with _ h; exact e h
  obtain ⟨h0, h1, h2, h3, h4, h5, h6, h7, hz, hl⟩ := h
  refine ⟨cell_at h0 rfl, cell_off h1 (ne 1 (by decide)), cell_off h2 (ne 2 (by decide)), cell_off h3 (ne 3 (by decide)), cell_off h4 (ne 4 (by decide)), cell_off h5 (ne 5 (by decide)), cell_off h6 (ne 6 (by decide)), cell_off h7 (ne 7 (by decide)), fun o => ?_, by simpa [World.setCell] using hl⟩
  rw [World.frozen?_setCell]
  exact hz o
theorem TAt.oper {w : World} {b : Nat} {t : Tk} (h : TAt w b t) (k : Int) : TAt (w.setCell ⟨b, 3, none⟩ (.int .i64 k)) b { t with op := k } := by
  have ne : ∀ j : Nat, 3 ≠ j → (⟨b, 3, none⟩ : Addr) ≠ ⟨b, j, none⟩ := fun j e h => by injection h with _ h; exact e h
  obtain ⟨h0, h1, h2, h3, h4, h5, h6, h7, hz, hl⟩ := h
  refine ⟨cell_off h0 (ne 0 (by decide)), cell_off h1 (ne 1 (by decide)), cell_off h2 (ne 2 (by decide)), cell_at h3 rfl, cell_off h4 (ne 4 (by decide)), cell_off h5 (ne 5 (by decide)), cell_off h6 (ne 6 (by decide)), cell_off h7 (ne 7 (by decide)), fun o => ?_, by simpa [World.setCell] using hl⟩
  rw [World.frozen?_setCell]
  exact hz o
theorem TAt.word {w : World} {b : Nat} {t : Tk} (h : TAt w b t) (x : ByteArray) : TAt (w.setCell ⟨b, 2, none⟩ (.string x)) b { t with text := x.data.toList } := by
  have ne : ∀ j : Nat, 2 ≠ j → (⟨b, 2, none⟩ : Addr) ≠ ⟨b, j, none⟩ := fun j e h => by injection h with _ h; exact e h
  obtain ⟨h0, h1, h2, h3, h4, h5, h6, h7, hz, hl⟩ := h
  refine ⟨cell_off h0 (ne 0 (by decide)), cell_off h1 (ne 1 (by decide)), cell_at h2 rfl, cell_off h3 (ne 3 (by decide)), cell_off h4 (ne 4 (by decide)), cell_off h5 (ne 5 (by decide)), cell_off h6 (ne 6 (by decide)), cell_off h7 (ne 7 (by decide)), fun o => ?_, by simpa [World.setCell] using hl⟩
  rw [World.frozen?_setCell]
  exact hz o
theorem byte_is {c k : UInt8} (h : c = k) : ((c.toNat : Int) == (k.toNat : Int)) = true := by rw [h]; exact beq_self_eq_true _
theorem byte_not {c k : UInt8} (h : ¬ c = k) : ((c.toNat : Int) == (k.toNat : Int)) = false := beq_eq_false_iff_ne.2 fun e => h (UInt8.toNat_inj.1 (by omega))
theorem At.apart {W : World} {b c : Nat} {k n : Int} {s : ByteArray} {f : Int} (h : At W c k n s f) (u : Value) (i : Nat) (hbc : ¬ b = c) : At (W.setCell ⟨b, i, none⟩ u) c k n s f := by
  obtain ⟨h0, h1, h2, h3, hz, hl⟩ := h
  have ne : ∀ j : Nat, (⟨b, i, none⟩ : Addr) ≠ ⟨c, j, none⟩ := fun j h => by injection h with h _; exact hbc h
  refine ⟨cell_off h0 (ne _), cell_off h1 (ne _), cell_off h2 (ne _), cell_off h3 (ne _), fun o => ?_, by simpa [World.setCell] using hl⟩
  rw [World.frozen?_setCell]
  exact hz o
theorem TAt.lit {w : World} {b : Nat} {t : Tk} (h : TAt w b t) (x : Val) : TAt ((((w.setCell ⟨b, 4, none⟩ (.int .i64 x.k)).setCell ⟨b, 5, none⟩ (.int .i64 x.n)).setCell ⟨b, 6, none⟩ (.string x.s)).setCell ⟨b, 7, none⟩ (.int .u64 x.f)) b { t with v := x } := by
  have ne : ∀ i j : Nat, i ≠ j → (⟨b, i, none⟩ : Addr) ≠ ⟨b, j, none⟩ := fun i j e h => by injection h with _ h; exact e h
  obtain ⟨h0, h1, h2, h3, h4, h5, h6, h7, hz, hl⟩ := h
  have off : ∀ {j : Nat} {u : Value}, w.cell? ⟨b, j, none⟩ = some u → 4 ≠ j → 5 ≠ j → 6 ≠ j → 7 ≠ j → ((((w.setCell ⟨b, 4, none⟩ (.int .i64 x.k)).setCell ⟨b, 5, none⟩ (.int .i64 x.n)).setCell ⟨b, 6, none⟩ (.string x.s)).setCell ⟨b, 7, none⟩ (.int .u64 x.f)).cell? ⟨b, j, none⟩ = some u :=
    fun h e4 e5 e6 e7 => cell_off (cell_off (cell_off (cell_off h (ne _ _ e4)) (ne _ _ e5)) (ne _ _ e6)) (ne _ _ e7)
  refine ⟨off h0 (by decide) (by decide) (by decide) (by decide), off h1 (by decide) (by decide) (by decide) (by decide), off h2 (by decide) (by decide) (by decide) (by decide), off h3 (by decide) (by decide) (by decide) (by decide), ?_, ?_, ?_, ?_, fun o => ?_, ?_⟩
  · exact cell_off (cell_off (cell_off (cell_at h4 rfl) (ne 5 4 (by decide))) (ne 6 4 (by decide))) (ne 7 4 (by decide))
  · exact cell_off (cell_off (cell_at (cell_off h5 (ne 4 5 (by decide))) rfl) (ne 6 5 (by decide))) (ne 7 5 (by decide))
  · exact cell_off (cell_at (cell_off (cell_off h6 (ne 4 6 (by decide))) (ne 5 6 (by decide))) rfl) (ne 7 6 (by decide))
  · exact cell_at (cell_off (cell_off (cell_off h7 (ne 4 7 (by decide))) (ne 5 7 (by decide))) (ne 6 7 (by decide))) rfl
  · rw [World.frozen?_setCell, World.frozen?_setCell, World.frozen?_setCell, World.frozen?_setCell]
    exact hz o
  · simpa [World.setCell] using hl
/-- the loop of ref.Lex: where it stands -/
structure AtR (s : ByteArray) (r : Option (List Tk) × Nat) (g : Nat) (p : Nat) (I : Int) (o : List Tk) : Prop where
  sum : p + g = s.size
  int : I = (p : Int)
  ans : lexAt s.data.toList o p = r
  len : o.length ≤ p
theorem AtR.next {s : ByteArray} {r : Option (List Tk) × Nat} {g p : Nat} {I : Int} {o : List Tk} (h : AtR s r g p I o) {c : UInt8} {tk : Tk} {n : Nat} (hc : s.data.toList[p]? = some c) (h32 : ¬ c = 32) (ht : tokL (s.data.toList.drop p) = some (tk, n)) : AtR s r (s.size - (p + n)) (p + n) (I + (n : Int)) (o ++ [tk.put p]) ∧ 0 < n ∧ s.size - (p + n) < g := by
  have he := lexAt_tok s.data.toList o p hc h32 ht
  rw [h.ans] at he
  have hl : s.data.toList.length = s.size := (Lib.size_eq s).symm
  rw [hl] at he
  refine ⟨⟨by omega, by have := h.int; omega, he.1.symm, by rw [List.length_append]; have := h.len; have := he.2.1; simp only [List.length_cons, List.length_nil]; omega⟩, he.2.1, by have := h.sum; omega⟩
theorem AtR.blank {s : ByteArray} {r : Option (List Tk) × Nat} {g p : Nat} {I : Int} {o : List Tk} (h : AtR s r g p I o) (hc : s.data.toList[p]? = some 32) (hg : 0 < g) : AtR s r (s.size - (p + 1)) (p + 1) (I + 1) o ∧ s.size - (p + 1) < g := by
  refine ⟨⟨by have := h.sum; omega, by have := h.int; omega, by rw [← h.ans, lexAt_blank s.data.toList o p hc], by have := h.len; omega⟩, by have := h.sum; omega⟩
theorem AtR.bad {s : ByteArray} {r : Option (List Tk) × Nat} {g p : Nat} {I : Int} {o : List Tk} (h : AtR s r g p I o) {c : UInt8} (hc : s.data.toList[p]? = some c) (h32 : ¬ c = 32) (ht : tokL (s.data.toList.drop p) = none) : r = (none, p) := by
  rw [← h.ans, lexAt_bad s.data.toList o p hc h32 ht]
theorem AtR.fin {s : ByteArray} {r : Option (List Tk) × Nat} {p : Nat} {I : Int} {o : List Tk} (h : AtR s r 0 p I o) : r = (some o, 0) := by
  rw [← h.ans, lexAt_end _ _ _ (by rw [← Lib.size_eq]; have := h.sum; omega)]
/-- the first block of that number -/
def pickBlock (n : Nat) : Code → Option Code
  | .block m c => if m = n then some (.block m c) else pickBlock n c
  | .loop c => pickBlock n c
  | .seq a b => match pickBlock n a with
    | some c => some c
    | none => pickBlock n b
  | .scope c => pickBlock n c
  | .cond _ a b => match pickBlock n a with
    | some c => some c
    | none => pickBlock n b
  | _ => none
noncomputable def swCode : Code := ((Tryz.f15.body.bind (pickBlock 2)).getD .skip)
/-- what the switch leaves where there is a token -/
def SwR (s : ByteArray) (p : Nat) (I : Int) (b : Nat) (w0 : World) (i : Value) (wx : World) : Prop := ∃ (tk : Tk) (n : Nat) (J : Int), i = .int .i64 J ∧ (tokL (s.data.toList.drop p) = some (tk, n) ∧ J = I + (n : Int)) ∧ TAt wx b (tk.put p) ∧ Below w0.heap.size w0 wx
end Go.Proofs.YtfniehgggbobaaaGreatDoor
namespace Go.Proofs.YtfniehgggbobaaaGreatDoor
open Go.RowKit

set_option maxHeartbeats 32000000 in
set_option maxRecDepth 1000000 in
theorem sw40 (s : ByteArray) (p : Nat) (I N : Int) (c : UInt8) (b : Nat) (w0 W2 : World) (x1 x2 x3 x4 x5 x11 x12 x13 x14 x15 x16 x17 x18 x19 x20 x21 x22 x23 x24 x25 x26 x27 x28 x29 x30 x31 x32 x33 x34 x35 x37 x38 x39 x40 x41 x42 x43 x44 x45 x46 x47 x48 x49 x50 x51 x52 x53 x54 x55 x56 x57 x58 x59 x60 x61 x62 x63 x64 x65 x66 x67 x68 x69 x70 x71 x72 x73 x74 x75 x76 x77 x78 x79 x80 x81 x82 x83 x84 x85 x86 x87 x88 x89 x90 x91 x92 x93 x94 x95 x96 x97 x98 x99 x100 x101 x102 x103 x104 x105 x106 x107 x108 x109 x110 x111 x112 x113 x114 x115 x116 x117 x118 x119 x120 x121 x122 x123 x124 x125 x126 x127 x128 x129 x130 x131 x132 x133 x134 x135 x136 x137 x138 x139 x140 x141 x142 x143 x144 x145 x146 x147 x148 x149 x150 x151 x152 x153 x154 x155 x156 x157 x158 x159 x160 x161 x162 x163 x164 x165 x166 x167 x168 x169 x170 x171 x172 x173 x174 x175 x176 x177 x178 x179 x180 x181 x182 x183 x184 x185 x186 x187 x188 x189 : Value) (K : Act → World → Prop) (Q : Exit → Act → World → Prop)
    (hK : ∀ (i y2 y3 y4 y11 y12 y13 y17 y18 y19 y20 y21 y22 y23 y24 y25 y26 y27 y28 y29 y30 y31 y32 y33 y34 y35 y36 y37 y38 y39 y40 y41 y42 y43 y44 y45 y46 y47 y48 y49 y50 y51 y52 y53 y54 y55 y56 y57 y58 y59 y60 y61 y62 y63 y64 y65 y66 y67 y68 y69 y70 y71 y72 y73 y74 y75 y76 y77 y78 y79 y80 y81 y82 y83 y84 y85 y86 y87 y88 y89 y90 y91 y92 y93 y94 y95 y96 y97 y98 y99 y100 y101 y102 y103 y104 y105 y106 y107 y108 y109 y110 y111 y112 y113 y114 y115 y116 y117 y118 y119 y120 y121 y122 y123 y124 y125 y126 y127 y128 y129 y130 y131 y132 y133 y134 y135 y136 y137 y138 y139 y140 y141 y142 y143 y144 y145 y146 y147 y148 y149 y150 y151 y152 y153 y154 y155 y156 y157 y158 y159 y160 y161 y162 y163 y164 y165 y166 y167 y168 y169 y170 y171 y172 y173 y174 y175 y176 y177 y178 y179 y180 y181 y182 y183 y184 y185 y186 y187 y188 : Value) (wx : World), SwR s p I b w0 i wx → K ⟨#[.string s, x1, y2, y3, y4, x5, i, .int .u8 (c.toNat : Int), .int .i64 I, .int .u8 N, .pointer (some ⟨b, 0, none⟩), y11, y12, y13, x14, x15, x16, y17, y18, y19, y20, y21, y22, y23, y24, y25, y26, y27, y28, y29, y30, y31, y32, y33, y34, y35, y36, y37, y38, y39, y40, y41, y42, y43, y44, y45, y46, y47, y48, y49, y50, y51, y52, y53, y54, y55, y56, y57, y58, y59, y60, y61, y62, y63, y64, y65, y66, y67, y68, y69, y70, y71, y72, y73, y74, y75, y76, y77, y78, y79, y80, y81, y82, y83, y84, y85, y86, y87, y88, y89, y90, y91, y92, y93, y94, y95, y96, y97, y98, y99, y100, y101, y102, y103, y104, y105, y106, y107, y108, y109, y110, y111, y112, y113, y114, y115, y116, y117, y118, y119, y120, y121, y122, y123, y124, y125, y126, y127, y128, y129, y130, y131, y132, y133, y134, y135, y136, y137, y138, y139, y140, y141, y142, y143, y144, y145, y146, y147, y148, y149, y150, y151, y152, y153, y154, y155, y156, y157, y158, y159, y160, y161, y162, y163, y164, y165, y166, y167, y168, y169, y170, y171, y172, y173, y174, y175, y176, y177, y178, y179, y180, y181, y182, y183, y184, y185, y186, y187, y188, x189], []⟩ wx)
    (hret : ∀ (z6 z7 z8 z9 z10 z11 z12 z13 z17 z18 z19 z20 z21 z22 z23 z24 z25 z26 z27 z28 z29 z30 z31 z32 z33 z34 z35 z36 z37 z38 z39 z40 z41 z42 z43 z44 z45 z46 z47 z48 z49 z50 z51 z52 z53 z54 z55 z56 z57 z58 z59 z60 z61 z62 z63 z64 z65 z66 z67 z68 z69 z70 z71 z72 z73 z74 z75 z76 z77 z78 z79 z80 z81 z82 z83 z84 z85 z86 z87 z88 z89 z90 z91 z92 z93 z94 z95 z96 z97 z98 z99 z100 z101 z102 z103 z104 z105 z106 z107 z108 z109 z110 z111 z112 z113 z114 z115 z116 z117 z118 z119 z120 z121 z122 z123 z124 z125 z126 z127 z128 z129 z130 z131 z132 z133 z134 z135 z136 z137 z138 z139 z140 z141 z142 z143 z144 z145 z146 z147 z148 z149 z150 z151 z152 z153 z154 z155 z156 z157 z158 z159 z160 z161 z162 z163 z164 z165 z166 z167 z168 z169 z170 z171 z172 z173 z174 z175 z176 z177 z178 z179 z180 z181 z182 z183 z184 z185 z186 z187 z188 : Value) (wx : World), tokL (s.data.toList.drop p) = none → Below w0.heap.size w0 wx → Q .ret ⟨#[.string s, x1, .slice none 0 0, .int .i64 I, .bool false, x5, z6, z7, z8, z9, z10, z11, z12, z13, x14, x15, x16, z17, z18, z19, z20, z21, z22, z23, z24, z25, z26, z27, z28, z29, z30, z31, z32, z33, z34, z35, z36, z37, z38, z39, z40, z41, z42, z43, z44, z45, z46, z47, z48, z49, z50, z51, z52, z53, z54, z55, z56, z57, z58, z59, z60, z61, z62, z63, z64, z65, z66, z67, z68, z69, z70, z71, z72, z73, z74, z75, z76, z77, z78, z79, z80, z81, z82, z83, z84, z85, z86, z87, z88, z89, z90, z91, z92, z93, z94, z95, z96, z97, z98, z99, z100, z101, z102, z103, z104, z105, z106, z107, z108, z109, z110, z111, z112, z113, z114, z115, z116, z117, z118, z119, z120, z121, z122, z123, z124, z125, z126, z127, z128, z129, z130, z131, z132, z133, z134, z135, z136, z137, z138, z139, z140, z141, z142, z143, z144, z145, z146, z147, z148, z149, z150, z151, z152, z153, z154, z155, z156, z157, z158, z159, z160, z161, z162, z163, z164, z165, z166, z167, z168, z169, z170, z171, z172, z173, z174, z175, z176, z177, z178, z179, z180, z181, z182, z183, z184, z185, z186, z187, z188, x189], []⟩ wx)
    (Hl : Hid (∀ W, Below w0.heap.size w0 W → Laid W)) (hni : (s.size : Int) ≤ 100000) (hI : I = (p : Int)) (hps : p < s.size) (HN : Hid (N = 61 ↔ (s.data.toList.drop (p + 1)).head? = some 61)) (h32 : ¬ c = 32)
    (hlc : s.data.toList[p]? = some c) (Hat0 : Hid (TAt W2 b ⟨0, p, [], 0, ⟨0, 0, ⟨#[]⟩, 0⟩⟩)) (Hbw0 : Hid (Below w0.heap.size w0 W2)) (hb0 : w0.heap.size ≤ b) (h40 : c = 40) :
    Code.wp Tryz.prog swCode (Exit.then K Q) ⟨#[.string s, x1, x2, x3, x4, x5, .int .i64 (I + 1), .int .u8 (c.toNat : Int), .int .i64 I, .int .u8 N, .pointer (some ⟨b, 0, none⟩), x11, x12, x13, x14, x15, x16, x17, x18, x19, x20, x21, x22, x23, x24, x25, x26, x27, x28, x29, x30, x31, x32, x33, x34, x35, .int .u8 (c.toNat : Int), x37, x38, x39, x40, x41, x42, x43, x44, x45, x46, x47, x48, x49, x50, x51, x52, x53, x54, x55, x56, x57, x58, x59, x60, x61, x62, x63, x64, x65, x66, x67, x68, x69, x70, x71, x72, x73, x74, x75, x76, x77, x78, x79, x80, x81, x82, x83, x84, x85, x86, x87, x88, x89, x90, x91, x92, x93, x94, x95, x96, x97, x98, x99, x100, x101, x102, x103, x104, x105, x106, x107, x108, x109, x110, x111, x112, x113, x114, x115, x116, x117, x118, x119, x120, x121, x122, x123, x124, x125, x126, x127, x128, x129, x130, x131, x132, x133, x134, x135, x136, x137, x138, x139, x140, x141, x142, x143, x144, x145, x146, x147, x148, x149, x150, x151, x152, x153, x154, x155, x156, x157, x158, x159, x160, x161, x162, x163, x164, x165, x166, x167, x168, x169, x170, x171, x172, x173, x174, x175, x176, x177, x178, x179, x180, x181, x182, x183, x184, x185, x186, x187, x188, x189], []⟩ W2 := by
  have Hlen : Hid (s.data.toList.length = s.size) := Lib.hid (Lib.size_eq s).symm
  have hInt := Lib.hid hI; have Hlc := Lib.hid hlc; have Hb0 := Lib.hid hb0
  have HK := Lib.hid hK; have Hret := Lib.hid hret
  have hI0 : 0 ≤ I := by omega
  have hI1 : I < (s.size : Int) := by omega
  have hni3 : I + 1 ≤ 100000 := by omega
  have hIj : I.toNat = p := by omega
  have htok := tokL_cons c (s.data.toList.drop (p + 1))
  rw [← (drop_at hlc).1] at htok
  have hz0 := Hat0.out.z 0; have hz2 := Hat0.out.z 2; have hz3 := Hat0.out.z 3
  have hc0 := Hat0.out.c0; have hc2 := Hat0.out.c2; have hc3 := Hat0.out.c3
  simp only at hc0 hc2 hc3
  clear hK hret hI hlc hb0
  have e32 : ((c.toNat : Int) == 32) = false := by rw [h40] <;> rfl
  have e40 : ((c.toNat : Int) == 40) = true := by rw [h40] <;> rfl
  have e41 : ((c.toNat : Int) == 41) = false := by rw [h40] <;> rfl
  have e61 : ((c.toNat : Int) == 61) = false := by rw [h40] <;> rfl
  have e33 : ((c.toNat : Int) == 33) = false := by rw [h40] <;> rfl
  have e60 : ((c.toNat : Int) == 60) = false := by rw [h40] <;> rfl
  have e62 : ((c.toNat : Int) == 62) = false := by rw [h40] <;> rfl
  have e36 : ((c.toNat : Int) == 36) = false := by rw [h40] <;> rfl
  have e0 : ((c.toNat : Int) != 33) = true := by rw [h40] <;> rfl
  have Ht := Lib.hid (show tokL (s.data.toList.drop p) = some ((Tk.plain 4 0), 1) from by rw [htok, h40]; rfl)
  clear htok h32 h40
  conv => arg 2; whnf
  go_wp2_with fail
  exact HK.out _ _ _ _ _ _ _ _ _ _ _ _ _ _ _ _ _ _ _ _ _ _ _ _ _ _ _ _ _ _ _ _ _ _ _ _ _ _ _ _ _ _ _ _ _ _ _ _ _ _ _ _ _ _ _ _ _ _ _ _ _ _ _ _ _ _ _ _ _ _ _ _ _ _ _ _ _ _ _ _ _ _ _ _ _ _ _ _ _ _ _ _ _ _ _ _ _ _ _ _ _ _ _ _ _ _ _ _ _ _ _ _ _ _ _ _ _ _ _ _ _ _ _ _ _ _ _ _ _ _ _ _ _ _ _ _ _ _ _ _ _ _ _ _ _ _ _ _ _ _ _ _ _ _ _ _ _ _ _ _ _ _ _ _ _ _ _ _ _ _ _ _ _ _ _ _ _ _ _ _ ⟨(Tk.plain 4 0), 1, _, rfl, ⟨Ht.out, by first | rfl | omega⟩, (Hat0.out.kind 4), (show Below w0.heap.size w0 (W2.setCell ⟨b, 0, none⟩ (.int .i64 4)) from Hbw0.out.setCell Hb0.out _)⟩
set_option maxHeartbeats 32000000 in
set_option maxRecDepth 1000000 in
theorem sw41 (s : ByteArray) (p : Nat) (I N : Int) (c : UInt8) (b : Nat) (w0 W2 : World) (x1 x2 x3 x4 x5 x11 x12 x13 x14 x15 x16 x17 x18 x19 x20 x21 x22 x23 x24 x25 x26 x27 x28 x29 x30 x31 x32 x33 x34 x35 x37 x38 x39 x40 x41 x42 x43 x44 x45 x46 x47 x48 x49 x50 x51 x52 x53 x54 x55 x56 x57 x58 x59 x60 x61 x62 x63 x64 x65 x66 x67 x68 x69 x70 x71 x72 x73 x74 x75 x76 x77 x78 x79 x80 x81 x82 x83 x84 x85 x86 x87 x88 x89 x90 x91 x92 x93 x94 x95 x96 x97 x98 x99 x100 x101 x102 x103 x104 x105 x106 x107 x108 x109 x110 x111 x112 x113 x114 x115 x116 x117 x118 x119 x120 x121 x122 x123 x124 x125 x126 x127 x128 x129 x130 x131 x132 x133 x134 x135 x136 x137 x138 x139 x140 x141 x142 x143 x144 x145 x146 x147 x148 x149 x150 x151 x152 x153 x154 x155 x156 x157 x158 x159 x160 x161 x162 x163 x164 x165 x166 x167 x168 x169 x170 x171 x172 x173 x174 x175 x176 x177 x178 x179 x180 x181 x182 x183 x184 x185 x186 x187 x188 x189 : Value) (K : Act → World → Prop) (Q : Exit → Act → World → Prop)
    (hK : ∀ (i y2 y3 y4 y11 y12 y13 y17 y18 y19 y20 y21 y22 y23 y24 y25 y26 y27 y28 y29 y30 y31 y32 y33 y34 y35 y36 y37 y38 y39 y40 y41 y42 y43 y44 y45 y46 y47 y48 y49 y50 y51 y52 y53 y54 y55 y56 y57 y58 y59 y60 y61 y62 y63 y64 y65 y66 y67 y68 y69 y70 y71 y72 y73 y74 y75 y76 y77 y78 y79 y80 y81 y82 y83 y84 y85 y86 y87 y88 y89 y90 y91 y92 y93 y94 y95 y96 y97 y98 y99 y100 y101 y102 y103 y104 y105 y106 y107 y108 y109 y110 y111 y112 y113 y114 y115 y116 y117 y118 y119 y120 y121 y122 y123 y124 y125 y126 y127 y128 y129 y130 y131 y132 y133 y134 y135 y136 y137 y138 y139 y140 y141 y142 y143 y144 y145 y146 y147 y148 y149 y150 y151 y152 y153 y154 y155 y156 y157 y158 y159 y160 y161 y162 y163 y164 y165 y166 y167 y168 y169 y170 y171 y172 y173 y174 y175 y176 y177 y178 y179 y180 y181 y182 y183 y184 y185 y186 y187 y188 : Value) (wx : World), SwR s p I b w0 i wx → K ⟨#[.string s, x1, y2, y3, y4, x5, i, .int .u8 (c.toNat : Int), .int .i64 I, .int .u8 N, .pointer (some ⟨b, 0, none⟩), y11, y12, y13, x14, x15, x16, y17, y18, y19, y20, y21, y22, y23, y24, y25, y26, y27, y28, y29, y30, y31, y32, y33, y34, y35, y36, y37, y38, y39, y40, y41, y42, y43, y44, y45, y46, y47, y48, y49, y50, y51, y52, y53, y54, y55, y56, y57, y58, y59, y60, y61, y62, y63, y64, y65, y66, y67, y68, y69, y70, y71, y72, y73, y74, y75, y76, y77, y78, y79, y80, y81, y82, y83, y84, y85, y86, y87, y88, y89, y90, y91, y92, y93, y94, y95, y96, y97, y98, y99, y100, y101, y102, y103, y104, y105, y106, y107, y108, y109, y110, y111, y112, y113, y114, y115, y116, y117, y118, y119, y120, y121, y122, y123, y124, y125, y126, y127, y128, y129, y130, y131, y132, y133, y134, y135, y136, y137, y138, y139, y140, y141, y142, y143, y144, y145, y146, y147, y148, y149, y150, y151, y152, y153, y154, y155, y156, y157, y158, y159, y160, y161, y162, y163, y164, y165, y166, y167, y168, y169, y170, y171, y172, y173, y174, y175, y176, y177, y178, y179, y180, y181, y182, y183, y184, y185, y186, y187, y188, x189], []⟩ wx)
    (hret : ∀ (z6 z7 z8 z9 z10 z11 z12 z13 z17 z18 z19 z20 z21 z22 z23 z24 z25 z26 z27 z28 z29 z30 z31 z32 z33 z34 z35 z36 z37 z38 z39 z40 z41 z42 z43 z44 z45 z46 z47 z48 z49 z50 z51 z52 z53 z54 z55 z56 z57 z58 z59 z60 z61 z62 z63 z64 z65 z66 z67 z68 z69 z70 z71 z72 z73 z74 z75 z76 z77 z78 z79 z80 z81 z82 z83 z84 z85 z86 z87 z88 z89 z90 z91 z92 z93 z94 z95 z96 z97 z98 z99 z100 z101 z102 z103 z104 z105 z106 z107 z108 z109 z110 z111 z112 z113 z114 z115 z116 z117 z118 z119 z120 z121 z122 z123 z124 z125 z126 z127 z128 z129 z130 z131 z132 z133 z134 z135 z136 z137 z138 z139 z140 z141 z142 z143 z144 z145 z146 z147 z148 z149 z150 z151 z152 z153 z154 z155 z156 z157 z158 z159 z160 z161 z162 z163 z164 z165 z166 z167 z168 z169 z170 z171 z172 z173 z174 z175 z176 z177 z178 z179 z180 z181 z182 z183 z184 z185 z186 z187 z188 : Value) (wx : World), tokL (s.data.toList.drop p) = none → Below w0.heap.size w0 wx → Q .ret ⟨#[.string s, x1, .slice none 0 0, .int .i64 I, .bool false, x5, z6, z7, z8, z9, z10, z11, z12, z13, x14, x15, x16, z17, z18, z19, z20, z21, z22, z23, z24, z25, z26, z27, z28, z29, z30, z31, z32, z33, z34, z35, z36, z37, z38, z39, z40, z41, z42, z43, z44, z45, z46, z47, z48, z49, z50, z51, z52, z53, z54, z55, z56, z57, z58, z59, z60, z61, z62, z63, z64, z65, z66, z67, z68, z69, z70, z71, z72, z73, z74, z75, z76, z77, z78, z79, z80, z81, z82, z83, z84, z85, z86, z87, z88, z89, z90, z91, z92, z93, z94, z95, z96, z97, z98, z99, z100, z101, z102, z103, z104, z105, z106, z107, z108, z109, z110, z111, z112, z113, z114, z115, z116, z117, z118, z119, z120, z121, z122, z123, z124, z125, z126, z127, z128, z129, z130, z131, z132, z133, z134, z135, z136, z137, z138, z139, z140, z141, z142, z143, z144, z145, z146, z147, z148, z149, z150, z151, z152, z153, z154, z155, z156, z157, z158, z159, z160, z161, z162, z163, z164, z165, z166, z167, z168, z169, z170, z171, z172, z173, z174, z175, z176, z177, z178, z179, z180, z181, z182, z183, z184, z185, z186, z187, z188, x189], []⟩ wx)
    (Hl : Hid (∀ W, Below w0.heap.size w0 W → Laid W)) (hni : (s.size : Int) ≤ 100000) (hI : I = (p : Int)) (hps : p < s.size) (HN : Hid (N = 61 ↔ (s.data.toList.drop (p + 1)).head? = some 61)) (h32 : ¬ c = 32)
    (hlc : s.data.toList[p]? = some c) (Hat0 : Hid (TAt W2 b ⟨0, p, [], 0, ⟨0, 0, ⟨#[]⟩, 0⟩⟩)) (Hbw0 : Hid (Below w0.heap.size w0 W2)) (hb0 : w0.heap.size ≤ b) (h41 : c = 41) :
    Code.wp Tryz.prog swCode (Exit.then K Q) ⟨#[.string s, x1, x2, x3, x4, x5, .int .i64 (I + 1), .int .u8 (c.toNat : Int), .int .i64 I, .int .u8 N, .pointer (some ⟨b, 0, none⟩), x11, x12, x13, x14, x15, x16, x17, x18, x19, x20, x21, x22, x23, x24, x25, x26, x27, x28, x29, x30, x31, x32, x33, x34, x35, .int .u8 (c.toNat : Int), x37, x38, x39, x40, x41, x42, x43, x44, x45, x46, x47, x48, x49, x50, x51, x52, x53, x54, x55, x56, x57, x58, x59, x60, x61, x62, x63, x64, x65, x66, x67, x68, x69, x70, x71, x72, x73, x74, x75, x76, x77, x78, x79, x80, x81, x82, x83, x84, x85, x86, x87, x88, x89, x90, x91, x92, x93, x94, x95, x96, x97, x98, x99, x100, x101, x102, x103, x104, x105, x106, x107, x108, x109, x110, x111, x112, x113, x114, x115, x116, x117, x118, x119, x120, x121, x122, x123, x124, x125, x126, x127, x128, x129, x130, x131, x132, x133, x134, x135, x136, x137, x138, x139, x140, x141, x142, x143, x144, x145, x146, x147, x148, x149, x150, x151, x152, x153, x154, x155, x156, x157, x158, x159, x160, x161, x162, x163, x164, x165, x166, x167, x168, x169, x170, x171, x172, x173, x174, x175, x176, x177, x178, x179, x180, x181, x182, x183, x184, x185, x186, x187, x188, x189], []⟩ W2 := by
  have Hlen : Hid (s.data.toList.length = s.size) := Lib.hid (Lib.size_eq s).symm
  have hInt := Lib.hid hI; have Hlc := Lib.hid hlc; have Hb0 := Lib.hid hb0
  have HK := Lib.hid hK; have Hret := Lib.hid hret
  have hI0 : 0 ≤ I := by omega
  have hI1 : I < (s.size : Int) := by omega
  have hni3 : I + 1 ≤ 100000 := by omega
  have hIj : I.toNat = p := by omega
  have htok := tokL_cons c (s.data.toList.drop (p + 1))
  rw [← (drop_at hlc).1] at htok
  have hz0 := Hat0.out.z 0; have hz2 := Hat0.out.z 2; have hz3 := Hat0.out.z 3
  have hc0 := Hat0.out.c0; have hc2 := Hat0.out.c2; have hc3 := Hat0.out.c3
  simp only at hc0 hc2 hc3
  clear hK hret hI hlc hb0
  have e32 : ((c.toNat : Int) == 32) = false := by rw [h41] <;> rfl
  have e40 : ((c.toNat : Int) == 40) = false := by rw [h41] <;> rfl
  have e41 : ((c.toNat : Int) == 41) = true := by rw [h41] <;> rfl
  have e61 : ((c.toNat : Int) == 61) = false := by rw [h41] <;> rfl
  have e33 : ((c.toNat : Int) == 33) = false := by rw [h41] <;> rfl
  have e60 : ((c.toNat : Int) == 60) = false := by rw [h41] <;> rfl
  have e62 : ((c.toNat : Int) == 62) = false := by rw [h41] <;> rfl
  have e36 : ((c.toNat : Int) == 36) = false := by rw [h41] <;> rfl
  have e0 : ((c.toNat : Int) != 33) = true := by rw [h41] <;> rfl
  have Ht := Lib.hid (show tokL (s.data.toList.drop p) = some ((Tk.plain 5 0), 1) from by rw [htok, h41]; rfl)
  clear htok h32 h41
  conv => arg 2; whnf
  go_wp2_with fail
  exact HK.out _ _ _ _ _ _ _ _ _ _ _ _ _ _ _ _ _ _ _ _ _ _ _ _ _ _ _ _ _ _ _ _ _ _ _ _ _ _ _ _ _ _ _ _ _ _ _ _ _ _ _ _ _ _ _ _ _ _ _ _ _ _ _ _ _ _ _ _ _ _ _ _ _ _ _ _ _ _ _ _ _ _ _ _ _ _ _ _ _ _ _ _ _ _ _ _ _ _ _ _ _ _ _ _ _ _ _ _ _ _ _ _ _ _ _ _ _ _ _ _ _ _ _ _ _ _ _ _ _ _ _ _ _ _ _ _ _ _ _ _ _ _ _ _ _ _ _ _ _ _ _ _ _ _ _ _ _ _ _ _ _ _ _ _ _ _ _ _ _ _ _ _ _ _ _ _ _ _ _ _ ⟨(Tk.plain 5 0), 1, _, rfl, ⟨Ht.out, by first | rfl | omega⟩, (Hat0.out.kind 5), (show Below w0.heap.size w0 (W2.setCell ⟨b, 0, none⟩ (.int .i64 5)) from Hbw0.out.setCell Hb0.out _)⟩
set_option maxHeartbeats 32000000 in
set_option maxRecDepth 1000000 in
theorem sw61 (s : ByteArray) (p : Nat) (I N : Int) (c : UInt8) (b : Nat) (w0 W2 : World) (x1 x2 x3 x4 x5 x11 x12 x13 x14 x15 x16 x17 x18 x19 x20 x21 x22 x23 x24 x25 x26 x27 x28 x29 x30 x31 x32 x33 x34 x35 x37 x38 x39 x40 x41 x42 x43 x44 x45 x46 x47 x48 x49 x50 x51 x52 x53 x54 x55 x56 x57 x58 x59 x60 x61 x62 x63 x64 x65 x66 x67 x68 x69 x70 x71 x72 x73 x74 x75 x76 x77 x78 x79 x80 x81 x82 x83 x84 x85 x86 x87 x88 x89 x90 x91 x92 x93 x94 x95 x96 x97 x98 x99 x100 x101 x102 x103 x104 x105 x106 x107 x108 x109 x110 x111 x112 x113 x114 x115 x116 x117 x118 x119 x120 x121 x122 x123 x124 x125 x126 x127 x128 x129 x130 x131 x132 x133 x134 x135 x136 x137 x138 x139 x140 x141 x142 x143 x144 x145 x146 x147 x148 x149 x150 x151 x152 x153 x154 x155 x156 x157 x158 x159 x160 x161 x162 x163 x164 x165 x166 x167 x168 x169 x170 x171 x172 x173 x174 x175 x176 x177 x178 x179 x180 x181 x182 x183 x184 x185 x186 x187 x188 x189 : Value) (K : Act → World → Prop) (Q : Exit → Act → World → Prop)
    (hK : ∀ (i y2 y3 y4 y11 y12 y13 y17 y18 y19 y20 y21 y22 y23 y24 y25 y26 y27 y28 y29 y30 y31 y32 y33 y34 y35 y36 y37 y38 y39 y40 y41 y42 y43 y44 y45 y46 y47 y48 y49 y50 y51 y52 y53 y54 y55 y56 y57 y58 y59 y60 y61 y62 y63 y64 y65 y66 y67 y68 y69 y70 y71 y72 y73 y74 y75 y76 y77 y78 y79 y80 y81 y82 y83 y84 y85 y86 y87 y88 y89 y90 y91 y92 y93 y94 y95 y96 y97 y98 y99 y100 y101 y102 y103 y104 y105 y106 y107 y108 y109 y110 y111 y112 y113 y114 y115 y116 y117 y118 y119 y120 y121 y122 y123 y124 y125 y126 y127 y128 y129 y130 y131 y132 y133 y134 y135 y136 y137 y138 y139 y140 y141 y142 y143 y144 y145 y146 y147 y148 y149 y150 y151 y152 y153 y154 y155 y156 y157 y158 y159 y160 y161 y162 y163 y164 y165 y166 y167 y168 y169 y170 y171 y172 y173 y174 y175 y176 y177 y178 y179 y180 y181 y182 y183 y184 y185 y186 y187 y188 : Value) (wx : World), SwR s p I b w0 i wx → K ⟨#[.string s, x1, y2, y3, y4, x5, i, .int .u8 (c.toNat : Int), .int .i64 I, .int .u8 N, .pointer (some ⟨b, 0, none⟩), y11, y12, y13, x14, x15, x16, y17, y18, y19, y20, y21, y22, y23, y24, y25, y26, y27, y28, y29, y30, y31, y32, y33, y34, y35, y36, y37, y38, y39, y40, y41, y42, y43, y44, y45, y46, y47, y48, y49, y50, y51, y52, y53, y54, y55, y56, y57, y58, y59, y60, y61, y62, y63, y64, y65, y66, y67, y68, y69, y70, y71, y72, y73, y74, y75, y76, y77, y78, y79, y80, y81, y82, y83, y84, y85, y86, y87, y88, y89, y90, y91, y92, y93, y94, y95, y96, y97, y98, y99, y100, y101, y102, y103, y104, y105, y106, y107, y108, y109, y110, y111, y112, y113, y114, y115, y116, y117, y118, y119, y120, y121, y122, y123, y124, y125, y126, y127, y128, y129, y130, y131, y132, y133, y134, y135, y136, y137, y138, y139, y140, y141, y142, y143, y144, y145, y146, y147, y148, y149, y150, y151, y152, y153, y154, y155, y156, y157, y158, y159, y160, y161, y162, y163, y164, y165, y166, y167, y168, y169, y170, y171, y172, y173, y174, y175, y176, y177, y178, y179, y180, y181, y182, y183, y184, y185, y186, y187, y188, x189], []⟩ wx)
    (hret : ∀ (z6 z7 z8 z9 z10 z11 z12 z13 z17 z18 z19 z20 z21 z22 z23 z24 z25 z26 z27 z28 z29 z30 z31 z32 z33 z34 z35 z36 z37 z38 z39 z40 z41 z42 z43 z44 z45 z46 z47 z48 z49 z50 z51 z52 z53 z54 z55 z56 z57 z58 z59 z60 z61 z62 z63 z64 z65 z66 z67 z68 z69 z70 z71 z72 z73 z74 z75 z76 z77 z78 z79 z80 z81 z82 z83 z84 z85 z86 z87 z88 z89 z90 z91 z92 z93 z94 z95 z96 z97 z98 z99 z100 z101 z102 z103 z104 z105 z106 z107 z108 z109 z110 z111 z112 z113 z114 z115 z116 z117 z118 z119 z120 z121 z122 z123 z124 z125 z126 z127 z128 z129 z130 z131 z132 z133 z134 z135 z136 z137 z138 z139 z140 z141 z142 z143 z144 z145 z146 z147 z148 z149 z150 z151 z152 z153 z154 z155 z156 z157 z158 z159 z160 z161 z162 z163 z164 z165 z166 z167 z168 z169 z170 z171 z172 z173 z174 z175 z176 z177 z178 z179 z180 z181 z182 z183 z184 z185 z186 z187 z188 : Value) (wx : World), tokL (s.data.toList.drop p) = none → Below w0.heap.size w0 wx → Q .ret ⟨#[.string s, x1, .slice none 0 0, .int .i64 I, .bool false, x5, z6, z7, z8, z9, z10, z11, z12, z13, x14, x15, x16, z17, z18, z19, z20, z21, z22, z23, z24, z25, z26, z27, z28, z29, z30, z31, z32, z33, z34, z35, z36, z37, z38, z39, z40, z41, z42, z43, z44, z45, z46, z47, z48, z49, z50, z51, z52, z53, z54, z55, z56, z57, z58, z59, z60, z61, z62, z63, z64, z65, z66, z67, z68, z69, z70, z71, z72, z73, z74, z75, z76, z77, z78, z79, z80, z81, z82, z83, z84, z85, z86, z87, z88, z89, z90, z91, z92, z93, z94, z95, z96, z97, z98, z99, z100, z101, z102, z103, z104, z105, z106, z107, z108, z109, z110, z111, z112, z113, z114, z115, z116, z117, z118, z119, z120, z121, z122, z123, z124, z125, z126, z127, z128, z129, z130, z131, z132, z133, z134, z135, z136, z137, z138, z139, z140, z141, z142, z143, z144, z145, z146, z147, z148, z149, z150, z151, z152, z153, z154, z155, z156, z157, z158, z159, z160, z161, z162, z163, z164, z165, z166, z167, z168, z169, z170, z171, z172, z173, z174, z175, z176, z177, z178, z179, z180, z181, z182, z183, z184, z185, z186, z187, z188, x189], []⟩ wx)
    (Hl : Hid (∀ W, Below w0.heap.size w0 W → Laid W)) (hni : (s.size : Int) ≤ 100000) (hI : I = (p : Int)) (hps : p < s.size) (HN : Hid (N = 61 ↔ (s.data.toList.drop (p + 1)).head? = some 61)) (h32 : ¬ c = 32)
    (hlc : s.data.toList[p]? = some c) (Hat0 : Hid (TAt W2 b ⟨0, p, [], 0, ⟨0, 0, ⟨#[]⟩, 0⟩⟩)) (Hbw0 : Hid (Below w0.heap.size w0 W2)) (hb0 : w0.heap.size ≤ b) (h61 : c = 61) :
    Code.wp Tryz.prog swCode (Exit.then K Q) ⟨#[.string s, x1, x2, x3, x4, x5, .int .i64 (I + 1), .int .u8 (c.toNat : Int), .int .i64 I, .int .u8 N, .pointer (some ⟨b, 0, none⟩), x11, x12, x13, x14, x15, x16, x17, x18, x19, x20, x21, x22, x23, x24, x25, x26, x27, x28, x29, x30, x31, x32, x33, x34, x35, .int .u8 (c.toNat : Int), x37, x38, x39, x40, x41, x42, x43, x44, x45, x46, x47, x48, x49, x50, x51, x52, x53, x54, x55, x56, x57, x58, x59, x60, x61, x62, x63, x64, x65, x66, x67, x68, x69, x70, x71, x72, x73, x74, x75, x76, x77, x78, x79, x80, x81, x82, x83, x84, x85, x86, x87, x88, x89, x90, x91, x92, x93, x94, x95, x96, x97, x98, x99, x100, x101, x102, x103, x104, x105, x106, x107, x108, x109, x110, x111, x112, x113, x114, x115, x116, x117, x118, x119, x120, x121, x122, x123, x124, x125, x126, x127, x128, x129, x130, x131, x132, x133, x134, x135, x136, x137, x138, x139, x140, x141, x142, x143, x144, x145, x146, x147, x148, x149, x150, x151, x152, x153, x154, x155, x156, x157, x158, x159, x160, x161, x162, x163, x164, x165, x166, x167, x168, x169, x170, x171, x172, x173, x174, x175, x176, x177, x178, x179, x180, x181, x182, x183, x184, x185, x186, x187, x188, x189], []⟩ W2 := by
  have Hlen : Hid (s.data.toList.length = s.size) := Lib.hid (Lib.size_eq s).symm
  have hInt := Lib.hid hI; have Hlc := Lib.hid hlc; have Hb0 := Lib.hid hb0
  have HK := Lib.hid hK; have Hret := Lib.hid hret
  have hI0 : 0 ≤ I := by omega
  have hI1 : I < (s.size : Int) := by omega
  have hni3 : I + 1 ≤ 100000 := by omega
  have hIj : I.toNat = p := by omega
  have htok := tokL_cons c (s.data.toList.drop (p + 1))
  rw [← (drop_at hlc).1] at htok
  have hz0 := Hat0.out.z 0; have hz2 := Hat0.out.z 2; have hz3 := Hat0.out.z 3
  have hc0 := Hat0.out.c0; have hc2 := Hat0.out.c2; have hc3 := Hat0.out.c3
  simp only at hc0 hc2 hc3
  clear hK hret hI hlc hb0
  have e32 : ((c.toNat : Int) == 32) = false := by rw [h61] <;> rfl
  have e40 : ((c.toNat : Int) == 40) = false := by rw [h61] <;> rfl
  have e41 : ((c.toNat : Int) == 41) = false := by rw [h61] <;> rfl
  have e61 : ((c.toNat : Int) == 61) = true := by rw [h61] <;> rfl
  have e33 : ((c.toNat : Int) == 33) = false := by rw [h61] <;> rfl
  have e60 : ((c.toNat : Int) == 60) = false := by rw [h61] <;> rfl
  have e62 : ((c.toNat : Int) == 62) = false := by rw [h61] <;> rfl
  have e36 : ((c.toNat : Int) == 36) = false := by rw [h61] <;> rfl
  have e0 : ((c.toNat : Int) != 33) = true := by rw [h61] <;> rfl
  have Ht := Lib.hid (show tokL (s.data.toList.drop p) = some ((Tk.plain 2 0), 1) from by rw [htok, h61]; rfl)
  clear htok h32 h61
  conv => arg 2; whnf
  go_wp2_with fail
  exact HK.out _ _ _ _ _ _ _ _ _ _ _ _ _ _ _ _ _ _ _ _ _ _ _ _ _ _ _ _ _ _ _ _ _ _ _ _ _ _ _ _ _ _ _ _ _ _ _ _ _ _ _ _ _ _ _ _ _ _ _ _ _ _ _ _ _ _ _ _ _ _ _ _ _ _ _ _ _ _ _ _ _ _ _ _ _ _ _ _ _ _ _ _ _ _ _ _ _ _ _ _ _ _ _ _ _ _ _ _ _ _ _ _ _ _ _ _ _ _ _ _ _ _ _ _ _ _ _ _ _ _ _ _ _ _ _ _ _ _ _ _ _ _ _ _ _ _ _ _ _ _ _ _ _ _ _ _ _ _ _ _ _ _ _ _ _ _ _ _ _ _ _ _ _ _ _ _ _ _ _ _ ⟨(Tk.plain 2 0), 1, _, rfl, ⟨Ht.out, by first | rfl | omega⟩, (Hat0.out.kind 2), (show Below w0.heap.size w0 (W2.setCell ⟨b, 0, none⟩ (.int .i64 2)) from Hbw0.out.setCell Hb0.out _)⟩
end Go.Proofs.YtfniehgggbobaaaGreatDoor
namespace Go.Proofs.YtfniehgggbobaaaGreatDoor
open Go.RowKit

set_option maxHeartbeats 32000000 in
set_option maxRecDepth 1000000 in
theorem sw33 (s : ByteArray) (p : Nat) (I N : Int) (c : UInt8) (b : Nat) (w0 W2 : World) (x1 x2 x3 x4 x5 x11 x12 x13 x14 x15 x16 x17 x18 x19 x20 x21 x22 x23 x24 x25 x26 x27 x28 x29 x30 x31 x32 x33 x34 x35 x37 x38 x39 x40 x41 x42 x43 x44 x45 x46 x47 x48 x49 x50 x51 x52 x53 x54 x55 x56 x57 x58 x59 x60 x61 x62 x63 x64 x65 x66 x67 x68 x69 x70 x71 x72 x73 x74 x75 x76 x77 x78 x79 x80 x81 x82 x83 x84 x85 x86 x87 x88 x89 x90 x91 x92 x93 x94 x95 x96 x97 x98 x99 x100 x101 x102 x103 x104 x105 x106 x107 x108 x109 x110 x111 x112 x113 x114 x115 x116 x117 x118 x119 x120 x121 x122 x123 x124 x125 x126 x127 x128 x129 x130 x131 x132 x133 x134 x135 x136 x137 x138 x139 x140 x141 x142 x143 x144 x145 x146 x147 x148 x149 x150 x151 x152 x153 x154 x155 x156 x157 x158 x159 x160 x161 x162 x163 x164 x165 x166 x167 x168 x169 x170 x171 x172 x173 x174 x175 x176 x177 x178 x179 x180 x181 x182 x183 x184 x185 x186 x187 x188 x189 : Value) (K : Act → World → Prop) (Q : Exit → Act → World → Prop)
    (hK : ∀ (i y2 y3 y4 y11 y12 y13 y17 y18 y19 y20 y21 y22 y23 y24 y25 y26 y27 y28 y29 y30 y31 y32 y33 y34 y35 y36 y37 y38 y39 y40 y41 y42 y43 y44 y45 y46 y47 y48 y49 y50 y51 y52 y53 y54 y55 y56 y57 y58 y59 y60 y61 y62 y63 y64 y65 y66 y67 y68 y69 y70 y71 y72 y73 y74 y75 y76 y77 y78 y79 y80 y81 y82 y83 y84 y85 y86 y87 y88 y89 y90 y91 y92 y93 y94 y95 y96 y97 y98 y99 y100 y101 y102 y103 y104 y105 y106 y107 y108 y109 y110 y111 y112 y113 y114 y115 y116 y117 y118 y119 y120 y121 y122 y123 y124 y125 y126 y127 y128 y129 y130 y131 y132 y133 y134 y135 y136 y137 y138 y139 y140 y141 y142 y143 y144 y145 y146 y147 y148 y149 y150 y151 y152 y153 y154 y155 y156 y157 y158 y159 y160 y161 y162 y163 y164 y165 y166 y167 y168 y169 y170 y171 y172 y173 y174 y175 y176 y177 y178 y179 y180 y181 y182 y183 y184 y185 y186 y187 y188 : Value) (wx : World), SwR s p I b w0 i wx → K ⟨#[.string s, x1, y2, y3, y4, x5, i, .int .u8 (c.toNat : Int), .int .i64 I, .int .u8 N, .pointer (some ⟨b, 0, none⟩), y11, y12, y13, x14, x15, x16, y17, y18, y19, y20, y21, y22, y23, y24, y25, y26, y27, y28, y29, y30, y31, y32, y33, y34, y35, y36, y37, y38, y39, y40, y41, y42, y43, y44, y45, y46, y47, y48, y49, y50, y51, y52, y53, y54, y55, y56, y57, y58, y59, y60, y61, y62, y63, y64, y65, y66, y67, y68, y69, y70, y71, y72, y73, y74, y75, y76, y77, y78, y79, y80, y81, y82, y83, y84, y85, y86, y87, y88, y89, y90, y91, y92, y93, y94, y95, y96, y97, y98, y99, y100, y101, y102, y103, y104, y105, y106, y107, y108, y109, y110, y111, y112, y113, y114, y115, y116, y117, y118, y119, y120, y121, y122, y123, y124, y125, y126, y127, y128, y129, y130, y131, y132, y133, y134, y135, y136, y137, y138, y139, y140, y141, y142, y143, y144, y145, y146, y147, y148, y149, y150, y151, y152, y153, y154, y155, y156, y157, y158, y159, y160, y161, y162, y163, y164, y165, y166, y167, y168, y169, y170, y171, y172, y173, y174, y175, y176, y177, y178, y179, y180, y181, y182, y183, y184, y185, y186, y187, y188, x189], []⟩ wx)
    (hret : ∀ (z6 z7 z8 z9 z10 z11 z12 z13 z17 z18 z19 z20 z21 z22 z23 z24 z25 z26 z27 z28 z29 z30 z31 z32 z33 z34 z35 z36 z37 z38 z39 z40 z41 z42 z43 z44 z45 z46 z47 z48 z49 z50 z51 z52 z53 z54 z55 z56 z57 z58 z59 z60 z61 z62 z63 z64 z65 z66 z67 z68 z69 z70 z71 z72 z73 z74 z75 z76 z77 z78 z79 z80 z81 z82 z83 z84 z85 z86 z87 z88 z89 z90 z91 z92 z93 z94 z95 z96 z97 z98 z99 z100 z101 z102 z103 z104 z105 z106 z107 z108 z109 z110 z111 z112 z113 z114 z115 z116 z117 z118 z119 z120 z121 z122 z123 z124 z125 z126 z127 z128 z129 z130 z131 z132 z133 z134 z135 z136 z137 z138 z139 z140 z141 z142 z143 z144 z145 z146 z147 z148 z149 z150 z151 z152 z153 z154 z155 z156 z157 z158 z159 z160 z161 z162 z163 z164 z165 z166 z167 z168 z169 z170 z171 z172 z173 z174 z175 z176 z177 z178 z179 z180 z181 z182 z183 z184 z185 z186 z187 z188 : Value) (wx : World), tokL (s.data.toList.drop p) = none → Below w0.heap.size w0 wx → Q .ret ⟨#[.string s, x1, .slice none 0 0, .int .i64 I, .bool false, x5, z6, z7, z8, z9, z10, z11, z12, z13, x14, x15, x16, z17, z18, z19, z20, z21, z22, z23, z24, z25, z26, z27, z28, z29, z30, z31, z32, z33, z34, z35, z36, z37, z38, z39, z40, z41, z42, z43, z44, z45, z46, z47, z48, z49, z50, z51, z52, z53, z54, z55, z56, z57, z58, z59, z60, z61, z62, z63, z64, z65, z66, z67, z68, z69, z70, z71, z72, z73, z74, z75, z76, z77, z78, z79, z80, z81, z82, z83, z84, z85, z86, z87, z88, z89, z90, z91, z92, z93, z94, z95, z96, z97, z98, z99, z100, z101, z102, z103, z104, z105, z106, z107, z108, z109, z110, z111, z112, z113, z114, z115, z116, z117, z118, z119, z120, z121, z122, z123, z124, z125, z126, z127, z128, z129, z130, z131, z132, z133, z134, z135, z136, z137, z138, z139, z140, z141, z142, z143, z144, z145, z146, z147, z148, z149, z150, z151, z152, z153, z154, z155, z156, z157, z158, z159, z160, z161, z162, z163, z164, z165, z166, z167, z168, z169, z170, z171, z172, z173, z174, z175, z176, z177, z178, z179, z180, z181, z182, z183, z184, z185, z186, z187, z188, x189], []⟩ wx)
    (Hl : Hid (∀ W, Below w0.heap.size w0 W → Laid W)) (hni : (s.size : Int) ≤ 100000) (hI : I = (p : Int)) (hps : p < s.size) (HN : Hid (N = 61 ↔ (s.data.toList.drop (p + 1)).head? = some 61)) (h32 : ¬ c = 32)
    (hlc : s.data.toList[p]? = some c) (Hat0 : Hid (TAt W2 b ⟨0, p, [], 0, ⟨0, 0, ⟨#[]⟩, 0⟩⟩)) (Hbw0 : Hid (Below w0.heap.size w0 W2)) (hb0 : w0.heap.size ≤ b) (h33 : c = 33) :
    Code.wp Tryz.prog swCode (Exit.then K Q) ⟨#[.string s, x1, x2, x3, x4, x5, .int .i64 (I + 1), .int .u8 (c.toNat : Int), .int .i64 I, .int .u8 N, .pointer (some ⟨b, 0, none⟩), x11, x12, x13, x14, x15, x16, x17, x18, x19, x20, x21, x22, x23, x24, x25, x26, x27, x28, x29, x30, x31, x32, x33, x34, x35, .int .u8 (c.toNat : Int), x37, x38, x39, x40, x41, x42, x43, x44, x45, x46, x47, x48, x49, x50, x51, x52, x53, x54, x55, x56, x57, x58, x59, x60, x61, x62, x63, x64, x65, x66, x67, x68, x69, x70, x71, x72, x73, x74, x75, x76, x77, x78, x79, x80, x81, x82, x83, x84, x85, x86, x87, x88, x89, x90, x91, x92, x93, x94, x95, x96, x97, x98, x99, x100, x101, x102, x103, x104, x105, x106, x107, x108, x109, x110, x111, x112, x113, x114, x115, x116, x117, x118, x119, x120, x121, x122, x123, x124, x125, x126, x127, x128, x129, x130, x131, x132, x133, x134, x135, x136, x137, x138, x139, x140, x141, x142, x143, x144, x145, x146, x147, x148, x149, x150, x151, x152, x153, x154, x155, x156, x157, x158, x159, x160, x161, x162, x163, x164, x165, x166, x167, x168, x169, x170, x171, x172, x173, x174, x175, x176, x177, x178, x179, x180, x181, x182, x183, x184, x185, x186, x187, x188, x189], []⟩ W2 := by
  have Hlen : Hid (s.data.toList.length = s.size) := Lib.hid (Lib.size_eq s).symm
  have hInt := Lib.hid hI; have Hlc := Lib.hid hlc; have Hb0 := Lib.hid hb0
  have HK := Lib.hid hK; have Hret := Lib.hid hret
  have hI0 : 0 ≤ I := by omega
  have hI1 : I < (s.size : Int) := by omega
  have hni3 : I + 1 ≤ 100000 := by omega
  have hIj : I.toNat = p := by omega
  have htok := tokL_cons c (s.data.toList.drop (p + 1))
  rw [← (drop_at hlc).1] at htok
  have hz0 := Hat0.out.z 0; have hz2 := Hat0.out.z 2; have hz3 := Hat0.out.z 3
  have hc0 := Hat0.out.c0; have hc2 := Hat0.out.c2; have hc3 := Hat0.out.c3
  simp only at hc0 hc2 hc3
  clear hK hret hI hlc hb0
  have e32 : ((c.toNat : Int) == 32) = false := by rw [h33] <;> rfl
  have e40 : ((c.toNat : Int) == 40) = false := by rw [h33] <;> rfl
  have e41 : ((c.toNat : Int) == 41) = false := by rw [h33] <;> rfl
  have e61 : ((c.toNat : Int) == 61) = false := by rw [h33] <;> rfl
  have e33 : ((c.toNat : Int) == 33) = true := by rw [h33] <;> rfl
  have e60 : ((c.toNat : Int) == 60) = false := by rw [h33] <;> rfl
  have e62 : ((c.toNat : Int) == 62) = false := by rw [h33] <;> rfl
  have e36 : ((c.toNat : Int) == 36) = false := by rw [h33] <;> rfl
  have e0 : ((c.toNat : Int) != 33) = false := by rw [h33] <;> rfl
  by_cases h9 : (s.data.toList.drop (p + 1)).head? = some 61
  · obtain rfl : N = 61 := HN.out.2 h9
    have Ht := Lib.hid (show tokL (s.data.toList.drop p) = some (Tk.plain 2 1, 2) from by rw [htok, h33, h9]; rfl)
    clear htok h32 h33 h9
    conv => arg 2; whnf
    go_wp2_with fail
    exact HK.out _ _ _ _ _ _ _ _ _ _ _ _ _ _ _ _ _ _ _ _ _ _ _ _ _ _ _ _ _ _ _ _ _ _ _ _ _ _ _ _ _ _ _ _ _ _ _ _ _ _ _ _ _ _ _ _ _ _ _ _ _ _ _ _ _ _ _ _ _ _ _ _ _ _ _ _ _ _ _ _ _ _ _ _ _ _ _ _ _ _ _ _ _ _ _ _ _ _ _ _ _ _ _ _ _ _ _ _ _ _ _ _ _ _ _ _ _ _ _ _ _ _ _ _ _ _ _ _ _ _ _ _ _ _ _ _ _ _ _ _ _ _ _ _ _ _ _ _ _ _ _ _ _ _ _ _ _ _ _ _ _ _ _ _ _ _ _ _ _ _ _ _ _ _ _ _ _ _ _ _ ⟨(Tk.plain 2 1), 2, _, rfl, ⟨Ht.out, by first | rfl | omega⟩, ((Hat0.out.kind 2).oper 1), (show Below w0.heap.size w0 ((W2.setCell ⟨b, 0, none⟩ (.int .i64 2)).setCell ⟨b, 3, none⟩ (.int .i64 1)) from (show Below w0.heap.size w0 (W2.setCell ⟨b, 0, none⟩ (.int .i64 2)) from Hbw0.out.setCell Hb0.out _).setCell Hb0.out _)⟩
  · have hN : (N == 61) = false := beq_eq_false_iff_ne.2 fun e => h9 (HN.out.1 e)
    have He := Lib.hid (show tokL (s.data.toList.drop p) = none from by rw [htok, h33, if_neg (by decide), if_pos rfl, if_neg h9])
    clear htok h32 h33 h9
    conv => arg 2; whnf
    go_wp2_with fail
    exact Hret.out _ _ _ _ _ _ _ _ _ _ _ _ _ _ _ _ _ _ _ _ _ _ _ _ _ _ _ _ _ _ _ _ _ _ _ _ _ _ _ _ _ _ _ _ _ _ _ _ _ _ _ _ _ _ _ _ _ _ _ _ _ _ _ _ _ _ _ _ _ _ _ _ _ _ _ _ _ _ _ _ _ _ _ _ _ _ _ _ _ _ _ _ _ _ _ _ _ _ _ _ _ _ _ _ _ _ _ _ _ _ _ _ _ _ _ _ _ _ _ _ _ _ _ _ _ _ _ _ _ _ _ _ _ _ _ _ _ _ _ _ _ _ _ _ _ _ _ _ _ _ _ _ _ _ _ _ _ _ _ _ _ _ _ _ _ _ _ _ _ _ _ _ _ _ _ _ _ _ _ _ _ He.out ((Hbw0.out.setCell Hb0.out _).setCell Hb0.out _)
end Go.Proofs.YtfniehgggbobaaaGreatDoor
namespace Go.Proofs.YtfniehgggbobaaaGreatDoor
open Go.RowKit

set_option maxHeartbeats 32000000 in
set_option maxRecDepth 1000000 in
theorem sw60 (s : ByteArray) (p : Nat) (I N : Int) (c : UInt8) (b : Nat) (w0 W2 : World) (x1 x2 x3 x4 x5 x11 x12 x13 x14 x15 x16 x17 x18 x19 x20 x21 x22 x23 x24 x25 x26 x27 x28 x29 x30 x31 x32 x33 x34 x35 x37 x38 x39 x40 x41 x42 x43 x44 x45 x46 x47 x48 x49 x50 x51 x52 x53 x54 x55 x56 x57 x58 x59 x60 x61 x62 x63 x64 x65 x66 x67 x68 x69 x70 x71 x72 x73 x74 x75 x76 x77 x78 x79 x80 x81 x82 x83 x84 x85 x86 x87 x88 x89 x90 x91 x92 x93 x94 x95 x96 x97 x98 x99 x100 x101 x102 x103 x104 x105 x106 x107 x108 x109 x110 x111 x112 x113 x114 x115 x116 x117 x118 x119 x120 x121 x122 x123 x124 x125 x126 x127 x128 x129 x130 x131 x132 x133 x134 x135 x136 x137 x138 x139 x140 x141 x142 x143 x144 x145 x146 x147 x148 x149 x150 x151 x152 x153 x154 x155 x156 x157 x158 x159 x160 x161 x162 x163 x164 x165 x166 x167 x168 x169 x170 x171 x172 x173 x174 x175 x176 x177 x178 x179 x180 x181 x182 x183 x184 x185 x186 x187 x188 x189 : Value) (K : Act → World → Prop) (Q : Exit → Act → World → Prop)
    (hK : ∀ (i y2 y3 y4 y11 y12 y13 y17 y18 y19 y20 y21 y22 y23 y24 y25 y26 y27 y28 y29 y30 y31 y32 y33 y34 y35 y36 y37 y38 y39 y40 y41 y42 y43 y44 y45 y46 y47 y48 y49 y50 y51 y52 y53 y54 y55 y56 y57 y58 y59 y60 y61 y62 y63 y64 y65 y66 y67 y68 y69 y70 y71 y72 y73 y74 y75 y76 y77 y78 y79 y80 y81 y82 y83 y84 y85 y86 y87 y88 y89 y90 y91 y92 y93 y94 y95 y96 y97 y98 y99 y100 y101 y102 y103 y104 y105 y106 y107 y108 y109 y110 y111 y112 y113 y114 y115 y116 y117 y118 y119 y120 y121 y122 y123 y124 y125 y126 y127 y128 y129 y130 y131 y132 y133 y134 y135 y136 y137 y138 y139 y140 y141 y142 y143 y144 y145 y146 y147 y148 y149 y150 y151 y152 y153 y154 y155 y156 y157 y158 y159 y160 y161 y162 y163 y164 y165 y166 y167 y168 y169 y170 y171 y172 y173 y174 y175 y176 y177 y178 y179 y180 y181 y182 y183 y184 y185 y186 y187 y188 : Value) (wx : World), SwR s p I b w0 i wx → K ⟨#[.string s, x1, y2, y3, y4, x5, i, .int .u8 (c.toNat : Int), .int .i64 I, .int .u8 N, .pointer (some ⟨b, 0, none⟩), y11, y12, y13, x14, x15, x16, y17, y18, y19, y20, y21, y22, y23, y24, y25, y26, y27, y28, y29, y30, y31, y32, y33, y34, y35, y36, y37, y38, y39, y40, y41, y42, y43, y44, y45, y46, y47, y48, y49, y50, y51, y52, y53, y54, y55, y56, y57, y58, y59, y60, y61, y62, y63, y64, y65, y66, y67, y68, y69, y70, y71, y72, y73, y74, y75, y76, y77, y78, y79, y80, y81, y82, y83, y84, y85, y86, y87, y88, y89, y90, y91, y92, y93, y94, y95, y96, y97, y98, y99, y100, y101, y102, y103, y104, y105, y106, y107, y108, y109, y110, y111, y112, y113, y114, y115, y116, y117, y118, y119, y120, y121, y122, y123, y124, y125, y126, y127, y128, y129, y130, y131, y132, y133, y134, y135, y136, y137, y138, y139, y140, y141, y142, y143, y144, y145, y146, y147, y148, y149, y150, y151, y152, y153, y154, y155, y156, y157, y158, y159, y160, y161, y162, y163, y164, y165, y166, y167, y168, y169, y170, y171, y172, y173, y174, y175, y176, y177, y178, y179, y180, y181, y182, y183, y184, y185, y186, y187, y188, x189], []⟩ wx)
    (hret : ∀ (z6 z7 z8 z9 z10 z11 z12 z13 z17 z18 z19 z20 z21 z22 z23 z24 z25 z26 z27 z28 z29 z30 z31 z32 z33 z34 z35 z36 z37 z38 z39 z40 z41 z42 z43 z44 z45 z46 z47 z48 z49 z50 z51 z52 z53 z54 z55 z56 z57 z58 z59 z60 z61 z62 z63 z64 z65 z66 z67 z68 z69 z70 z71 z72 z73 z74 z75 z76 z77 z78 z79 z80 z81 z82 z83 z84 z85 z86 z87 z88 z89 z90 z91 z92 z93 z94 z95 z96 z97 z98 z99 z100 z101 z102 z103 z104 z105 z106 z107 z108 z109 z110 z111 z112 z113 z114 z115 z116 z117 z118 z119 z120 z121 z122 z123 z124 z125 z126 z127 z128 z129 z130 z131 z132 z133 z134 z135 z136 z137 z138 z139 z140 z141 z142 z143 z144 z145 z146 z147 z148 z149 z150 z151 z152 z153 z154 z155 z156 z157 z158 z159 z160 z161 z162 z163 z164 z165 z166 z167 z168 z169 z170 z171 z172 z173 z174 z175 z176 z177 z178 z179 z180 z181 z182 z183 z184 z185 z186 z187 z188 : Value) (wx : World), tokL (s.data.toList.drop p) = none → Below w0.heap.size w0 wx → Q .ret ⟨#[.string s, x1, .slice none 0 0, .int .i64 I, .bool false, x5, z6, z7, z8, z9, z10, z11, z12, z13, x14, x15, x16, z17, z18, z19, z20, z21, z22, z23, z24, z25, z26, z27, z28, z29, z30, z31, z32, z33, z34, z35, z36, z37, z38, z39, z40, z41, z42, z43, z44, z45, z46, z47, z48, z49, z50, z51, z52, z53, z54, z55, z56, z57, z58, z59, z60, z61, z62, z63, z64, z65, z66, z67, z68, z69, z70, z71, z72, z73, z74, z75, z76, z77, z78, z79, z80, z81, z82, z83, z84, z85, z86, z87, z88, z89, z90, z91, z92, z93, z94, z95, z96, z97, z98, z99, z100, z101, z102, z103, z104, z105, z106, z107, z108, z109, z110, z111, z112, z113, z114, z115, z116, z117, z118, z119, z120, z121, z122, z123, z124, z125, z126, z127, z128, z129, z130, z131, z132, z133, z134, z135, z136, z137, z138, z139, z140, z141, z142, z143, z144, z145, z146, z147, z148, z149, z150, z151, z152, z153, z154, z155, z156, z157, z158, z159, z160, z161, z162, z163, z164, z165, z166, z167, z168, z169, z170, z171, z172, z173, z174, z175, z176, z177, z178, z179, z180, z181, z182, z183, z184, z185, z186, z187, z188, x189], []⟩ wx)
    (Hl : Hid (∀ W, Below w0.heap.size w0 W → Laid W)) (hni : (s.size : Int) ≤ 100000) (hI : I = (p : Int)) (hps : p < s.size) (HN : Hid (N = 61 ↔ (s.data.toList.drop (p + 1)).head? = some 61)) (h32 : ¬ c = 32)
    (hlc : s.data.toList[p]? = some c) (Hat0 : Hid (TAt W2 b ⟨0, p, [], 0, ⟨0, 0, ⟨#[]⟩, 0⟩⟩)) (Hbw0 : Hid (Below w0.heap.size w0 W2)) (hb0 : w0.heap.size ≤ b) (h60 : c = 60) :
    Code.wp Tryz.prog swCode (Exit.then K Q) ⟨#[.string s, x1, x2, x3, x4, x5, .int .i64 (I + 1), .int .u8 (c.toNat : Int), .int .i64 I, .int .u8 N, .pointer (some ⟨b, 0, none⟩), x11, x12, x13, x14, x15, x16, x17, x18, x19, x20, x21, x22, x23, x24, x25, x26, x27, x28, x29, x30, x31, x32, x33, x34, x35, .int .u8 (c.toNat : Int), x37, x38, x39, x40, x41, x42, x43, x44, x45, x46, x47, x48, x49, x50, x51, x52, x53, x54, x55, x56, x57, x58, x59, x60, x61, x62, x63, x64, x65, x66, x67, x68, x69, x70, x71, x72, x73, x74, x75, x76, x77, x78, x79, x80, x81, x82, x83, x84, x85, x86, x87, x88, x89, x90, x91, x92, x93, x94, x95, x96, x97, x98, x99, x100, x101, x102, x103, x104, x105, x106, x107, x108, x109, x110, x111, x112, x113, x114, x115, x116, x117, x118, x119, x120, x121, x122, x123, x124, x125, x126, x127, x128, x129, x130, x131, x132, x133, x134, x135, x136, x137, x138, x139, x140, x141, x142, x143, x144, x145, x146, x147, x148, x149, x150, x151, x152, x153, x154, x155, x156, x157, x158, x159, x160, x161, x162, x163, x164, x165, x166, x167, x168, x169, x170, x171, x172, x173, x174, x175, x176, x177, x178, x179, x180, x181, x182, x183, x184, x185, x186, x187, x188, x189], []⟩ W2 := by
  have Hlen : Hid (s.data.toList.length = s.size) := Lib.hid (Lib.size_eq s).symm
  have hInt := Lib.hid hI; have Hlc := Lib.hid hlc; have Hb0 := Lib.hid hb0
  have HK := Lib.hid hK; have Hret := Lib.hid hret
  have hI0 : 0 ≤ I := by omega
  have hI1 : I < (s.size : Int) := by omega
  have hni3 : I + 1 ≤ 100000 := by omega
  have hIj : I.toNat = p := by omega
  have htok := tokL_cons c (s.data.toList.drop (p + 1))
  rw [← (drop_at hlc).1] at htok
  have hz0 := Hat0.out.z 0; have hz2 := Hat0.out.z 2; have hz3 := Hat0.out.z 3
  have hc0 := Hat0.out.c0; have hc2 := Hat0.out.c2; have hc3 := Hat0.out.c3
  simp only at hc0 hc2 hc3
  clear hK hret hI hlc hb0
  have e32 : ((c.toNat : Int) == 32) = false := by rw [h60] <;> rfl
  have e40 : ((c.toNat : Int) == 40) = false := by rw [h60] <;> rfl
  have e41 : ((c.toNat : Int) == 41) = false := by rw [h60] <;> rfl
  have e61 : ((c.toNat : Int) == 61) = false := by rw [h60] <;> rfl
  have e33 : ((c.toNat : Int) == 33) = false := by rw [h60] <;> rfl
  have e60 : ((c.toNat : Int) == 60) = true := by rw [h60] <;> rfl
  have e62 : ((c.toNat : Int) == 62) = false := by rw [h60] <;> rfl
  have e36 : ((c.toNat : Int) == 36) = false := by rw [h60] <;> rfl
  have e0 : ((c.toNat : Int) != 33) = true := by rw [h60] <;> rfl
  by_cases h9 : (s.data.toList.drop (p + 1)).head? = some 61
  · obtain rfl : N = 61 := HN.out.2 h9
    have Ht := Lib.hid (show tokL (s.data.toList.drop p) = some (Tk.plain 2 3, 2) from by rw [htok, h60, h9]; rfl)
    clear htok h32 h60 h9
    conv => arg 2; whnf
    go_wp2_with fail
    exact HK.out _ _ _ _ _ _ _ _ _ _ _ _ _ _ _ _ _ _ _ _ _ _ _ _ _ _ _ _ _ _ _ _ _ _ _ _ _ _ _ _ _ _ _ _ _ _ _ _ _ _ _ _ _ _ _ _ _ _ _ _ _ _ _ _ _ _ _ _ _ _ _ _ _ _ _ _ _ _ _ _ _ _ _ _ _ _ _ _ _ _ _ _ _ _ _ _ _ _ _ _ _ _ _ _ _ _ _ _ _ _ _ _ _ _ _ _ _ _ _ _ _ _ _ _ _ _ _ _ _ _ _ _ _ _ _ _ _ _ _ _ _ _ _ _ _ _ _ _ _ _ _ _ _ _ _ _ _ _ _ _ _ _ _ _ _ _ _ _ _ _ _ _ _ _ _ _ _ _ _ _ ⟨(Tk.plain 2 3), 2, _, rfl, ⟨Ht.out, by first | rfl | omega⟩, (((Hat0.out.kind 2).oper 2).oper 3), (show Below w0.heap.size w0 (((W2.setCell ⟨b, 0, none⟩ (.int .i64 2)).setCell ⟨b, 3, none⟩ (.int .i64 2)).setCell ⟨b, 3, none⟩ (.int .i64 3)) from (show Below w0.heap.size w0 ((W2.setCell ⟨b, 0, none⟩ (.int .i64 2)).setCell ⟨b, 3, none⟩ (.int .i64 2)) from (show Below w0.heap.size w0 (W2.setCell ⟨b, 0, none⟩ (.int .i64 2)) from Hbw0.out.setCell Hb0.out _).setCell Hb0.out _).setCell Hb0.out _)⟩
  · have hN : (N == 61) = false := beq_eq_false_iff_ne.2 fun e => h9 (HN.out.1 e)
    have Ht := Lib.hid (show tokL (s.data.toList.drop p) = some (Tk.plain 2 2, 1) from by rw [htok, h60, if_neg (by decide), if_neg (by decide), if_pos rfl, if_neg h9])
    clear htok h32 h60 h9
    conv => arg 2; whnf
    go_wp2_with fail
    exact HK.out _ _ _ _ _ _ _ _ _ _ _ _ _ _ _ _ _ _ _ _ _ _ _ _ _ _ _ _ _ _ _ _ _ _ _ _ _ _ _ _ _ _ _ _ _ _ _ _ _ _ _ _ _ _ _ _ _ _ _ _ _ _ _ _ _ _ _ _ _ _ _ _ _ _ _ _ _ _ _ _ _ _ _ _ _ _ _ _ _ _ _ _ _ _ _ _ _ _ _ _ _ _ _ _ _ _ _ _ _ _ _ _ _ _ _ _ _ _ _ _ _ _ _ _ _ _ _ _ _ _ _ _ _ _ _ _ _ _ _ _ _ _ _ _ _ _ _ _ _ _ _ _ _ _ _ _ _ _ _ _ _ _ _ _ _ _ _ _ _ _ _ _ _ _ _ _ _ _ _ _ ⟨(Tk.plain 2 2), 1, _, rfl, ⟨Ht.out, by first | rfl | omega⟩, ((Hat0.out.kind 2).oper 2), (show Below w0.heap.size w0 ((W2.setCell ⟨b, 0, none⟩ (.int .i64 2)).setCell ⟨b, 3, none⟩ (.int .i64 2)) from (show Below w0.heap.size w0 (W2.setCell ⟨b, 0, none⟩ (.int .i64 2)) from Hbw0.out.setCell Hb0.out _).setCell Hb0.out _)⟩
end Go.Proofs.YtfniehgggbobaaaGreatDoor
namespace Go.Proofs.YtfniehgggbobaaaGreatDoor
open Go.RowKit

set_option maxHeartbeats 32000000 in
set_option maxRecDepth 1000000 in
theorem sw62 (s : ByteArray) (p : Nat) (I N : Int) (c : UInt8) (b : Nat) (w0 W2 : World) (x1 x2 x3 x4 x5 x11 x12 x13 x14 x15 x16 x17 x18 x19 x20 x21 x22 x23 x24 x25 x26 x27 x28 x29 x30 x31 x32 x33 x34 x35 x37 x38 x39 x40 x41 x42 x43 x44 x45 x46 x47 x48 x49 x50 x51 x52 x53 x54 x55 x56 x57 x58 x59 x60 x61 x62 x63 x64 x65 x66 x67 x68 x69 x70 x71 x72 x73 x74 x75 x76 x77 x78 x79 x80 x81 x82 x83 x84 x85 x86 x87 x88 x89 x90 x91 x92 x93 x94 x95 x96 x97 x98 x99 x100 x101 x102 x103 x104 x105 x106 x107 x108 x109 x110 x111 x112 x113 x114 x115 x116 x117 x118 x119 x120 x121 x122 x123 x124 x125 x126 x127 x128 x129 x130 x131 x132 x133 x134 x135 x136 x137 x138 x139 x140 x141 x142 x143 x144 x145 x146 x147 x148 x149 x150 x151 x152 x153 x154 x155 x156 x157 x158 x159 x160 x161 x162 x163 x164 x165 x166 x167 x168 x169 x170 x171 x172 x173 x174 x175 x176 x177 x178 x179 x180 x181 x182 x183 x184 x185 x186 x187 x188 x189 : Value) (K : Act → World → Prop) (Q : Exit → Act → World → Prop)
    (hK : ∀ (i y2 y3 y4 y11 y12 y13 y17 y18 y19 y20 y21 y22 y23 y24 y25 y26 y27 y28 y29 y30 y31 y32 y33 y34 y35 y36 y37 y38 y39 y40 y41 y42 y43 y44 y45 y46 y47 y48 y49 y50 y51 y52 y53 y54 y55 y56 y57 y58 y59 y60 y61 y62 y63 y64 y65 y66 y67 y68 y69 y70 y71 y72 y73 y74 y75 y76 y77 y78 y79 y80 y81 y82 y83 y84 y85 y86 y87 y88 y89 y90 y91 y92 y93 y94 y95 y96 y97 y98 y99 y100 y101 y102 y103 y104 y105 y106 y107 y108 y109 y110 y111 y112 y113 y114 y115 y116 y117 y118 y119 y120 y121 y122 y123 y124 y125 y126 y127 y128 y129 y130 y131 y132 y133 y134 y135 y136 y137 y138 y139 y140 y141 y142 y143 y144 y145 y146 y147 y148 y149 y150 y151 y152 y153 y154 y155 y156 y157 y158 y159 y160 y161 y162 y163 y164 y165 y166 y167 y168 y169 y170 y171 y172 y173 y174 y175 y176 y177 y178 y179 y180 y181 y182 y183 y184 y185 y186 y187 y188 : Value) (wx : World), SwR s p I b w0 i wx → K ⟨#[.string s, x1, y2, y3, y4, x5, i, .int .u8 (c.toNat : Int), .int .i64 I, .int .u8 N, .pointer (some ⟨b, 0, none⟩), y11, y12, y13, x14, x15, x16, y17, y18, y19, y20, y21, y22, y23, y24, y25, y26, y27, y28, y29, y30, y31, y32, y33, y34, y35, y36, y37, y38, y39, y40, y41, y42, y43, y44, y45, y46, y47, y48, y49, y50, y51, y52, y53, y54, y55, y56, y57, y58, y59, y60, y61, y62, y63, y64, y65, y66, y67, y68, y69, y70, y71, y72, y73, y74, y75, y76, y77, y78, y79, y80, y81, y82, y83, y84, y85, y86, y87, y88, y89, y90, y91, y92, y93, y94, y95, y96, y97, y98, y99, y100, y101, y102, y103, y104, y105, y106, y107, y108, y109, y110, y111, y112, y113, y114, y115, y116, y117, y118, y119, y120, y121, y122, y123, y124, y125, y126, y127, y128, y129, y130, y131, y132, y133, y134, y135, y136, y137, y138, y139, y140, y141, y142, y143, y144, y145, y146, y147, y148, y149, y150, y151, y152, y153, y154, y155, y156, y157, y158, y159, y160, y161, y162, y163, y164, y165, y166, y167, y168, y169, y170, y171, y172, y173, y174, y175, y176, y177, y178, y179, y180, y181, y182, y183, y184, y185, y186, y187, y188, x189], []⟩ wx)
    (hret : ∀ (z6 z7 z8 z9 z10 z11 z12 z13 z17 z18 z19 z20 z21 z22 z23 z24 z25 z26 z27 z28 z29 z30 z31 z32 z33 z34 z35 z36 z37 z38 z39 z40 z41 z42 z43 z44 z45 z46 z47 z48 z49 z50 z51 z52 z53 z54 z55 z56 z57 z58 z59 z60 z61 z62 z63 z64 z65 z66 z67 z68 z69 z70 z71 z72 z73 z74 z75 z76 z77 z78 z79 z80 z81 z82 z83 z84 z85 z86 z87 z88 z89 z90 z91 z92 z93 z94 z95 z96 z97 z98 z99 z100 z101 z102 z103 z104 z105 z106 z107 z108 z109 z110 z111 z112 z113 z114 z115 z116 z117 z118 z119 z120 z121 z122 z123 z124 z125 z126 z127 z128 z129 z130 z131 z132 z133 z134 z135 z136 z137 z138 z139 z140 z141 z142 z143 z144 z145 z146 z147 z148 z149 z150 z151 z152 z153 z154 z155 z156 z157 z158 z159 z160 z161 z162 z163 z164 z165 z166 z167 z168 z169 z170 z171 z172 z173 z174 z175 z176 z177 z178 z179 z180 z181 z182 z183 z184 z185 z186 z187 z188 : Value) (wx : World), tokL (s.data.toList.drop p) = none → Below w0.heap.size w0 wx → Q .ret ⟨#[.string s, x1, .slice none 0 0, .int .i64 I, .bool false, x5, z6, z7, z8, z9, z10, z11, z12, z13, x14, x15, x16, z17, z18, z19, z20, z21, z22, z23, z24, z25, z26, z27, z28, z29, z30, z31, z32, z33, z34, z35, z36, z37, z38, z39, z40, z41, z42, z43, z44, z45, z46, z47, z48, z49, z50, z51, z52, z53, z54, z55, z56, z57, z58, z59, z60, z61, z62, z63, z64, z65, z66, z67, z68, z69, z70, z71, z72, z73, z74, z75, z76, z77, z78, z79, z80, z81, z82, z83, z84, z85, z86, z87, z88, z89, z90, z91, z92, z93, z94, z95, z96, z97, z98, z99, z100, z101, z102, z103, z104, z105, z106, z107, z108, z109, z110, z111, z112, z113, z114, z115, z116, z117, z118, z119, z120, z121, z122, z123, z124, z125, z126, z127, z128, z129, z130, z131, z132, z133, z134, z135, z136, z137, z138, z139, z140, z141, z142, z143, z144, z145, z146, z147, z148, z149, z150, z151, z152, z153, z154, z155, z156, z157, z158, z159, z160, z161, z162, z163, z164, z165, z166, z167, z168, z169, z170, z171, z172, z173, z174, z175, z176, z177, z178, z179, z180, z181, z182, z183, z184, z185, z186, z187, z188, x189], []⟩ wx)
    (Hl : Hid (∀ W, Below w0.heap.size w0 W → Laid W)) (hni : (s.size : Int) ≤ 100000) (hI : I = (p : Int)) (hps : p < s.size) (HN : Hid (N = 61 ↔ (s.data.toList.drop (p + 1)).head? = some 61)) (h32 : ¬ c = 32)
    (hlc : s.data.toList[p]? = some c) (Hat0 : Hid (TAt W2 b ⟨0, p, [], 0, ⟨0, 0, ⟨#[]⟩, 0⟩⟩)) (Hbw0 : Hid (Below w0.heap.size w0 W2)) (hb0 : w0.heap.size ≤ b) (h62 : c = 62) :
    Code.wp Tryz.prog swCode (Exit.then K Q) ⟨#[.string s, x1, x2, x3, x4, x5, .int .i64 (I + 1), .int .u8 (c.toNat : Int), .int .i64 I, .int .u8 N, .pointer (some ⟨b, 0, none⟩), x11, x12, x13, x14, x15, x16, x17, x18, x19, x20, x21, x22, x23, x24, x25, x26, x27, x28, x29, x30, x31, x32, x33, x34, x35, .int .u8 (c.toNat : Int), x37, x38, x39, x40, x41, x42, x43, x44, x45, x46, x47, x48, x49, x50, x51, x52, x53, x54, x55, x56, x57, x58, x59, x60, x61, x62, x63, x64, x65, x66, x67, x68, x69, x70, x71, x72, x73, x74, x75, x76, x77, x78, x79, x80, x81, x82, x83, x84, x85, x86, x87, x88, x89, x90, x91, x92, x93, x94, x95, x96, x97, x98, x99, x100, x101, x102, x103, x104, x105, x106, x107, x108, x109, x110, x111, x112, x113, x114, x115, x116, x117, x118, x119, x120, x121, x122, x123, x124, x125, x126, x127, x128, x129, x130, x131, x132, x133, x134, x135, x136, x137, x138, x139, x140, x141, x142, x143, x144, x145, x146, x147, x148, x149, x150, x151, x152, x153, x154, x155, x156, x157, x158, x159, x160, x161, x162, x163, x164, x165, x166, x167, x168, x169, x170, x171, x172, x173, x174, x175, x176, x177, x178, x179, x180, x181, x182, x183, x184, x185, x186, x187, x188, x189], []⟩ W2 := by
  have Hlen : Hid (s.data.toList.length = s.size) := Lib.hid (Lib.size_eq s).symm
  have hInt := Lib.hid hI; have Hlc := Lib.hid hlc; have Hb0 := Lib.hid hb0
  have HK := Lib.hid hK; have Hret := Lib.hid hret
  have hI0 : 0 ≤ I := by omega
  have hI1 : I < (s.size : Int) := by omega
  have hni3 : I + 1 ≤ 100000 := by omega
  have hIj : I.toNat = p := by omega
  have htok := tokL_cons c (s.data.toList.drop (p + 1))
  rw [← (drop_at hlc).1] at htok
  have hz0 := Hat0.out.z 0; have hz2 := Hat0.out.z 2; have hz3 := Hat0.out.z 3
  have hc0 := Hat0.out.c0; have hc2 := Hat0.out.c2; have hc3 := Hat0.out.c3
  simp only at hc0 hc2 hc3
  clear hK hret hI hlc hb0
  have e32 : ((c.toNat : Int) == 32) = false := by rw [h62] <;> rfl
  have e40 : ((c.toNat : Int) == 40) = false := by rw [h62] <;> rfl
  have e41 : ((c.toNat : Int) == 41) = false := by rw [h62] <;> rfl
  have e61 : ((c.toNat : Int) == 61) = false := by rw [h62] <;> rfl
  have e33 : ((c.toNat : Int) == 33) = false := by rw [h62] <;> rfl
  have e60 : ((c.toNat : Int) == 60) = false := by rw [h62] <;> rfl
  have e62 : ((c.toNat : Int) == 62) = true := by rw [h62] <;> rfl
  have e36 : ((c.toNat : Int) == 36) = false := by rw [h62] <;> rfl
  have e0 : ((c.toNat : Int) != 33) = true := by rw [h62] <;> rfl
  by_cases h9 : (s.data.toList.drop (p + 1)).head? = some 61
  · obtain rfl : N = 61 := HN.out.2 h9
    have Ht := Lib.hid (show tokL (s.data.toList.drop p) = some (Tk.plain 2 5, 2) from by rw [htok, h62, h9]; rfl)
    clear htok h32 h62 h9
    conv => arg 2; whnf
    go_wp2_with fail
    exact HK.out _ _ _ _ _ _ _ _ _ _ _ _ _ _ _ _ _ _ _ _ _ _ _ _ _ _ _ _ _ _ _ _ _ _ _ _ _ _ _ _ _ _ _ _ _ _ _ _ _ _ _ _ _ _ _ _ _ _ _ _ _ _ _ _ _ _ _ _ _ _ _ _ _ _ _ _ _ _ _ _ _ _ _ _ _ _ _ _ _ _ _ _ _ _ _ _ _ _ _ _ _ _ _ _ _ _ _ _ _ _ _ _ _ _ _ _ _ _ _ _ _ _ _ _ _ _ _ _ _ _ _ _ _ _ _ _ _ _ _ _ _ _ _ _ _ _ _ _ _ _ _ _ _ _ _ _ _ _ _ _ _ _ _ _ _ _ _ _ _ _ _ _ _ _ _ _ _ _ _ _ ⟨(Tk.plain 2 5), 2, _, rfl, ⟨Ht.out, by first | rfl | omega⟩, (((Hat0.out.kind 2).oper 4).oper 5), (show Below w0.heap.size w0 (((W2.setCell ⟨b, 0, none⟩ (.int .i64 2)).setCell ⟨b, 3, none⟩ (.int .i64 4)).setCell ⟨b, 3, none⟩ (.int .i64 5)) from (show Below w0.heap.size w0 ((W2.setCell ⟨b, 0, none⟩ (.int .i64 2)).setCell ⟨b, 3, none⟩ (.int .i64 4)) from (show Below w0.heap.size w0 (W2.setCell ⟨b, 0, none⟩ (.int .i64 2)) from Hbw0.out.setCell Hb0.out _).setCell Hb0.out _).setCell Hb0.out _)⟩
  · have hN : (N == 61) = false := beq_eq_false_iff_ne.2 fun e => h9 (HN.out.1 e)
    have Ht := Lib.hid (show tokL (s.data.toList.drop p) = some (Tk.plain 2 4, 1) from by rw [htok, h62, if_neg (by decide), if_neg (by decide), if_neg (by decide), if_pos rfl, if_neg h9])
    clear htok h32 h62 h9
    conv => arg 2; whnf
    go_wp2_with fail
    exact HK.out _ _ _ _ _ _ _ _ _ _ _ _ _ _ _ _ _ _ _ _ _ _ _ _ _ _ _ _ _ _ _ _ _ _ _ _ _ _ _ _ _ _ _ _ _ _ _ _ _ _ _ _ _ _ _ _ _ _ _ _ _ _ _ _ _ _ _ _ _ _ _ _ _ _ _ _ _ _ _ _ _ _ _ _ _ _ _ _ _ _ _ _ _ _ _ _ _ _ _ _ _ _ _ _ _ _ _ _ _ _ _ _ _ _ _ _ _ _ _ _ _ _ _ _ _ _ _ _ _ _ _ _ _ _ _ _ _ _ _ _ _ _ _ _ _ _ _ _ _ _ _ _ _ _ _ _ _ _ _ _ _ _ _ _ _ _ _ _ _ _ _ _ _ _ _ _ _ _ _ _ ⟨(Tk.plain 2 4), 1, _, rfl, ⟨Ht.out, by first | rfl | omega⟩, ((Hat0.out.kind 2).oper 4), (show Below w0.heap.size w0 ((W2.setCell ⟨b, 0, none⟩ (.int .i64 2)).setCell ⟨b, 3, none⟩ (.int .i64 4)) from (show Below w0.heap.size w0 (W2.setCell ⟨b, 0, none⟩ (.int .i64 2)) from Hbw0.out.setCell Hb0.out _).setCell Hb0.out _)⟩
end Go.Proofs.YtfniehgggbobaaaGreatDoor
namespace Go.Proofs.YtfniehgggbobaaaGreatDoor
open Go.RowKit

set_option maxHeartbeats 32000000 in
set_option maxRecDepth 1000000 in
theorem sw36 (s : ByteArray) (p : Nat) (I N : Int) (c : UInt8) (b : Nat) (w0 W2 : World) (x1 x2 x3 x4 x5 x11 x12 x13 x14 x15 x16 x17 x18 x19 x20 x21 x22 x23 x24 x25 x26 x27 x28 x29 x30 x31 x32 x33 x34 x35 x37 x38 x39 x40 x41 x42 x43 x44 x45 x46 x47 x48 x49 x50 x51 x52 x53 x54 x55 x56 x57 x58 x59 x60 x61 x62 x63 x64 x65 x66 x67 x68 x69 x70 x71 x72 x73 x74 x75 x76 x77 x78 x79 x80 x81 x82 x83 x84 x85 x86 x87 x88 x89 x90 x91 x92 x93 x94 x95 x96 x97 x98 x99 x100 x101 x102 x103 x104 x105 x106 x107 x108 x109 x110 x111 x112 x113 x114 x115 x116 x117 x118 x119 x120 x121 x122 x123 x124 x125 x126 x127 x128 x129 x130 x131 x132 x133 x134 x135 x136 x137 x138 x139 x140 x141 x142 x143 x144 x145 x146 x147 x148 x149 x150 x151 x152 x153 x154 x155 x156 x157 x158 x159 x160 x161 x162 x163 x164 x165 x166 x167 x168 x169 x170 x171 x172 x173 x174 x175 x176 x177 x178 x179 x180 x181 x182 x183 x184 x185 x186 x187 x188 x189 : Value) (K : Act → World → Prop) (Q : Exit → Act → World → Prop)
    (hK : ∀ (i y2 y3 y4 y11 y12 y13 y17 y18 y19 y20 y21 y22 y23 y24 y25 y26 y27 y28 y29 y30 y31 y32 y33 y34 y35 y36 y37 y38 y39 y40 y41 y42 y43 y44 y45 y46 y47 y48 y49 y50 y51 y52 y53 y54 y55 y56 y57 y58 y59 y60 y61 y62 y63 y64 y65 y66 y67 y68 y69 y70 y71 y72 y73 y74 y75 y76 y77 y78 y79 y80 y81 y82 y83 y84 y85 y86 y87 y88 y89 y90 y91 y92 y93 y94 y95 y96 y97 y98 y99 y100 y101 y102 y103 y104 y105 y106 y107 y108 y109 y110 y111 y112 y113 y114 y115 y116 y117 y118 y119 y120 y121 y122 y123 y124 y125 y126 y127 y128 y129 y130 y131 y132 y133 y134 y135 y136 y137 y138 y139 y140 y141 y142 y143 y144 y145 y146 y147 y148 y149 y150 y151 y152 y153 y154 y155 y156 y157 y158 y159 y160 y161 y162 y163 y164 y165 y166 y167 y168 y169 y170 y171 y172 y173 y174 y175 y176 y177 y178 y179 y180 y181 y182 y183 y184 y185 y186 y187 y188 : Value) (wx : World), SwR s p I b w0 i wx → K ⟨#[.string s, x1, y2, y3, y4, x5, i, .int .u8 (c.toNat : Int), .int .i64 I, .int .u8 N, .pointer (some ⟨b, 0, none⟩), y11, y12, y13, x14, x15, x16, y17, y18, y19, y20, y21, y22, y23, y24, y25, y26, y27, y28, y29, y30, y31, y32, y33, y34, y35, y36, y37, y38, y39, y40, y41, y42, y43, y44, y45, y46, y47, y48, y49, y50, y51, y52, y53, y54, y55, y56, y57, y58, y59, y60, y61, y62, y63, y64, y65, y66, y67, y68, y69, y70, y71, y72, y73, y74, y75, y76, y77, y78, y79, y80, y81, y82, y83, y84, y85, y86, y87, y88, y89, y90, y91, y92, y93, y94, y95, y96, y97, y98, y99, y100, y101, y102, y103, y104, y105, y106, y107, y108, y109, y110, y111, y112, y113, y114, y115, y116, y117, y118, y119, y120, y121, y122, y123, y124, y125, y126, y127, y128, y129, y130, y131, y132, y133, y134, y135, y136, y137, y138, y139, y140, y141, y142, y143, y144, y145, y146, y147, y148, y149, y150, y151, y152, y153, y154, y155, y156, y157, y158, y159, y160, y161, y162, y163, y164, y165, y166, y167, y168, y169, y170, y171, y172, y173, y174, y175, y176, y177, y178, y179, y180, y181, y182, y183, y184, y185, y186, y187, y188, x189], []⟩ wx)
    (hret : ∀ (z6 z7 z8 z9 z10 z11 z12 z13 z17 z18 z19 z20 z21 z22 z23 z24 z25 z26 z27 z28 z29 z30 z31 z32 z33 z34 z35 z36 z37 z38 z39 z40 z41 z42 z43 z44 z45 z46 z47 z48 z49 z50 z51 z52 z53 z54 z55 z56 z57 z58 z59 z60 z61 z62 z63 z64 z65 z66 z67 z68 z69 z70 z71 z72 z73 z74 z75 z76 z77 z78 z79 z80 z81 z82 z83 z84 z85 z86 z87 z88 z89 z90 z91 z92 z93 z94 z95 z96 z97 z98 z99 z100 z101 z102 z103 z104 z105 z106 z107 z108 z109 z110 z111 z112 z113 z114 z115 z116 z117 z118 z119 z120 z121 z122 z123 z124 z125 z126 z127 z128 z129 z130 z131 z132 z133 z134 z135 z136 z137 z138 z139 z140 z141 z142 z143 z144 z145 z146 z147 z148 z149 z150 z151 z152 z153 z154 z155 z156 z157 z158 z159 z160 z161 z162 z163 z164 z165 z166 z167 z168 z169 z170 z171 z172 z173 z174 z175 z176 z177 z178 z179 z180 z181 z182 z183 z184 z185 z186 z187 z188 : Value) (wx : World), tokL (s.data.toList.drop p) = none → Below w0.heap.size w0 wx → Q .ret ⟨#[.string s, x1, .slice none 0 0, .int .i64 I, .bool false, x5, z6, z7, z8, z9, z10, z11, z12, z13, x14, x15, x16, z17, z18, z19, z20, z21, z22, z23, z24, z25, z26, z27, z28, z29, z30, z31, z32, z33, z34, z35, z36, z37, z38, z39, z40, z41, z42, z43, z44, z45, z46, z47, z48, z49, z50, z51, z52, z53, z54, z55, z56, z57, z58, z59, z60, z61, z62, z63, z64, z65, z66, z67, z68, z69, z70, z71, z72, z73, z74, z75, z76, z77, z78, z79, z80, z81, z82, z83, z84, z85, z86, z87, z88, z89, z90, z91, z92, z93, z94, z95, z96, z97, z98, z99, z100, z101, z102, z103, z104, z105, z106, z107, z108, z109, z110, z111, z112, z113, z114, z115, z116, z117, z118, z119, z120, z121, z122, z123, z124, z125, z126, z127, z128, z129, z130, z131, z132, z133, z134, z135, z136, z137, z138, z139, z140, z141, z142, z143, z144, z145, z146, z147, z148, z149, z150, z151, z152, z153, z154, z155, z156, z157, z158, z159, z160, z161, z162, z163, z164, z165, z166, z167, z168, z169, z170, z171, z172, z173, z174, z175, z176, z177, z178, z179, z180, z181, z182, z183, z184, z185, z186, z187, z188, x189], []⟩ wx)
    (Hl : Hid (∀ W, Below w0.heap.size w0 W → Laid W)) (hni : (s.size : Int) ≤ 100000) (hI : I = (p : Int)) (hps : p < s.size) (HN : Hid (N = 61 ↔ (s.data.toList.drop (p + 1)).head? = some 61)) (h32 : ¬ c = 32)
    (hlc : s.data.toList[p]? = some c) (Hat0 : Hid (TAt W2 b ⟨0, p, [], 0, ⟨0, 0, ⟨#[]⟩, 0⟩⟩)) (Hbw0 : Hid (Below w0.heap.size w0 W2)) (hb0 : w0.heap.size ≤ b) (h36 : c = 36) :
    Code.wp Tryz.prog swCode (Exit.then K Q) ⟨#[.string s, x1, x2, x3, x4, x5, .int .i64 (I + 1), .int .u8 (c.toNat : Int), .int .i64 I, .int .u8 N, .pointer (some ⟨b, 0, none⟩), x11, x12, x13, x14, x15, x16, x17, x18, x19, x20, x21, x22, x23, x24, x25, x26, x27, x28, x29, x30, x31, x32, x33, x34, x35, .int .u8 (c.toNat : Int), x37, x38, x39, x40, x41, x42, x43, x44, x45, x46, x47, x48, x49, x50, x51, x52, x53, x54, x55, x56, x57, x58, x59, x60, x61, x62, x63, x64, x65, x66, x67, x68, x69, x70, x71, x72, x73, x74, x75, x76, x77, x78, x79, x80, x81, x82, x83, x84, x85, x86, x87, x88, x89, x90, x91, x92, x93, x94, x95, x96, x97, x98, x99, x100, x101, x102, x103, x104, x105, x106, x107, x108, x109, x110, x111, x112, x113, x114, x115, x116, x117, x118, x119, x120, x121, x122, x123, x124, x125, x126, x127, x128, x129, x130, x131, x132, x133, x134, x135, x136, x137, x138, x139, x140, x141, x142, x143, x144, x145, x146, x147, x148, x149, x150, x151, x152, x153, x154, x155, x156, x157, x158, x159, x160, x161, x162, x163, x164, x165, x166, x167, x168, x169, x170, x171, x172, x173, x174, x175, x176, x177, x178, x179, x180, x181, x182, x183, x184, x185, x186, x187, x188, x189], []⟩ W2 := by
  have Hlen : Hid (s.data.toList.length = s.size) := Lib.hid (Lib.size_eq s).symm
  have hInt := Lib.hid hI; have Hlc := Lib.hid hlc; have Hb0 := Lib.hid hb0
  have HK := Lib.hid hK; have Hret := Lib.hid hret
  have hI0 : 0 ≤ I := by omega
  have hI1 : I < (s.size : Int) := by omega
  have hni3 : I + 1 ≤ 100000 := by omega
  have hIj : I.toNat = p := by omega
  have htok := tokL_cons c (s.data.toList.drop (p + 1))
  rw [← (drop_at hlc).1] at htok
  have hz0 := Hat0.out.z 0; have hz2 := Hat0.out.z 2; have hz3 := Hat0.out.z 3
  have hc0 := Hat0.out.c0; have hc2 := Hat0.out.c2; have hc3 := Hat0.out.c3
  simp only at hc0 hc2 hc3
  clear hK hret hI hlc hb0
  have e32 : ((c.toNat : Int) == 32) = false := by rw [h36] <;> rfl
  have e40 : ((c.toNat : Int) == 40) = false := by rw [h36] <;> rfl
  have e41 : ((c.toNat : Int) == 41) = false := by rw [h36] <;> rfl
  have e61 : ((c.toNat : Int) == 61) = false := by rw [h36] <;> rfl
  have e33 : ((c.toNat : Int) == 33) = false := by rw [h36] <;> rfl
  have e60 : ((c.toNat : Int) == 60) = false := by rw [h36] <;> rfl
  have e62 : ((c.toNat : Int) == 62) = false := by rw [h36] <;> rfl
  have e36 : ((c.toNat : Int) == 36) = true := by rw [h36] <;> rfl
  have e0 : ((c.toNat : Int) != 33) = true := by rw [h36] <;> rfl
  have hpl : p + 1 ≤ s.size := hps
  have Htk : Hid (tokL (s.data.toList.drop p) = if nameB ((s.data.toList.drop (p + 1)).takeWhile smallB) then some (⟨0, 0, (s.data.toList.drop (p + 1)).takeWhile smallB, 0, zeroVal⟩, 1 + ((s.data.toList.drop (p + 1)).takeWhile smallB).length) else none) := Lib.hid (by rw [htok, h36]; rfl)
  clear h32 htok h36
  conv => arg 2; whnf
  go_upto_block 5 with fail
  go_cut [6] from 17 to 188 (fun i wx => ∃ (q : Nat) (J : Int), i = .int .i64 J ∧ Hid (J = (q : Int) ∧ p + 1 ≤ q ∧ q ≤ s.size ∧ (s.data.toList.drop (p + 1)).takeWhile smallB = (s.data.toList.drop (p + 1)).take (q - (p + 1))) ∧ W2 = wx)
  case first => 
    go_wp2_with fail
    go_loopg [6] (s.size - (p + 1)) (fun gj i wx => ∃ (q : Nat) (J : Int), i = .int .i64 J ∧ Hid (J = (q : Int) ∧ q + gj = s.size ∧ p + 1 ≤ q ∧ ∀ i d, i < q - (p + 1) → (s.data.toList.drop (p + 1))[i]? = some d → smallB d = true) ∧ W2 = wx)
    case atStart => exact ⟨p + 1, _, rfl, Lib.hid ⟨by have := hInt.out; omega, by omega, Nat.le_refl _, fun i d hi => by omega⟩, rfl⟩
    case round =>
      obtain ⟨q, J, rfl, HQ, rfl⟩ := hrel
      have hJ0 : 0 ≤ J := by have := HQ.out.1; omega
      by_cases hj : J < (s.size : Int)
      · have hJq : J.toNat = q := by have := HQ.out.1; omega
        have hqs : q < s.size := by have := HQ.out.1; omega
        obtain ⟨d, hd⟩ : ∃ d, s[q] = d := ⟨_, rfl⟩
        have hdl : (s.data.toList.drop (p + 1))[q - (p + 1)]? = some d := by rw [List.getElem?_drop, show p + 1 + (q - (p + 1)) = q from by have := HQ.out.2.2.1; omega, byte_at s q hqs, hd]
        have hsm := smallB_iff d
        obtain ⟨D, hD⟩ : ∃ D : Int, D = (d.toNat : Int) := ⟨_, rfl⟩
        rw [← hD] at hsm
        have hcc : (d.toNat : Int) = D := hD.symm
        clear hD
        simp only [lowD, upD, digD] at hsm
        cases hb : smallB d with
        | true =>
          have HQ2 : Hid (∀ i e, i < q + 1 - (p + 1) → (s.data.toList.drop (p + 1))[i]? = some e → smallB e = true) := Lib.hid fun i e hi he => by
            rcases Nat.lt_or_ge i (q - (p + 1)) with h | h
            · exact HQ.out.2.2.2 i e h he
            · obtain rfl : i = q - (p + 1) := by have := HQ.out.2.2.1; omega
              rw [hdl] at he
              cases he
              exact hb
          have h3 := hsm.1 hb
          have h4 : ((97 ≤ D ∧ D ≤ 122)) ∨ (¬ (97 ≤ D ∧ D ≤ 122) ∧ (48 ≤ D ∧ D ≤ 57)) ∨ (¬ (97 ≤ D ∧ D ≤ 122) ∧ ¬ (48 ≤ D ∧ D ≤ 57) ∧ D = 95) := by omega
          clear h3 hsm hdl hb
          rcases h4 with k0 | ⟨k0, k1⟩ | ⟨k0, k1, k2⟩
          · have Hc0 := Lib.hid fun W => in_case W D 97 122 k0
            clear k0
            go_wp2_with fail
            refine (Hc0.out _).mono ?_
            rintro e W ⟨rfl, rfl⟩
            go_wp2_with fail
            go_roundg (s.size - (q + 1))
            case measure => have := HQ.out.2.1; omega
            case rel => exact ⟨q + 1, J + 1, rfl, Lib.hid ⟨by have := HQ.out.1; omega, by have := HQ.out.2.1; omega, by have := HQ.out.2.2.1; omega, HQ2.out⟩, rfl⟩
          · have Hc0 := Lib.hid fun W => out_case W D 97 122 k0
            have Hc1 := Lib.hid fun W => in_case W D 48 57 k1
            clear k0 k1
            go_wp2_with fail
            refine (Hc0.out _).mono ?_
            rintro e W ⟨rfl, rfl⟩
            go_wp2_with fail
            refine (Hc1.out _).mono ?_
            rintro e W ⟨rfl, rfl⟩
            go_wp2_with fail
            go_roundg (s.size - (q + 1))
            case measure => have := HQ.out.2.1; omega
            case rel => exact ⟨q + 1, J + 1, rfl, Lib.hid ⟨by have := HQ.out.1; omega, by have := HQ.out.2.1; omega, by have := HQ.out.2.2.1; omega, HQ2.out⟩, rfl⟩
          · have Hc0 := Lib.hid fun W => out_case W D 97 122 k0
            have Hc1 := Lib.hid fun W => out_case W D 48 57 k1
            clear k0 k1
            subst k2
            go_wp2_with fail
            refine (Hc0.out _).mono ?_
            rintro e W ⟨rfl, rfl⟩
            go_wp2_with fail
            refine (Hc1.out _).mono ?_
            rintro e W ⟨rfl, rfl⟩
            go_wp2_with fail
            go_roundg (s.size - (q + 1))
            case measure => have := HQ.out.2.1; omega
            case rel => exact ⟨q + 1, J + 1, rfl, Lib.hid ⟨by have := HQ.out.1; omega, by have := HQ.out.2.1; omega, by have := HQ.out.2.2.1; omega, HQ2.out⟩, rfl⟩
        | false =>
          have hF := takeWhile_at smallB (s.data.toList.drop (p + 1)) (q - (p + 1)) HQ.out.2.2.2 (.inr ⟨d, hdl, hb⟩)
          have HF := Lib.hid hF
          rw [hb] at hsm
          simp only [Bool.false_eq_true, false_iff] at hsm
          have Hc0 := Lib.hid fun W => out_case W D 97 122 (by omega)
          have Hc1 := Lib.hid fun W => out_case W D 48 57 (by omega)
          have n0 : (D == 95) = false := beq_eq_false_iff_ne.2 (by omega)
          clear hsm hdl hb hF
          go_wp2_with fail
          refine (Hc0.out _).mono ?_
          rintro e W ⟨rfl, rfl⟩
          go_wp2_with fail
          refine (Hc1.out _).mono ?_
          rintro e W ⟨rfl, rfl⟩
          go_wp2_with fail
          go_meet
          exact ⟨q, J, rfl, Lib.hid ⟨HQ.out.1, HQ.out.2.2.1, by have := HQ.out.2.1; omega, HF.out⟩, rfl⟩
      · have hF := takeWhile_at smallB (s.data.toList.drop (p + 1)) (q - (p + 1)) HQ.out.2.2.2 (.inl (List.getElem?_eq_none (by rw [List.length_drop, Hlen.out]; have := HQ.out; omega)))
        have HF := Lib.hid hF
        clear hF
        go_wp2_with fail
        go_meet
        exact ⟨q, J, rfl, Lib.hid ⟨HQ.out.1, HQ.out.2.2.1, by have := HQ.out.2.1; omega, HF.out⟩, rfl⟩
  case rest =>
    obtain ⟨q, J, rfl, HQ, rfl⟩ := hcut
    obtain ⟨X, hX⟩ : ∃ X : ByteArray, s.extract (p + 1) q = X := ⟨_, rfl⟩
    obtain ⟨tw, htw⟩ : ∃ tw, tw = (s.data.toList.drop (p + 1)).takeWhile smallB := ⟨_, rfl⟩
    have hXl : X.data.toList = tw := by rw [← hX, Lib.extract_eq, htw, HQ.out.2.2.2]
    have hXs : X.size = tw.length := by rw [Lib.size_eq, hXl]
    have hXn : tw.length = q - (p + 1) := by rw [htw, HQ.out.2.2.2, List.length_take, List.length_drop, Hlen.out]; have := HQ.out.2.2.1; omega
    have hXb : X.size ≤ 100000 := by have := hni; have := HQ.out.2.2.1; omega
    have hXi : (X.size : Int) ≤ 100000 := by omega
    have hJ1 : J.toNat = q := by have := HQ.out.1; omega
    have hJ2 : J ≤ (s.size : Int) := by have := HQ.out; omega
    have hJ0 : 0 ≤ J := by have := HQ.out.1; omega
    rw [← htw] at Htk
    have hI1p : (I + 1).toNat = p + 1 := by have := hInt.out; omega
    have hIJ : I + 1 ≤ J := by have := HQ.out; have := hInt.out; omega
    have hat1 := Hat0.out.word X
    have hbw1 : Below w0.heap.size w0 (W2.setCell ⟨b, 2, none⟩ (.string X)) := Hbw0.out.setCell Hb0.out _
    rw [hXl] at hat1
    have Hat1 := Lib.hid hat1; have Hbw1 := Lib.hid hbw1
    have Hm1 : Hid (∀ W : World, Calls Tryz.prog 18 #[.string X] W fun e w' => e = .returned (.bool (nameB tw)) ∧ w' = W) := Lib.hid fun W => by
      have := nameR_any W X hXb
      rwa [hXl] at this
    have HJn : Hid (J = I + ((1 + tw.length : Nat) : Int)) := Lib.hid (by have := HQ.out; have := hInt.out; omega)
    have hXt : (⟨tw.toArray⟩ : ByteArray) = X := by rw [← hXl]
    clear hXl hXs hXn hXb hat1 hbw1
    go_upto_region 53 with fail
    generalize (W2.setCell _ _) = W3 at Hat1 Hbw1 ⊢
    have hc2 := Hat1.out.c2
    simp only [hXt] at hc2
    clear hz0 hz2 hz3 hc0 hc3 htw hX
    cases hn : nameB tw with
    | true =>
      have Ht := Lib.hid (show tokL (s.data.toList.drop p) = some (⟨0, 0, tw, 0, zeroVal⟩, 1 + tw.length) from by rw [Htk.out, hn]; rfl)
      rw [hn] at Hm1
      clear hn
      go_wp2_with fail
      refine (Hm1.out _).mono ?_
      rintro e W ⟨rfl, rfl⟩
      go_wp2_with fail
      exact HK.out _ _ _ _ _ _ _ _ _ _ _ _ _ _ _ _ _ _ _ _ _ _ _ _ _ _ _ _ _ _ _ _ _ _ _ _ _ _ _ _ _ _ _ _ _ _ _ _ _ _ _ _ _ _ _ _ _ _ _ _ _ _ _ _ _ _ _ _ _ _ _ _ _ _ _ _ _ _ _ _ _ _ _ _ _ _ _ _ _ _ _ _ _ _ _ _ _ _ _ _ _ _ _ _ _ _ _ _ _ _ _ _ _ _ _ _ _ _ _ _ _ _ _ _ _ _ _ _ _ _ _ _ _ _ _ _ _ _ _ _ _ _ _ _ _ _ _ _ _ _ _ _ _ _ _ _ _ _ _ _ _ _ _ _ _ _ _ _ _ _ _ _ _ _ _ _ _ _ _ _ ⟨⟨0, 0, tw, 0, zeroVal⟩, 1 + tw.length, J, rfl, ⟨Ht.out, HJn.out⟩, Hat1.out, Hbw1.out⟩
    | false =>
      have He := Lib.hid (show tokL (s.data.toList.drop p) = none from by rw [Htk.out, hn]; rfl)
      rw [hn] at Hm1
      clear hn
      go_wp2_with fail
      refine (Hm1.out _).mono ?_
      rintro e W ⟨rfl, rfl⟩
      go_wp2_with fail
      exact Hret.out _ _ _ _ _ _ _ _ _ _ _ _ _ _ _ _ _ _ _ _ _ _ _ _ _ _ _ _ _ _ _ _ _ _ _ _ _ _ _ _ _ _ _ _ _ _ _ _ _ _ _ _ _ _ _ _ _ _ _ _ _ _ _ _ _ _ _ _ _ _ _ _ _ _ _ _ _ _ _ _ _ _ _ _ _ _ _ _ _ _ _ _ _ _ _ _ _ _ _ _ _ _ _ _ _ _ _ _ _ _ _ _ _ _ _ _ _ _ _ _ _ _ _ _ _ _ _ _ _ _ _ _ _ _ _ _ _ _ _ _ _ _ _ _ _ _ _ _ _ _ _ _ _ _ _ _ _ _ _ _ _ _ _ _ _ _ _ _ _ _ _ _ _ _ _ _ _ _ _ _ _ He.out (Hbw1.out)
end Go.Proofs.YtfniehgggbobaaaGreatDoor
