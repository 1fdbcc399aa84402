/- The walks of a parser's part, test, deeper and of the two closures of piece. -/
import Derived.Test.YtfkghfmgeholeaaGreatDoorPc4
set_option linter.unusedVariables false
set_option linter.unusedSimpArgs false
namespace Go.Proofs.YtfkghfmgeholeaaGreatDoor
open Go.RowKit

/-- a method of a parser is one of its readers: on fewer than N tokens, with d open -/
def Reader (f N e d P : Nat) (p : List Tk → PRes) : Prop := ∀ W l, PAt W P l e d → l.length < N → Calls Tryz.prog f #[.pointer (some ⟨P, 0, none⟩)] W fun en w' => PAns P e d faultV W w' (p l) en
theorem pans_put {P e d : Nat} {w W w' : World} {t : Tree} {q : List Tk} {a : Option Addr} {n c : Nat} (hb : But P w w') (hW : w.heap.size < W.heap.size) (hk : KSl w' W.heap.size t.kids a n) (hp : PAt w' P q e d) (hP : P < w.heap.size) (v0 v1 v2 v3 v4 v5 v6 v7 v8 : Value) :
    PAns P e d faultV w (st9 w' w.heap.size v0 v1 v2 v3 v4 v5 v6 v7 v8) (.ok t q) (.returned (t.val a n c)) :=
  pans_ok (hb.put9 (Nat.le_refl _) _ _ _ _ _ _ _ _ _) ((hk.put9 hW _ _ _ _ _ _ _ _ _).mono (Nat.le_of_lt hW)) (hp.put9 hP _ _ _ _ _ _ _ _ _)
set_option maxHeartbeats 16000000 in
set_option maxRecDepth 100000 in
theorem ppart_any {N e d P : Nat} {p : List Tk → PRes} (hl : ∀ l t r, p l = .ok t r → r.length < l.length) (hc : Reader 74 N e d P p) : Reader 54 N e d P (row 5 kAnd p e) := by
  intro w l h hN
  have H := Lib.hid h
  have HP : Hid (P < w.heap.size) := Lib.hid h.lt
  have HC : Hid (∀ W, PAt W P l e d → Calls Tryz.prog 53 #[.pointer (some ⟨P, 0, none⟩), .string ⟨#[97, 110, 100]⟩, .int .i64 5, .func (.func 74) #[.pointer (some ⟨P, 0, none⟩)] #[]] W fun en w' => PAns P e d faultV W w' (row 5 kAnd p e l) en) := Lib.hid fun W hW => prow_piece W P e d N l hW hN ⟨#[97, 110, 100]⟩ 5 p hl hc
  clear h hN hl hc
  generalize row 5 kAnd p e l = R at HC ⊢
  have hmf : ∀ (fn : Fn) (first cap : Array Value) (w : World), (Instr.makeFunc fn first cap).run Tryz.prog w = .ok (.func fn first cap) w := fun _ _ _ _ => rfl
  go_enter Tryz.func54, Tryz.ntmps54
  go_upto_region 1 with fail
  have Hb := Lib.hid (Below.new w (.cells zcells 30))
  have Hz := Lib.hid (ZVar.new w 30)
  generalize (w.alloc _) = W at Hb Hz ⊢
  have Ho := Lib.hid (HC.out W (H.out.below Hb.out))
  have hPz := HP.out
  go_wp2_with fail
  refine Ho.out.mono ?_
  clear Ho
  rintro en w1 ⟨hb1, h1⟩
  have hz1 := Hz.out.but hb1 hPz
  have Hb1 : Hid (But P w w1) := Lib.hid ((But.of Hb.out).trans hb1)
  cases R with
  | bad b =>
    have h2 : en = .panicked [{ v := faultV b, recovered := false }] := h1
    clear h1 hb1 hz1
    subst h2
    go_wp2_with fail
    exact ⟨rfl, pans_bad Hb1.out rfl⟩
  | ok t r =>
    obtain ⟨aa, an, ac, rfl, hk, hp⟩ := h1
    have Hk := Lib.hid hk; have Hp := Lib.hid hp
    obtain ⟨d0, d1, d2, d3, d4, d5, d6, d7, d8, dz, -⟩ := hz1
    clear hk hp hb1
    simp only [Tree.val]
    go_wp2_with fail
    exact bodyPost_ret (v := t.val aa an ac) (by simp [results, Tryz.results54, go_sem, d0, d1, d2, d3, d4, d5, d6, d7, d8, Tree.val]) rfl (pans_put Hb1.out Hz.out.lt Hk.out Hp.out hPz _ _ _ _ _ _ _ _ _)
set_option maxHeartbeats 16000000 in
set_option maxRecDepth 100000 in
theorem ptest_any {N e d P : Nat} {p : List Tk → PRes} (hl : ∀ l t r, p l = .ok t r → r.length < l.length) (hc : Reader 54 N e d P p) : Reader 38 N e d P (row 6 kOr p e) := by
  intro w l h hN
  have H := Lib.hid h
  have HP : Hid (P < w.heap.size) := Lib.hid h.lt
  have HC : Hid (∀ W, PAt W P l e d → Calls Tryz.prog 53 #[.pointer (some ⟨P, 0, none⟩), .string ⟨#[111, 114]⟩, .int .i64 6, .func (.func 54) #[.pointer (some ⟨P, 0, none⟩)] #[]] W fun en w' => PAns P e d faultV W w' (row 6 kOr p e l) en) := Lib.hid fun W hW => prow_part W P e d N l hW hN ⟨#[111, 114]⟩ 6 p hl hc
  clear h hN hl hc
  generalize row 6 kOr p e l = R at HC ⊢
  have hmf : ∀ (fn : Fn) (first cap : Array Value) (w : World), (Instr.makeFunc fn first cap).run Tryz.prog w = .ok (.func fn first cap) w := fun _ _ _ _ => rfl
  go_enter Tryz.func38, Tryz.ntmps38
  go_upto_region 1 with fail
  have Hb := Lib.hid (Below.new w (.cells zcells 30))
  have Hz := Lib.hid (ZVar.new w 30)
  generalize (w.alloc _) = W at Hb Hz ⊢
  have Ho := Lib.hid (HC.out W (H.out.below Hb.out))
  have hPz := HP.out
  go_wp2_with fail
  refine Ho.out.mono ?_
  clear Ho
  rintro en w1 ⟨hb1, h1⟩
  have hz1 := Hz.out.but hb1 hPz
  have Hb1 : Hid (But P w w1) := Lib.hid ((But.of Hb.out).trans hb1)
  cases R with
  | bad b =>
    have h2 : en = .panicked [{ v := faultV b, recovered := false }] := h1
    clear h1 hb1 hz1
    subst h2
    go_wp2_with fail
    exact ⟨rfl, pans_bad Hb1.out rfl⟩
  | ok t r =>
    obtain ⟨aa, an, ac, rfl, hk, hp⟩ := h1
    have Hk := Lib.hid hk; have Hp := Lib.hid hp
    obtain ⟨d0, d1, d2, d3, d4, d5, d6, d7, d8, dz, -⟩ := hz1
    clear hk hp hb1
    simp only [Tree.val]
    go_wp2_with fail
    exact bodyPost_ret (v := t.val aa an ac) (by simp [results, Tryz.results38, go_sem, d0, d1, d2, d3, d4, d5, d6, d7, d8, Tree.val]) rfl (pans_put Hb1.out Hz.out.lt Hk.out Hp.out hPz _ _ _ _ _ _ _ _ _)
end Go.Proofs.YtfkghfmgeholeaaGreatDoor
