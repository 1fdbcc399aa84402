/- The walk of a parser's piece; of its test. -/
import Derived.Test.YtfkghfmgeholeaaGreatDoorPc7
set_option linter.unusedVariables false
set_option linter.unusedSimpArgs false
namespace Go.Proofs.YtfkghfmgeholeaaGreatDoor
open Go.RowKit

theorem pans_z {P e d Z : Nat} {w W w' : World} {t : Tree} {q : List Tk} {a : Option Addr} {n c : Nat} (hb : But P w w') (hZ : w.heap.size ≤ Z) (hW : Z < W.heap.size) (hk : KSl w' W.heap.size t.kids a n) (hp : PAt w' P q e d) (hP : P < w.heap.size) (v0 v1 v2 v3 v4 v5 v6 v7 v8 : Value) :
    PAns P e d faultV w (st9 w' Z v0 v1 v2 v3 v4 v5 v6 v7 v8) (.ok t q) (.returned (t.val a n c)) :=
  pans_ok (hb.put9 hZ _ _ _ _ _ _ _ _ _) ((hk.put9 hW _ _ _ _ _ _ _ _ _).mono (by omega)) (hp.put9 (by omega) _ _ _ _ _ _ _ _ _)
/-- the boxed pointer and the result's variable -/
def BoxRow (w W : World) (v : Value) : Prop := W.cell? ⟨w.heap.size, 0, none⟩ = some v ∧ ZVar W (w.heap.size + 1) ∧ Below w.heap.size w W
theorem box_var (w : World) (v : Value) (ty ty2 : TypeId) : BoxRow w ((w.alloc (.cells #[v] ty)).alloc (.cells zcells ty2)) v := by
  have hs : (w.alloc (.cells #[v] ty)).heap.size = w.heap.size + 1 := by simp
  have h0 : (w.alloc (.cells #[v] ty)).cell? ⟨w.heap.size, 0, none⟩ = some v := by simp
  have hb0 := Below.new w (.cells #[v] ty)
  generalize (w.alloc (.cells #[v] ty)) = W0 at *
  have hb1 := Below.new W0 (.cells zcells ty2)
  have hz := ZVar.new W0 ty2
  rw [hs] at hz
  exact ⟨(hb1.cell (World.block_lt_of_cell? W0 _ h0)).trans h0, hz, hb0.trans (hb1.mono (by omega))⟩
set_option maxHeartbeats 16000000 in
set_option maxRecDepth 100000 in
theorem ppiece_step {N e d P : Nat} (ih : Reader 74 N e (d + 1) P (pPiece e N (d + 1))) : Reader 74 (N + 1) e d P (pPiece e (N + 1) d) := by
  intro w l h hN
  have H := Lib.hid h
  have HN := Lib.hid hN
  have HP : Hid (P < w.heap.size) := Lib.hid h.lt
  have HI := Lib.hid ih
  clear h ih hN
  generalize hR : pPiece e (N + 1) d l = R
  have HR := Lib.hid hR
  clear hR
  have hmf : ∀ (fn : Fn) (first cap : Array Value) (w : World), (Instr.makeFunc fn first cap).run Tryz.prog w = .ok (.func fn first cap) w := fun _ _ _ _ => rfl
  go_enter Tryz.func74, Tryz.ntmps74
  go_upto_region 1 with fail
  generalize hW : ((w.alloc _).alloc _) = W
  have hF : BoxRow w W (.pointer (some ⟨P, 0, none⟩)) := by rw [← hW]; exact box_var w _ _ _
  clear hW
  obtain ⟨hC, hz, hb⟩ := hF
  have Hb := Lib.hid hb; have Hz := Lib.hid hz; have HC := Lib.hid hC
  have Hp := Lib.hid (H.out.below hb)
  have hPz := HP.out
  have HCP : Hid (w.heap.size ≠ P) := Lib.hid (by omega)
  have HPZ : Hid (P < w.heap.size + 1) := Lib.hid (by omega)
  clear hb hz
  have Hn3 : Hid (∀ (B : Bool), isTok 3 kNot l = B → Calls Tryz.prog 72 #[.pointer (some ⟨P, 0, none⟩), .int .i64 3, .string ⟨#[110, 111, 116]⟩] W fun en w' => en = .returned (.bool B) ∧ w' = W) := Lib.hid fun B hB => hB ▸ pnext_any W P e d l Hp.out 3 ⟨#[110, 111, 116]⟩
  have Hn4 : Hid (∀ (B : Bool), isTok 4 [] l = B → Calls Tryz.prog 72 #[.pointer (some ⟨P, 0, none⟩), .int .i64 4, .string ⟨#[]⟩] W fun en w' => en = .returned (.bool B) ∧ w' = W) := Lib.hid fun B hB => hB ▸ pnext_any W P e d l Hp.out 4 ⟨#[]⟩
  cases hB : isTok 3 kNot l with
  | true =>
    have hn := Hn3.out _ hB
    have Hd : Hid (Calls Tryz.prog 85 #[.pointer (some ⟨P, 0, none⟩), .func (.func 86) #[] #[.pointer (some ⟨w.heap.size, 0, none⟩)]] W fun en w' => PAns P e d faultV W w' R en) := Lib.hid (by
      by_cases hd : d < 20
      · rw [← HR.out, piece_not hB hd]
        obtain ⟨m, L, rfl⟩ := tok_cons hB
        have hLN : L.length < N := by have := HN.out; simp only [List.length_cons] at this; omega
        exact pdeep_not W P e d w.heap.size m L Hp.out hd _ fun W' hb' hp' => pnot_any HI.out W' w.heap.size L (hb'.cell HC.out HCP.out) hp' hLN
      · rw [← HR.out, piece_deep (.inl hB) (by omega)]
        exact pdeep_bad W P e d l Hp.out (by omega) _)
    clear hB Hn3 Hn4
    go_wp2_with fail
    refine hn.mono ?_
    rintro en w2 ⟨rfl, rfl⟩
    clear hn
    go_wp2_with fail
    refine Hd.out.mono ?_
    rintro en w3 ⟨hb3, h3⟩
    have Hb3 : Hid (But P w w3) := Lib.hid ((But.of Hb.out).trans hb3)
    have hz3 := Hz.out.but hb3 HPZ.out
    clear Hd
    cases R with
    | bad b =>
      have h2 : en = .panicked [{ v := faultV b, recovered := false }] := h3
      clear h3 hb3 hz3
      subst h2
      go_wp2_with fail
      exact ⟨rfl, pans_bad Hb3.out rfl⟩
    | ok t r =>
      obtain ⟨aa, an, ac, rfl, hk, hp⟩ := h3
      have Hk := Lib.hid hk; have Hp3 := Lib.hid hp
      obtain ⟨d0, d1, d2, d3, d4, d5, d6, d7, d8, dz, -⟩ := hz3
      clear hk hp hb3
      simp only [Tree.val]
      go_wp2_with fail
      exact bodyPost_ret (v := t.val aa an ac) (by simp [results, Tryz.results74, go_sem, d0, d1, d2, d3, d4, d5, d6, d7, d8, Tree.val]) rfl (pans_z Hb3.out (Nat.le_succ _) Hz.out.lt Hk.out Hp3.out hPz _ _ _ _ _ _ _ _ _)
  | false =>
    have hn := Hn3.out _ hB
    have HB := Lib.hid hB
    clear hB Hn3
    cases hB4 : isTok 4 [] l with
    | true =>
      have hn4 := Hn4.out _ hB4
      have Hd : Hid (Calls Tryz.prog 85 #[.pointer (some ⟨P, 0, none⟩), .func (.func 87) #[] #[.pointer (some ⟨w.heap.size, 0, none⟩)]] W fun en w' => PAns P e d faultV W w' R en) := Lib.hid (by
        by_cases hd : d < 20
        · rw [← HR.out, piece_open HB.out hB4 hd]
          obtain ⟨m, L, rfl⟩ := tok_cons hB4
          have hLN : L.length < N := by have := HN.out; simp only [List.length_cons] at this; omega
          exact pdeep_open W P e d w.heap.size m L Hp.out hd _ fun W' hb' hp' => popen_any (ptest_any (fun l t r h => row_len (pPiece_len e N (d + 1)) l t r h) (ppart_any (pPiece_len e N (d + 1)) HI.out)) W' w.heap.size L (hb'.cell HC.out HCP.out) HCP.out hp' hLN
        · rw [← HR.out, piece_deep (.inr hB4) (by omega)]
          exact pdeep_bad W P e d l Hp.out (by omega) _)
      clear hB4 Hn4
      go_wp2_with fail
      refine hn.mono ?_
      rintro en w2 ⟨rfl, rfl⟩
      clear hn
      go_wp2_with fail
      refine hn4.mono ?_
      rintro en w2 ⟨rfl, rfl⟩
      clear hn4
      go_wp2_with fail
      refine Hd.out.mono ?_
      rintro en w3 ⟨hb3, h3⟩
      have Hb3 : Hid (But P w w3) := Lib.hid ((But.of Hb.out).trans hb3)
      have hz3 := Hz.out.but hb3 HPZ.out
      clear Hd
      cases R with
      | bad b =>
        have h2 : en = .panicked [{ v := faultV b, recovered := false }] := h3
        clear h3 hb3 hz3
        subst h2
        go_wp2_with fail
        exact ⟨rfl, pans_bad Hb3.out rfl⟩
      | ok t r =>
        obtain ⟨aa, an, ac, rfl, hk, hp⟩ := h3
        have Hk := Lib.hid hk; have Hp3 := Lib.hid hp
        obtain ⟨d0, d1, d2, d3, d4, d5, d6, d7, d8, dz, -⟩ := hz3
        clear hk hp hb3
        simp only [Tree.val]
        go_wp2_with fail
        exact bodyPost_ret (v := t.val aa an ac) (by simp [results, Tryz.results74, go_sem, d0, d1, d2, d3, d4, d5, d6, d7, d8, Tree.val]) rfl (pans_z Hb3.out (Nat.le_succ _) Hz.out.lt Hk.out Hp3.out hPz _ _ _ _ _ _ _ _ _)
    | false =>
      have hn4 := Hn4.out _ hB4
      have Hd : Hid (Calls Tryz.prog 88 #[.pointer (some ⟨P, 0, none⟩)] W fun en w' => PAns P e d faultV W w' R en) := Lib.hid (by
        rw [← HR.out, piece_atom HB.out hB4]
        exact patom_any W P e d l Hp.out)
      clear hB4 Hn4
      go_wp2_with fail
      refine hn.mono ?_
      rintro en w2 ⟨rfl, rfl⟩
      clear hn
      go_wp2_with fail
      refine hn4.mono ?_
      rintro en w2 ⟨rfl, rfl⟩
      clear hn4
      go_wp2_with fail
      refine Hd.out.mono ?_
      rintro en w3 ⟨hb3, h3⟩
      have Hb3 : Hid (But P w w3) := Lib.hid ((But.of Hb.out).trans hb3)
      have hz3 := Hz.out.but hb3 HPZ.out
      clear Hd
      cases R with
      | bad b =>
        have h2 : en = .panicked [{ v := faultV b, recovered := false }] := h3
        clear h3 hb3 hz3
        subst h2
        go_wp2_with fail
        exact ⟨rfl, pans_bad Hb3.out rfl⟩
      | ok t r =>
        obtain ⟨aa, an, ac, rfl, hk, hp⟩ := h3
        have Hk := Lib.hid hk; have Hp3 := Lib.hid hp
        obtain ⟨d0, d1, d2, d3, d4, d5, d6, d7, d8, dz, -⟩ := hz3
        clear hk hp hb3
        simp only [Tree.val]
        go_wp2_with fail
        exact bodyPost_ret (v := t.val aa an ac) (by simp [results, Tryz.results74, go_sem, d0, d1, d2, d3, d4, d5, d6, d7, d8, Tree.val]) rfl (pans_z Hb3.out (Nat.le_succ _) Hz.out.lt Hk.out Hp3.out hPz _ _ _ _ _ _ _ _ _)
theorem ppiece_any (e P n : Nat) : ∀ d : Nat, Reader 74 n e d P (pPiece e n d) := by
  induction n with
  | zero => intro d w l h hN; exact absurd hN (Nat.not_lt_zero _)
  | succ n ih => intro d; exact ppiece_step (ih (d + 1))
/-- a parser's test -/
theorem ptestP_any (e P n d : Nat) : Reader 38 n e d P (pTest e n d) :=
  ptest_any (fun l t r h => row_len (pPiece_len e n d) l t r h) (ppart_any (pPiece_len e n d) (ppiece_any e P n d))
end Go.Proofs.YtfkghfmgeholeaaGreatDoor
