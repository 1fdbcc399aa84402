/- The walks of a parser's fail, next, take. -/
import Derived.Test.YtfkghfmgeholeaaGreatDoorPb1
set_option linter.unusedVariables false
set_option linter.unusedSimpArgs false
namespace Go.Proofs.YtfkghfmgeholeaaGreatDoor
open Go.RowKit

def faultV (p : Nat) : Value := .iface 77 (.agg #[.int .i64 (p : Int)])
theorem TSlB.nilv {w : World} {R : Nat} {v : Value} (h : TSlB w R v []) : ∃ a c, v = .slice a 0 c := by
  rcases h with ⟨e, -⟩ | ⟨g, off, c, e, -⟩
  · exact ⟨none, 0, e⟩
  · exact ⟨_, c, e⟩
set_option maxHeartbeats 8000000 in
set_option maxRecDepth 100000 in
theorem pfail_any (w : World) (P e d : Nat) (l : List Tk) (h : PAt w P l e d) :
    Calls Tryz.prog 39 #[.pointer (some ⟨P, 0, none⟩)] w fun en w' => en = .panicked [{ v := faultV (pAt e l), recovered := false }] ∧ w' = w := by
  obtain ⟨⟨v, c0, hv⟩, c1, -, -, -⟩ := h
  cases l with
  | nil =>
    obtain ⟨a, c, rfl⟩ := hv.nilv
    clear hv
    go_enter Tryz.func39, Tryz.ntmps39
    go_wp2_with fail
    exact ⟨rfl, rfl, rfl⟩
  | cons t l =>
    rcases hv with ⟨-, e⟩ | ⟨g, off, c, rfl, hc, hR, hcell⟩
    · cases e
    clear hR
    have k1 := (HAt.of hcell).c1
    have hlen : 1 ≤ (t :: l).length := by simp
    generalize (t :: l).length = N at *
    have hN : ((N : Int) == 0) = false := by rw [beq_eq_false_iff_ne]; omega
    have hN1 : (0 : Int) < (N : Int) := by omega
    clear hcell hc
    go_enter Tryz.func39, Tryz.ntmps39
    go_wp2_with fail
    exact ⟨rfl, rfl, rfl⟩
set_option maxHeartbeats 8000000 in
set_option maxRecDepth 100000 in
theorem pnext_any (w : World) (P e d : Nat) (l : List Tk) (h : PAt w P l e d) (k : Int) (s : ByteArray) :
    Calls Tryz.prog 72 #[.pointer (some ⟨P, 0, none⟩), .int .i64 k, .string s] w fun en w' => en = .returned (.bool (isTok k s.data.toList l)) ∧ w' = w := by
  obtain ⟨⟨v, c0, hv⟩, c1, -, -, -⟩ := h
  cases l with
  | nil =>
    obtain ⟨a, c, rfl⟩ := hv.nilv
    clear hv
    go_enter Tryz.func72, Tryz.ntmps72
    go_wp2_with fail
    go_ret
    exact ⟨rfl, rfl⟩
  | cons t l =>
    rcases hv with ⟨-, e⟩ | ⟨g, off, c, rfl, hc, hR, hcell⟩
    · cases e
    clear hR
    have k0 := (HAt.of hcell).c0
    have k2 := (HAt.of hcell).c2
    have hlen : 1 ≤ (t :: l).length := by simp
    have hi : isTok k s.data.toList (t :: l) = (t.k == k && t.text == s.data.toList) := rfl
    have Hi := Lib.hid hi
    generalize isTok k s.data.toList (t :: l) = B at *
    generalize (t :: l).length = N at *
    have hN1 : (0 : Int) < (N : Int) := by omega
    clear hcell hc hi
    go_enter Tryz.func72, Tryz.ntmps72
    go_wp2_with fail
    all_goals go_ret
    all_goals refine ⟨?_, rfl⟩
    all_goals rw [Hi.out]
    all_goals simp_all [ByteArray.toList_eq]
/-- what a parser shows where a token stands next -/
theorem PAt.head {w : World} {P e d : Nat} {t : Tk} {l : List Tk} (h : PAt w P (t :: l) e d) : ∃ g off c N : Nat, w.cell? ⟨P, 0, none⟩ = some (.slice (some ⟨g, off, none⟩) N c) ∧ N = l.length + 1 ∧ N ≤ c ∧ g < P ∧ HAt w g off t ∧
    (c = 1 → TSlB w P (.slice (some ⟨g, off, none⟩) (N - 1) 0) l) ∧ (c ≠ 1 → TSlB w P (.slice (some ⟨g, off + 8, none⟩) (N - 1) (c - 1)) l) := by
  obtain ⟨⟨v, c0, hv⟩, -, -, -, -⟩ := h
  rcases hv with ⟨-, e⟩ | ⟨g, off, c, rfl, hc, hR, hcell⟩
  · cases e
  · exact ⟨g, off, c, _, c0, rfl, hc, hR.1, HAt.of hcell, (TSlB.tail hc hR hcell).1, (TSlB.tail hc hR hcell).2⟩
theorem But.st8 {R b : Nat} {a W : World} (h : But R a W) (hb : a.heap.size ≤ b) (v0 v1 v2 v3 v4 v5 v6 v7 : Value) : But R a ((((((((W.setCell ⟨b, 0, none⟩ v0).setCell ⟨b, 1, none⟩ v1).setCell ⟨b, 2, none⟩ v2).setCell ⟨b, 3, none⟩ v3).setCell ⟨b, 4, none⟩ v4).setCell ⟨b, 5, none⟩ v5).setCell ⟨b, 6, none⟩ v6).setCell ⟨b, 7, none⟩ v7) :=
  (((((((h.off hb _ _).off hb _ _).off hb _ _).off hb _ _).off hb _ _).off hb _ _).off hb _ _).off hb _ _
theorem PAt.st8 {W : World} {P b : Nat} {l : List Tk} {e d : Nat} (h : PAt W P l e d) (hb : P < b) (v0 v1 v2 v3 v4 v5 v6 v7 : Value) : PAt ((((((((W.setCell ⟨b, 0, none⟩ v0).setCell ⟨b, 1, none⟩ v1).setCell ⟨b, 2, none⟩ v2).setCell ⟨b, 3, none⟩ v3).setCell ⟨b, 4, none⟩ v4).setCell ⟨b, 5, none⟩ v5).setCell ⟨b, 6, none⟩ v6).setCell ⟨b, 7, none⟩ v7) P l e d :=
  (((((((h.off hb _ _).off hb _ _).off hb _ _).off hb _ _).off hb _ _).off hb _ _).off hb _ _).off hb _ _
theorem Below.new (w : World) (o : Obj) : Below w.heap.size w (w.alloc o) := (Below.refl _ w).alloc (Nat.le_refl _) _
set_option maxHeartbeats 8000000 in
set_option maxRecDepth 100000 in
theorem ptake_any (w : World) (P e d : Nat) (t : Tk) (l : List Tk) (h : PAt w P (t :: l) e d) :
    Calls Tryz.prog 73 #[.pointer (some ⟨P, 0, none⟩)] w fun en w' => en = .returned t.val ∧ PAt w' P l e d ∧ But P w w' := by
  have H := Lib.hid h
  clear h
  go_enter Tryz.func73, Tryz.ntmps73
  go_upto_region 1 with fail
  have Hb := Lib.hid (Below.new w (.cells #[.int .i64 0, .int .i64 0, .string ⟨#[]⟩, .int .i64 0, .int .i64 0, .int .i64 0, .string ⟨#[]⟩, .int .u64 0] 93))
  have Hz := Lib.hid (TAt.zero w 93)
  generalize (w.alloc _) = W at Hb Hz ⊢
  have h1 := H.out.below Hb.out
  obtain ⟨g, off, c, N, c0, hN, hc, hg, ⟨k0, k1, k2, k3, k4, k5, k6, k7⟩, -, -⟩ := h1.head
  have H1 := Lib.hid h1
  have hN1 : (0 : Int) < (N : Int) := by omega
  have hN2 : 1 ≤ N := by omega
  clear h1 hN hc
  go_upto_region 2 with fail
  clear c0 k0 k1 k2 k3 k4 k5 k6 k7 hg
  have Hb2 := Lib.hid (Below.new W (.cells t.cells 93))
  have Ht := Lib.hid (TAt.new W t 93)
  have hz2 := Hz.out.below Hb2.out Hz.out.lt
  generalize (W.alloc _) = W2 at Hb2 Ht hz2 ⊢
  have Hz2 := Lib.hid hz2
  have h2 := H1.out.below Hb2.out
  have z0 := h2.z 0
  obtain ⟨g, off, c, N', c0, hN, hc, hg, -, s1, s2⟩ := h2.head
  have H2 := Lib.hid h2; have S1 := Lib.hid s1; have S2 := Lib.hid s2
  have hN2 : 1 ≤ N' := by omega
  have HP : Hid (P < w.heap.size) := Lib.hid H.out.lt
  have HPW : Hid (P < W.heap.size) := Lib.hid (Nat.lt_of_lt_of_le H.out.lt Hb.out.size)
  clear h2 s1 s2 hN hc hg hz2 hN1
  go_upto_region 3 with fail
  have hs : TSlB W2 P (.slice (if c = 1 then some ⟨g, off, none⟩ else some ⟨g, off + 8, none⟩) (N' - 1) (c - 1)) l := by
    by_cases h1 : c = 1
    · rw [if_pos h1]
      have := S1.out h1
      rw [show c - 1 = 0 from by omega]
      exact this
    · rw [if_neg h1]
      exact S2.out h1
  generalize Value.slice (if c = 1 then some ⟨g, off, none⟩ else some ⟨g, off + 8, none⟩) (N' - 1) (c - 1) = v at hs ⊢
  have H3 := Lib.hid (H2.out.moved hs)
  have hz3 := Hz2.out.but ((But.refl P W2).set 0 v) HP.out
  have ht3 := Ht.out.but ((But.refl P W2).set 0 v) HPW.out
  have Hbut : Hid (But P w (W2.setCell ⟨P, 0, none⟩ v)) := Lib.hid (((But.of Hb.out).trans (But.of Hb2.out)).set 0 v)
  clear hs S1 S2 c0 z0
  generalize W2.setCell ⟨P, 0, none⟩ v = W3 at H3 hz3 ht3 Hbut ⊢
  obtain ⟨d0, d1, d2, d3, d4, d5, d6, d7, dz, -⟩ := hz3
  obtain ⟨k0, k1, k2, k3, k4, k5, k6, k7, -, -⟩ := ht3
  dsimp only [Tk.zero] at d0 d1 d2 d3 d4 d5 d6 d7
  go_wp2_with fail
  exact bodyPost_ret (v := t.val) (by simp [results, Tryz.results73, go_sem, d0, d1, d2, d3, d4, d5, d6, d7, Tk.val]) rfl ⟨rfl, H3.out.st8 HP.out _ _ _ _ _ _ _ _, Hbut.out.st8 (Nat.le_refl _) _ _ _ _ _ _ _ _⟩
end Go.Proofs.YtfkghfmgeholeaaGreatDoor
