/- How much a test has; the walk of ref17.Size. -/
import Derived.Test.YtfkghfmgeholeaaGreatDoorPf0
set_option linter.unusedVariables false
set_option linter.unusedSimpArgs false
namespace Go.Proofs.YtfkghfmgeholeaaGreatDoor
open Go.RowKit

mutual
/-- how much a test has, down to some depth -/
def sizeT : Tree → Nat → Nat
  | .mk _ _ c _ v l, d => match d with
    | 0 => 10001
    | d + 1 => if 10000 < c.length ∨ 10000 < v.s.size ∨ 10000 < l.length then 10001 else sizeL l d (1 + c.length + v.s.size)
def sizeL : List Tree → Nat → Nat → Nat
  | [], _, n => n
  | t :: l, d, n => if 10000 < n then 10001 else sizeL l d (n + sizeT t d)
end
theorem sizeT_zero (t : Tree) : sizeT t 0 = 10001 := by cases t; rw [sizeT]
theorem sizeT_succ (t : Tree) (d : Nat) : sizeT t (d + 1) = if 10000 < t.col.length ∨ 10000 < t.v.s.size ∨ 10000 < t.kids.length then 10001 else sizeL t.kids d (1 + t.col.length + t.v.s.size) := by cases t; rw [sizeT]; rfl
theorem sizeT_mk (k p : Int) (c : List UInt8) (o : Int) (v : Val) (l : List Tree) (d : Nat) : sizeT (.mk k p c o v l) (d + 1) = if 10000 < c.length ∨ 10000 < v.s.size ∨ 10000 < l.length then 10001 else sizeL l d (1 + c.length + v.s.size) := by rw [sizeT]
theorem sizeL_nil (d n : Nat) : sizeL [] d n = n := by rw [sizeL]
theorem sizeL_cons (t : Tree) (l : List Tree) (d n : Nat) : sizeL (t :: l) d n = if 10000 < n then 10001 else sizeL l d (n + sizeT t d) := by rw [sizeL]
theorem sizeL_ge (d : Nat) : ∀ (l : List Tree) (n : Nat), n ≤ sizeL l d n ∨ 10001 ≤ sizeL l d n := by
  intro l
  induction l with
  | nil => intro n; rw [sizeL_nil]; exact .inl (Nat.le_refl _)
  | cons t l ih =>
    intro n
    rw [sizeL_cons]
    split
    · exact .inr (Nat.le_refl _)
    · rcases ih (n + sizeT t d) with h | h
      · exact .inl (by omega)
      · exact .inr h
theorem sizeL_le (d : Nat) : ∀ (l : List Tree) (n : Nat), sizeL l d n ≤ 10000 → n ≤ sizeL l d n := by
  intro l n h
  rcases sizeL_ge d l n with h1 | h1
  · exact h1
  · omega
mutual
/-- what isn't much has few parts, short names and no great depth -/
theorem size_facts : ∀ (t : Tree) (d : Nat), sizeT t d ≤ 10000 → t.nodes ≤ sizeT t d ∧ t.sized ∧ t.depth ≤ d
  | .mk k p c o v l, 0, h => by rw [sizeT_zero] at h; omega
  | .mk k p c o v l, d + 1, h => by
    rw [sizeT_mk] at h ⊢
    by_cases hc : 10000 < c.length ∨ 10000 < v.s.size ∨ 10000 < l.length
    · rw [if_pos hc] at h; omega
    · rw [if_neg hc] at h ⊢
      have h1 := sizeL_facts l d (1 + c.length + v.s.size) h
      have hn : (Tree.mk k p c o v l).nodes = Tree.count l + 1 := by rw [Tree.nodes]
      rw [hn, Tree.sized, depth_mk]
      exact ⟨by omega, ⟨by omega, h1.2.1⟩, by omega⟩
theorem sizeL_facts : ∀ (l : List Tree) (d n : Nat), sizeL l d n ≤ 10000 → n + Tree.count l ≤ sizeL l d n ∧ Tree.sizeds l ∧ Tree.deep l ≤ d
  | [], d, n, h => by rw [sizeL_nil, Tree.count, Tree.sizeds, Tree.deep]; exact ⟨Nat.le_refl _, trivial, Nat.zero_le _⟩
  | t :: l, d, n, h => by
    rw [sizeL_cons] at h ⊢
    split at h
    · omega
    · rename_i hc
      rw [if_neg hc]
      have h1 := sizeL_facts l d (n + sizeT t d) h
      have h2 := size_facts t d (by have := sizeL_le _ _ _ h; omega)
      rw [Tree.count, Tree.sizeds, deep_cons]
      exact ⟨by omega, ⟨h2.2.1, h1.2.1⟩, by omega⟩
end
theorem sizeL_top {d S : Nat} (hS : ∀ t : Tree, sizeT t d ≤ S) : ∀ (l : List Tree) (n : Nat), sizeL l d n ≤ max n (10001 + S) := by
  intro l
  induction l with
  | nil => intro n; rw [sizeL_nil]; omega
  | cons t l ih =>
    intro n
    rw [sizeL_cons]
    split
    · omega
    · have := ih (n + sizeT t d)
      have := hS t
      omega
theorem sizeT_top : ∀ (d : Nat) (t : Tree), sizeT t d ≤ 20001 + 10001 * d := by
  intro d
  induction d with
  | zero => intro t; rw [sizeT_zero]; omega
  | succ d ih =>
    intro t
    rw [sizeT_succ]
    split
    · omega
    · have := sizeL_top ih t.kids (1 + t.col.length + t.v.s.size)
      omega
theorem sizeL_step {l : List Tree} {j d n : Nat} {t : Tree} (h : l[j]? = some t) : sizeL (l.drop j) d n = if 10000 < n then 10001 else sizeL (l.drop (j + 1)) d (n + sizeT t d) := by
  have hlt : j < l.length := by
    rcases Nat.lt_or_ge j l.length with h1 | h1
    · exact h1
    · rw [List.getElem?_eq_none h1] at h; cases h
  rw [List.getElem?_eq_getElem hlt] at h
  injection h with h
  rw [List.drop_eq_getElem_cons hlt, sizeL_cons, h]
/-- ref17.Size of a test, down to a depth -/
def SizeC (d : Nat) : Prop := ∀ (t : Tree) (w : World) (S : Nat → Prop) (a : Option Addr) (n c : Nat), KSl w S t.kids a n → Calls Tryz.prog 11 #[t.val a n c, .int .i64 (d : Int)] w fun e w' => e = .returned (.int .i64 (sizeT t d : Int)) ∧ Below w.heap.size w w'
set_option maxHeartbeats 16000000 in
set_option maxRecDepth 100000 in
theorem size_zero : SizeC 0 := by
  intro t w S a n c hk
  rw [sizeT_zero]
  simp only [Tree.val]
  have hb0 := Below.new w (.cells (t.cells a n c) 30)
  have Hb0 := Lib.hid hb0
  clear hb0 hk
  go_enter Tryz.func11, Tryz.ntmps11
  go_wp2_with fail
  go_ret
  exact ⟨rfl, Hb0.out⟩
set_option maxHeartbeats 16000000 in
set_option maxRecDepth 100000 in
theorem size_step {d : Nat} (ih : SizeC d) (hd : d < 60) : SizeC (d + 1) := by
  intro t w S a n c hk
  have Hk := Lib.hid hk
  have Hn := Lib.hid hk.len
  have Htop : Hid (∀ t : Tree, sizeT t d ≤ 620000) := Lib.hid fun t => by have := sizeT_top d t; omega
  have HS := Lib.hid (sizeT_succ t d)
  obtain ⟨D, hDD⟩ : ∃ D : Int, D = ((d + 1 : Nat) : Int) := ⟨_, rfl⟩
  have IH : Hid (∀ (t : Tree) (w : World) (S : Nat → Prop) (a : Option Addr) (n c : Nat), KSl w S t.kids a n → Calls Tryz.prog 11 #[t.val a n c, .int .i64 (D - 1)] w fun e w' => e = .returned (.int .i64 (sizeT t d : Int)) ∧ Below w.heap.size w w') := Lib.hid (by rw [show D - 1 = (d : Int) by omega]; exact ih)
  rw [← hDD]
  generalize hR : sizeT t (d + 1) = R at HS
  clear hk hR ih
  have hD0 : (D == 0) = false := beq_eq_false_iff_ne.2 (by omega)
  have hD1 : 1 ≤ D := by omega
  have hD2 : D ≤ 60 := by omega
  clear hDD hd
  simp only [Tree.val]
  have hb0 := Below.new w (.cells (t.cells a n c) 30)
  have Hb0 := Lib.hid hb0
  have Hk0 := Lib.hid (Hk.out.later hb0)
  clear hb0
  by_cases hbig : 10000 < t.col.length ∨ 10000 < t.v.s.size ∨ 10000 < t.kids.length
  · have HR : Hid (R = 10001) := Lib.hid (by rw [HS.out, if_pos hbig])
    rw [← Hn.out] at hbig
    by_cases h1 : t.col.length < t.v.s.size
    · by_cases h2 : t.v.s.size < n
      · have hb : 10000 < n := by omega
        clear hbig
        go_enter Tryz.func11, Tryz.ntmps11
        go_wp2_with fail
        go_ret
        exact ⟨by rw [HR.out]; rfl, Hb0.out⟩
      · have hb : 10000 < t.v.s.size := by omega
        clear hbig
        go_enter Tryz.func11, Tryz.ntmps11
        go_wp2_with fail
        go_ret
        exact ⟨by rw [HR.out]; rfl, Hb0.out⟩
    · by_cases h2 : t.col.length < n
      · have hb : 10000 < n := by omega
        clear hbig
        go_enter Tryz.func11, Tryz.ntmps11
        go_wp2_with fail
        go_ret
        exact ⟨by rw [HR.out]; rfl, Hb0.out⟩
      · have hb : 10000 < t.col.length := by omega
        clear hbig
        go_enter Tryz.func11, Tryz.ntmps11
        go_wp2_with fail
        go_ret
        exact ⟨by rw [HR.out]; rfl, Hb0.out⟩
  · have HR : Hid (R = sizeL t.kids d (1 + t.col.length + t.v.s.size)) := Lib.hid (by rw [HS.out, if_neg hbig])
    have hA : t.col.length ≤ 10000 := by omega
    have hB : t.v.s.size ≤ 10000 := by omega
    have hC : n ≤ 10000 := by rw [Hn.out]; omega
    clear hbig
    by_cases h1 : t.col.length < t.v.s.size <;> by_cases h2 : t.v.s.size < n <;> by_cases h3 : t.col.length < n
    all_goals (try (exfalso; omega))
    all_goals
      have hA1 : ¬ 10000 < t.col.length := by omega
      have hB1 : ¬ 10000 < t.v.s.size := by omega
      have hC1 : ¬ 10000 < n := by omega
      go_enter Tryz.func11, Tryz.ntmps11
      go_wp2_with fail
      have hn0 : 0 ≤ (n : Int) := by omega
      go_loopg [5, 36] n (fun g s i wx => ∃ (j mm : Nat) (I M : Int), s = .int .i64 M ∧ i = .int .i64 I ∧ Hid (I = (j : Int) ∧ M = (mm : Int) ∧ R = sizeL (t.kids.drop j) d mm ∧ j + g = n ∧ mm ≤ 640000) ∧ Below w.heap.size w wx)
      case atStart => exact ⟨0, 1 + t.col.length + t.v.s.size, 0, _, rfl, rfl, Lib.hid ⟨rfl, by omega, HR.out, by omega, by omega⟩, Hb0.out⟩
      case round =>
        obtain ⟨j, mm, I, M, rfl, rfl, HI, hb⟩ := hrel
        have Hb := Lib.hid hb; clear hb
        have hI0 : 0 ≤ I := by have := HI.out; omega
        have hM0 : 0 ≤ M := by have := HI.out; omega
        have hM1 : M ≤ 640000 := by have := HI.out; omega
        clear hA hB h1 h2 h3 hA1 hB1 hC1
        by_cases hm : gk = 0
        · have hI1 : ¬ I < (n : Int) := by have := HI.out; omega
          have HRR : Hid (M = (R : Int)) := Lib.hid (by
            have h1 := HI.out; have h3 := Hn.out
            have h4 : t.kids.drop j = [] := List.drop_eq_nil_of_le (by omega)
            rw [h4, sizeL_nil] at h1
            omega)
          clear hm
          go_wp2_with fail
          go_ret
          exact ⟨by rw [← HRR.out]; rfl, Hb.out⟩
        · have hI1 : I < (n : Int) := by have := HI.out; omega
          have hIj : I.toNat = j := by have := HI.out; omega
          obtain ⟨k, hk⟩ : ∃ k, t.kids[j]? = some k := ⟨t.kids[j]'(by have := HI.out; have := Hn.out; omega), List.getElem?_eq_getElem _⟩
          obtain ⟨b, o, ka, kn, kc, e1, hka, hks⟩ := Hk.out.get hk
          subst e1
          have Hst := Lib.hid (sizeL_step (d := d) (n := mm) hk)
          have Hka := Lib.hid (hka.map fun i v hc => (Hb.out.cell (World.block_lt_of_cell? w _ hc)).trans hc)
          have hksw : KSl wr S k.kids ka kn := hks.later Hb.out
          have Hm := Lib.hid hm
          obtain ⟨c0, c1, c2, c3, c4, c5, c6, c7, c8⟩ := Hka.out
          have hbn := Below.new wr (.cells (k.cells ka kn kc) 30)
          have Hc := Lib.hid (IH.out k _ S ka kn kc (hksw.later hbn))
          have Hkv := Lib.hid (KVar.new wr k ka kn kc 30)
          have Hbn := Lib.hid (Hb.out.trans (hbn.mono Hb.out.size))
          clear hk hka hks hm hksw hbn
          by_cases hMM : 10000 < M
          · have HRR : Hid (R = 10001) := Lib.hid (by have h1 := HI.out; rw [h1.2.2.1, Hst.out, if_pos (by omega)])
            go_wp2_with fail
            go_ret
            exact ⟨by rw [HRR.out]; rfl, Hbn.out⟩
          · have HRR : Hid (R = sizeL (t.kids.drop (j + 1)) d (mm + sizeT k d)) := Lib.hid (by have h1 := HI.out; rw [h1.2.2.1, Hst.out, if_neg (by omega)])
            have hsz0 : 0 ≤ (sizeT k d : Int) := by omega
            have hsz1 : (sizeT k d : Int) ≤ 620000 := by have := Htop.out k; omega
            have Hsz := Lib.hid hsz1
            go_upto_region 9 with fail
            clear c0 c1 c2 c3 c4 c5 c6 c7 c8
            generalize (wr.alloc _) = W at Hc Hkv Hbn ⊢
            obtain ⟨c0, c1, c2, c3, c4, c5, c6, c7, c8, -, -⟩ := Hkv.out
            go_wp2_with fail
            refine Hc.out.mono ?_
            rintro e w2 ⟨rfl, hb2⟩
            have Hb2 := Lib.hid (Hbn.out.trans (hb2.mono Hbn.out.size))
            clear hb2
            go_wp2_with fail
            go_roundg (gk - 1)
            case measure => have := Hm.out; omega
            case rel => exact ⟨j + 1, mm + sizeT k d, I + 1, _, rfl, rfl, Lib.hid ⟨by have := HI.out; omega, by have := HI.out; omega, HRR.out, by have := HI.out; have := Hm.out; omega, by have := HI.out; have := Hsz.out; omega⟩, Hb2.out⟩
theorem size_any : ∀ d : Nat, d ≤ 60 → SizeC d := by
  intro d
  induction d with
  | zero => intro _; exact size_zero
  | succ d ih => intro h; exact size_step (ih (by omega)) (by omega)
end Go.Proofs.YtfkghfmgeholeaaGreatDoor
