/- The walk of ref17.Right. -/
import Derived.Test.YtfkghfmgeholeaaGreatDoorPf1
import Derived.Test.YtfkghfmgeholeaaGreatDoorGL
import Derived.Test.YtfkghfmgeholeaaGreatDoorGD
set_option linter.unusedVariables false
set_option linter.unusedSimpArgs false
namespace Go.Proofs.YtfkghfmgeholeaaGreatDoor
open Go.RowKit

/-- ref17.Right of a test within so many others -/
def RightRC (d : Nat) : Prop := ∀ t : Tree, t.sized → WfT t → ∀ (w : World) (S : Nat → Prop) (a : Option Addr) (n c : Nat), KSl w S t.kids a n → Calls Tryz.prog 19 #[t.val a n c, .int .i64 (d : Int)] w fun e w' => e = .returned (.bool (rightT d t)) ∧ Below w.heap.size w w'
theorem wfTs_mem {t : Tree} {l : List Tree} (hl : WfTs l) (h : t ∈ l) : WfT t := by
  induction l with
  | nil => cases h
  | cons a l ih =>
    rw [WfTs] at hl
    rcases List.mem_cons.1 h with rfl | h
    · exact hl.1
    · exact ih hl.2 h
theorem right_kind {d : Nat} {t : Tree} (h : rightT d t = true) : 0 ≤ t.k := by
  rw [rightT_eq, Bool.and_eq_true] at h
  have h1 := h.1
  unfold rightK at h1
  simp only [Bool.and_eq_true, decide_eq_true_eq] at h1
  exact h1.1.1.1.1.1.1
set_option maxHeartbeats 16000000 in
set_option maxRecDepth 100000 in
theorem rightR_deep (t : Tree) (w : World) (a : Option Addr) (n c : Nat) : Calls Tryz.prog 19 #[t.val a n c, .int .i64 40] w fun e w' => e = .returned (.bool (rightT 40 t)) ∧ Below w.heap.size w w' := by
  have hR : rightT 40 t = false := by rw [rightT_eq]; simp [rightK]
  rw [hR]
  simp only [Tree.val]
  have Hb0 := Lib.hid (Below.new w (.cells (t.cells a n c) 30))
  go_enter Tryz.func19, Tryz.ntmps19
  go_wp2_with fail
  go_ret
  exact ⟨rfl, Hb0.out⟩
set_option maxHeartbeats 16000000 in
set_option maxRecDepth 100000 in
theorem rightR_odd (t : Tree) (d : Nat) (hd : d < 40) (hk : t.k < 0 ∨ 6 < t.k) (w : World) (a : Option Addr) (n c : Nat) : Calls Tryz.prog 19 #[t.val a n c, .int .i64 (d : Int)] w fun e w' => e = .returned (.bool (rightT d t)) ∧ Below w.heap.size w w' := by
  have hR : rightT d t = false := by
    rw [rightT_eq]
    rcases hk with h | h
    · have : ¬ 0 ≤ t.k := by omega
      simp [rightK, this]
    · have : ¬ t.k ≤ 6 := by omega
      simp [rightK, this]
  rw [hR]
  simp only [Tree.val]
  have Hb0 := Lib.hid (Below.new w (.cells (t.cells a n c) 30))
  obtain ⟨D, hD⟩ : ∃ D : Int, D = (d : Int) := ⟨_, rfl⟩
  rw [← hD]
  have hD0 : (D == 40) = false := beq_eq_false_iff_ne.2 (by omega)
  clear hR hD hd
  by_cases h0 : t.k < 0
  · have hd0 : decide (t.k < 0) = true := decide_eq_true h0
    clear hk
    go_enter Tryz.func19, Tryz.ntmps19
    go_wp2_with fail
    go_ret
    exact ⟨rfl, Hb0.out⟩
  · have h6 : 6 < t.k := by omega
    have hd0 : decide (t.k < 0) = false := decide_eq_false h0
    clear hk
    go_enter Tryz.func19, Tryz.ntmps19
    go_wp2_with fail
    go_ret
    exact ⟨rfl, Hb0.out⟩
set_option maxHeartbeats 32000000 in
set_option maxRecDepth 100000 in
theorem rightR_k0 (d : Nat) (hd : d < 40) (ih : RightRC (d + 1)) (p : Int) (col : List UInt8) (op : Int) (v : Val) (kids : List Tree) (hcl : col.length ≤ 100000) (hzs : Tree.sizeds kids) (hwv : v.Wf) (hws : WfTs kids) (w : World) (S : Nat → Prop) (a : Option Addr) (n c : Nat) (hks : KSl w S kids a n) : Calls Tryz.prog 19 #[(Tree.mk 0 p col op v kids).val a n c, .int .i64 (d : Int)] w fun e w' => e = .returned (.bool (rightT d (.mk 0 p col op v kids))) ∧ Below w.heap.size w w' := by
  have Hks := Lib.hid hks
  have Hn := Lib.hid hks.len
  have Hzs := Lib.hid hzs; have Hws := Lib.hid hws; have Hwv := Lib.hid hwv; have Hcl := Lib.hid hcl
  obtain ⟨D, hDD⟩ : ∃ D : Int, D = (d : Int) := ⟨_, rfl⟩
  have HD : Hid (D = (d : Int) ∧ d < 40) := Lib.hid ⟨hDD, hd⟩
  have IH : Hid (∀ u ∈ kids, ∀ (w : World) (S : Nat → Prop) (a : Option Addr) (n c : Nat), KSl w S u.kids a n → Calls Tryz.prog 19 #[u.val a n c, .int .i64 (D + 1)] w fun e w' => e = .returned (.bool (rightT (d + 1) u)) ∧ Below w.heap.size w w') := Lib.hid fun u hu w S a n c hk => by
    have := ih u (sized_mem hzs hu) (wfTs_mem hws hu) w S a n c hk
    rwa [show ((d + 1 : Nat) : Int) = D + 1 by omega] at this
  rw [← hDD]
  generalize hRR : rightT d (.mk 0 p col op v kids) = RR
  have HR : Hid (RR = (rightK d 0 col op v kids.length && rightTs (d + 1) 0 kids)) := Lib.hid (by rw [← hRR, rightT_mk])
  have hD0 : (D == 40) = false := beq_eq_false_iff_ne.2 (by omega)
  have hD1 : 0 ≤ D := by omega
  have hD2 : D ≤ 39 := by omega
  clear hks ih hzs hws hwv hcl hRR hDD hd
  simp only [Tree.val, Tree.k, Tree.pos, Tree.col, Tree.v, Tree.op]
  have hb0 := Below.new w (.cells #[.int .i64 0, .int .i64 p, .string ⟨col.toArray⟩, .int .i64 v.k, .int .i64 v.n, .string v.s, .int .u64 v.f, .int .i64 op, .slice a n c] 30)
  have HV0 := Lib.hid (KVar.new w (Tree.mk 0 p col op v kids) a n c 30)
  have Hb0 := Lib.hid hb0
  clear hb0
  go_enter Tryz.func19, Tryz.ntmps19
  go_upto_region 4 with fail
  generalize hW : ((w.alloc _).alloc _) = W1
  have hbb : Below (w.alloc (.cells #[.int .i64 0, .int .i64 p, .string ⟨col.toArray⟩, .int .i64 v.k, .int .i64 v.n, .string v.s, .int .u64 v.f, .int .i64 op, .slice a n c] 30)).heap.size (w.alloc (.cells #[.int .i64 0, .int .i64 p, .string ⟨col.toArray⟩, .int .i64 v.k, .int .i64 v.n, .string v.s, .int .u64 v.f, .int .i64 op, .slice a n c] 30)) W1 := by rw [← hW]; exact Below.new _ _
  have HB1 : Hid (Below w.heap.size w W1) := Lib.hid (Hb0.out.trans (hbb.mono Hb0.out.size))
  have HV1 := Lib.hid (HV0.out.below hbb HV0.out.lt)
  have Hks1 := Lib.hid ((Hks.out.later Hb0.out).later hbb)
  clear hW hbb HV0 Hb0
  generalize w.heap.size = Z at HV1
  obtain ⟨c0, c1, c2, c3, c4, c5, c6, c7, c8, -, -⟩ := HV1.out
  dsimp only [Tree.k, Tree.pos, Tree.col, Tree.v, Tree.op] at c0 c1 c2 c3 c4 c5 c6 c7
  by_cases hn : n = 0
  · subst hn
    have Hnn : Hid (kids.length = 0) := Lib.hid Hn.out.symm
    go_wp2_with fail
    clear c0 c1 c2 c3 c4 c5 c6 c7 c8
    go_loopg [33] 0 (fun g i wx => ∃ (j : Nat) (I : Int), i = .int .i64 I ∧ Hid (I = (j : Int) ∧ j + g = 0 ∧ rightTs (d + 1) 0 (kids.take j) = true) ∧ Below W1.heap.size W1 wx)
    case atStart => exact ⟨0, 0, rfl, Lib.hid ⟨rfl, by omega, by rw [List.take_zero, rightTs]⟩, Below.refl _ _⟩
    case round =>
      obtain ⟨j, I, rfl, HI, hbx⟩ := hrel
      have Hbx := Lib.hid hbx
      have HB : Hid (Below w.heap.size w wr) := Lib.hid (HB1.out.trans (hbx.mono HB1.out.size))
      have HV := Lib.hid (HV1.out.below hbx HV1.out.lt)
      clear hbx
      obtain ⟨c0, c1, c2, c3, c4, c5, c6, c7, c8, -, -⟩ := HV.out
      dsimp only [Tree.k, Tree.pos, Tree.col, Tree.v, Tree.op] at c0 c1 c2 c3 c4 c5 c6 c7
      by_cases hm : gk = 0
      · have hIn : I = 0 := by have := HI.out; omega
        have HT : Hid (rightTs (d + 1) 0 kids = true) := Lib.hid (by
          have h1 := HI.out
          rw [List.take_of_length_le (by have := Hnn.out; omega)] at h1
          exact h1.2.2)
        clear hm HI
        subst hIn
        cases hname : nameB col with
        | true =>
          have hc : Hid (Calls Tryz.prog 41 #[.string ⟨col.toArray⟩] wr fun e w' => e = .returned (.bool true) ∧ w' = wr) := Lib.hid (by have := nameR_any wr ⟨col.toArray⟩ (by simpa [ByteArray.size] using Hcl.out); rw [show (⟨col.toArray⟩ : ByteArray).data.toList = col from rfl, hname] at this; exact this)
          go_wp2_with fail
          refine hc.out.mono ?_
          rintro e w2 ⟨rfl, rfl⟩
          clear hc
          by_cases hz : v.isZero = true
          · obtain rfl := isZero_eq hz
            have hzT := hz
            dsimp only [zeroVal] at c3 c4 c5 c6
            by_cases ho : op = 0
            · subst ho
              have HF : Hid (RR = true) := Lib.hid (by rw [HR.out, HT.out]; simp [rightK, kidsN, HD.out.2, Hnn.out, hname, hzT])
              go_wp2_with fail
              go_ret
              exact ⟨by rw [HF.out]; rfl, HB.out⟩
            · have hoe : (op == 0) = false := beq_eq_false_iff_ne.2 ho
              have HF : Hid (RR = false) := Lib.hid (by rw [HR.out, HT.out]; simp [rightK, kidsN, HD.out.2, Hnn.out, ho, hname, hzT])
              go_wp2_with fail
              go_ret
              exact ⟨by rw [HF.out]; rfl, HB.out⟩
          · have hzT : v.isZero = false := by simpa using hz
            have HF : Hid (RR = false) := Lib.hid (by rw [HR.out]; simp [rightK, hzT])
            have HZ := Lib.hid hzT
            clear hz hzT
            go_wp2_with fail
            all_goals first
              | (go_ret; exact ⟨by rw [HF.out]; rfl, HB.out⟩)
              | (refine absurd ?_ (Bool.eq_false_iff.1 HZ.out); exact zero_told (by assumption) (by assumption) (by assumption) (by assumption))
        | false =>
          have HF : Hid (RR = false) := Lib.hid (by rw [HR.out]; simp [rightK, hname])
          have hc : Hid (Calls Tryz.prog 41 #[.string ⟨col.toArray⟩] wr fun e w' => e = .returned (.bool false) ∧ w' = wr) := Lib.hid (by have := nameR_any wr ⟨col.toArray⟩ (by simpa [ByteArray.size] using Hcl.out); rw [show (⟨col.toArray⟩ : ByteArray).data.toList = col from rfl, hname] at this; exact this)
          go_wp2_with fail
          refine hc.out.mono ?_
          rintro e w2 ⟨rfl, rfl⟩
          clear hc
          go_wp2_with fail
          go_ret
          exact ⟨by rw [HF.out]; rfl, HB.out⟩
      · exact absurd (show gk = 0 by have := HI.out; omega) hm
  · have hne : ((n : Int) != 0) = true := bne_iff_ne.2 (by omega)
    have HF : Hid (RR = false) := Lib.hid (by have h1 : ¬ kids.length = 0 := by rw [← Hn.out]; exact hn
                                              rw [HR.out]; simp [rightK, kidsN, h1])
    go_wp2_with fail
    go_ret
    exact ⟨by rw [HF.out]; rfl, HB1.out⟩
set_option maxHeartbeats 32000000 in
set_option maxRecDepth 100000 in
theorem rightR_k1 (d : Nat) (hd : d < 40) (ih : RightRC (d + 1)) (p : Int) (col : List UInt8) (op : Int) (v : Val) (kids : List Tree) (hcl : col.length ≤ 100000) (hzs : Tree.sizeds kids) (hwv : v.Wf) (hws : WfTs kids) (w : World) (S : Nat → Prop) (a : Option Addr) (n c : Nat) (hks : KSl w S kids a n) : Calls Tryz.prog 19 #[(Tree.mk 1 p col op v kids).val a n c, .int .i64 (d : Int)] w fun e w' => e = .returned (.bool (rightT d (.mk 1 p col op v kids))) ∧ Below w.heap.size w w' := by
  have Hks := Lib.hid hks
  have Hn := Lib.hid hks.len
  have Hzs := Lib.hid hzs; have Hws := Lib.hid hws; have Hwv := Lib.hid hwv; have Hcl := Lib.hid hcl
  obtain ⟨D, hDD⟩ : ∃ D : Int, D = (d : Int) := ⟨_, rfl⟩
  have HD : Hid (D = (d : Int) ∧ d < 40) := Lib.hid ⟨hDD, hd⟩
  have IH : Hid (∀ u ∈ kids, ∀ (w : World) (S : Nat → Prop) (a : Option Addr) (n c : Nat), KSl w S u.kids a n → Calls Tryz.prog 19 #[u.val a n c, .int .i64 (D + 1)] w fun e w' => e = .returned (.bool (rightT (d + 1) u)) ∧ Below w.heap.size w w') := Lib.hid fun u hu w S a n c hk => by
    have := ih u (sized_mem hzs hu) (wfTs_mem hws hu) w S a n c hk
    rwa [show ((d + 1 : Nat) : Int) = D + 1 by omega] at this
  rw [← hDD]
  generalize hRR : rightT d (.mk 1 p col op v kids) = RR
  have HR : Hid (RR = (rightK d 1 col op v kids.length && rightTs (d + 1) 1 kids)) := Lib.hid (by rw [← hRR, rightT_mk])
  have hD0 : (D == 40) = false := beq_eq_false_iff_ne.2 (by omega)
  have hD1 : 0 ≤ D := by omega
  have hD2 : D ≤ 39 := by omega
  clear hks ih hzs hws hwv hcl hRR hDD hd
  simp only [Tree.val, Tree.k, Tree.pos, Tree.col, Tree.v, Tree.op]
  have hb0 := Below.new w (.cells #[.int .i64 1, .int .i64 p, .string ⟨col.toArray⟩, .int .i64 v.k, .int .i64 v.n, .string v.s, .int .u64 v.f, .int .i64 op, .slice a n c] 30)
  have HV0 := Lib.hid (KVar.new w (Tree.mk 1 p col op v kids) a n c 30)
  have Hb0 := Lib.hid hb0
  clear hb0
  go_enter Tryz.func19, Tryz.ntmps19
  go_upto_region 4 with fail
  generalize hW : ((w.alloc _).alloc _) = W1
  have hbb : Below (w.alloc (.cells #[.int .i64 1, .int .i64 p, .string ⟨col.toArray⟩, .int .i64 v.k, .int .i64 v.n, .string v.s, .int .u64 v.f, .int .i64 op, .slice a n c] 30)).heap.size (w.alloc (.cells #[.int .i64 1, .int .i64 p, .string ⟨col.toArray⟩, .int .i64 v.k, .int .i64 v.n, .string v.s, .int .u64 v.f, .int .i64 op, .slice a n c] 30)) W1 := by rw [← hW]; exact Below.new _ _
  have HB1 : Hid (Below w.heap.size w W1) := Lib.hid (Hb0.out.trans (hbb.mono Hb0.out.size))
  have HV1 := Lib.hid (HV0.out.below hbb HV0.out.lt)
  have Hks1 := Lib.hid ((Hks.out.later Hb0.out).later hbb)
  clear hW hbb HV0 Hb0
  generalize w.heap.size = Z at HV1
  obtain ⟨c0, c1, c2, c3, c4, c5, c6, c7, c8, -, -⟩ := HV1.out
  dsimp only [Tree.k, Tree.pos, Tree.col, Tree.v, Tree.op] at c0 c1 c2 c3 c4 c5 c6 c7
  by_cases hn : n = 0
  · subst hn
    have Hnn : Hid (kids.length = 0) := Lib.hid Hn.out.symm
    go_wp2_with fail
    clear c0 c1 c2 c3 c4 c5 c6 c7 c8
    go_loopg [33] 0 (fun g i wx => ∃ (j : Nat) (I : Int), i = .int .i64 I ∧ Hid (I = (j : Int) ∧ j + g = 0 ∧ rightTs (d + 1) 1 (kids.take j) = true) ∧ Below W1.heap.size W1 wx)
    case atStart => exact ⟨0, 0, rfl, Lib.hid ⟨rfl, by omega, by rw [List.take_zero, rightTs]⟩, Below.refl _ _⟩
    case round =>
      obtain ⟨j, I, rfl, HI, hbx⟩ := hrel
      have Hbx := Lib.hid hbx
      have HB : Hid (Below w.heap.size w wr) := Lib.hid (HB1.out.trans (hbx.mono HB1.out.size))
      have HV := Lib.hid (HV1.out.below hbx HV1.out.lt)
      clear hbx
      obtain ⟨c0, c1, c2, c3, c4, c5, c6, c7, c8, -, -⟩ := HV.out
      dsimp only [Tree.k, Tree.pos, Tree.col, Tree.v, Tree.op] at c0 c1 c2 c3 c4 c5 c6 c7
      by_cases hm : gk = 0
      · have hIn : I = 0 := by have := HI.out; omega
        have HT : Hid (rightTs (d + 1) 1 kids = true) := Lib.hid (by
          have h1 := HI.out
          rw [List.take_of_length_le (by have := Hnn.out; omega)] at h1
          exact h1.2.2)
        clear hm HI
        subst hIn
        by_cases hcol : col = []
        · subst hcol
          cases hz : rightB v with
          | true =>
            have hc : Hid (Calls Tryz.prog 44 #[.agg #[.int .i64 v.k, .int .i64 v.n, .string v.s, .int .u64 v.f]] wr fun e w' => e = .returned (.bool true) ∧ Below wr.heap.size wr w') := Lib.hid (by have := rightR_any wr v Hwv.out.f0 Hwv.out.f1; rw [hz] at this; exact this)
            go_wp2_with fail
            refine hc.out.mono ?_
            rintro e w2 ⟨rfl, hb2⟩
            replace HB := Lib.hid (HB.out.trans (hb2.mono HB.out.size))
            obtain ⟨c0, c1, c2, c3, c4, c5, c6, c7, c8, -, -⟩ := HV.out.below hb2 HV.out.lt
            dsimp only [Tree.k, Tree.pos, Tree.col, Tree.v, Tree.op] at c0 c1 c2 c3 c4 c5 c6 c7
            clear hb2 hc
            by_cases ho : op = 0
            · subst ho
              have HF : Hid (RR = true) := Lib.hid (by rw [HR.out, HT.out]; simp [rightK, kidsN, HD.out.2, Hnn.out, hz])
              go_wp2_with fail
              go_ret
              exact ⟨by rw [HF.out]; rfl, HB.out⟩
            · have hoe : (op == 0) = false := beq_eq_false_iff_ne.2 ho
              have HF : Hid (RR = false) := Lib.hid (by rw [HR.out, HT.out]; simp [rightK, kidsN, HD.out.2, Hnn.out, ho, hz])
              go_wp2_with fail
              go_ret
              exact ⟨by rw [HF.out]; rfl, HB.out⟩
          | false =>
            have hc : Hid (Calls Tryz.prog 44 #[.agg #[.int .i64 v.k, .int .i64 v.n, .string v.s, .int .u64 v.f]] wr fun e w' => e = .returned (.bool false) ∧ Below wr.heap.size wr w') := Lib.hid (by have := rightR_any wr v Hwv.out.f0 Hwv.out.f1; rw [hz] at this; exact this)
            have HF : Hid (RR = false) := Lib.hid (by rw [HR.out]; simp [rightK, hz])
            go_wp2_with fail
            refine hc.out.mono ?_
            rintro e w2 ⟨rfl, hb2⟩
            replace HB := Lib.hid (HB.out.trans (hb2.mono HB.out.size))
            clear hb2 hc
            go_wp2_with fail
            go_ret
            exact ⟨by rw [HF.out]; rfl, HB.out⟩
        · have hce : (!col.isEmpty) = true := by cases col with
            | nil => exact absurd rfl hcol
            | cons a l => rfl
          have HF : Hid (RR = false) := Lib.hid (by rw [HR.out]; simp [rightK, hcol])
          go_wp2_with fail
          go_ret
          exact ⟨by rw [HF.out]; rfl, HB.out⟩
      · exact absurd (show gk = 0 by have := HI.out; omega) hm
  · have hne : ((n : Int) != 0) = true := bne_iff_ne.2 (by omega)
    have HF : Hid (RR = false) := Lib.hid (by have h1 : ¬ kids.length = 0 := by rw [← Hn.out]; exact hn
                                              rw [HR.out]; simp [rightK, kidsN, h1])
    go_wp2_with fail
    go_ret
    exact ⟨by rw [HF.out]; rfl, HB1.out⟩
set_option maxHeartbeats 32000000 in
set_option maxRecDepth 100000 in
theorem rightR_k2 (d : Nat) (hd : d < 40) (ih : RightRC (d + 1)) (p : Int) (col : List UInt8) (op : Int) (v : Val) (kids : List Tree) (hcl : col.length ≤ 100000) (hzs : Tree.sizeds kids) (hwv : v.Wf) (hws : WfTs kids) (w : World) (S : Nat → Prop) (a : Option Addr) (n c : Nat) (hks : KSl w S kids a n) : Calls Tryz.prog 19 #[(Tree.mk 2 p col op v kids).val a n c, .int .i64 (d : Int)] w fun e w' => e = .returned (.bool (rightT d (.mk 2 p col op v kids))) ∧ Below w.heap.size w w' := by
  have Hks := Lib.hid hks
  have Hn := Lib.hid hks.len
  have Hzs := Lib.hid hzs; have Hws := Lib.hid hws; have Hwv := Lib.hid hwv; have Hcl := Lib.hid hcl
  obtain ⟨D, hDD⟩ : ∃ D : Int, D = (d : Int) := ⟨_, rfl⟩
  have HD : Hid (D = (d : Int) ∧ d < 40) := Lib.hid ⟨hDD, hd⟩
  have IH : Hid (∀ u ∈ kids, ∀ (w : World) (S : Nat → Prop) (a : Option Addr) (n c : Nat), KSl w S u.kids a n → Calls Tryz.prog 19 #[u.val a n c, .int .i64 (D + 1)] w fun e w' => e = .returned (.bool (rightT (d + 1) u)) ∧ Below w.heap.size w w') := Lib.hid fun u hu w S a n c hk => by
    have := ih u (sized_mem hzs hu) (wfTs_mem hws hu) w S a n c hk
    rwa [show ((d + 1 : Nat) : Int) = D + 1 by omega] at this
  rw [← hDD]
  generalize hRR : rightT d (.mk 2 p col op v kids) = RR
  have HR : Hid (RR = (rightK d 2 col op v kids.length && rightTs (d + 1) 2 kids)) := Lib.hid (by rw [← hRR, rightT_mk])
  have hD0 : (D == 40) = false := beq_eq_false_iff_ne.2 (by omega)
  have hD1 : 0 ≤ D := by omega
  have hD2 : D ≤ 39 := by omega
  clear hks ih hzs hws hwv hcl hRR hDD hd
  simp only [Tree.val, Tree.k, Tree.pos, Tree.col, Tree.v, Tree.op]
  have hb0 := Below.new w (.cells #[.int .i64 2, .int .i64 p, .string ⟨col.toArray⟩, .int .i64 v.k, .int .i64 v.n, .string v.s, .int .u64 v.f, .int .i64 op, .slice a n c] 30)
  have HV0 := Lib.hid (KVar.new w (Tree.mk 2 p col op v kids) a n c 30)
  have Hb0 := Lib.hid hb0
  clear hb0
  go_enter Tryz.func19, Tryz.ntmps19
  go_upto_region 4 with fail
  generalize hW : ((w.alloc _).alloc _) = W1
  have hbb : Below (w.alloc (.cells #[.int .i64 2, .int .i64 p, .string ⟨col.toArray⟩, .int .i64 v.k, .int .i64 v.n, .string v.s, .int .u64 v.f, .int .i64 op, .slice a n c] 30)).heap.size (w.alloc (.cells #[.int .i64 2, .int .i64 p, .string ⟨col.toArray⟩, .int .i64 v.k, .int .i64 v.n, .string v.s, .int .u64 v.f, .int .i64 op, .slice a n c] 30)) W1 := by rw [← hW]; exact Below.new _ _
  have HB1 : Hid (Below w.heap.size w W1) := Lib.hid (Hb0.out.trans (hbb.mono Hb0.out.size))
  have HV1 := Lib.hid (HV0.out.below hbb HV0.out.lt)
  have Hks1 := Lib.hid ((Hks.out.later Hb0.out).later hbb)
  clear hW hbb HV0 Hb0
  generalize w.heap.size = Z at HV1
  obtain ⟨c0, c1, c2, c3, c4, c5, c6, c7, c8, -, -⟩ := HV1.out
  dsimp only [Tree.k, Tree.pos, Tree.col, Tree.v, Tree.op] at c0 c1 c2 c3 c4 c5 c6 c7
  by_cases hn : n = 2
  · subst hn
    have Hnn : Hid (kids.length = 2) := Lib.hid Hn.out.symm
    go_wp2_with fail
    clear c0 c1 c2 c3 c4 c5 c6 c7 c8
    go_loopg [33] 2 (fun g i wx => ∃ (j : Nat) (I : Int), i = .int .i64 I ∧ Hid (I = (j : Int) ∧ j + g = 2 ∧ rightTs (d + 1) 2 (kids.take j) = true) ∧ Below W1.heap.size W1 wx)
    case atStart => exact ⟨0, 0, rfl, Lib.hid ⟨rfl, by omega, by rw [List.take_zero, rightTs]⟩, Below.refl _ _⟩
    case round =>
      obtain ⟨j, I, rfl, HI, hbx⟩ := hrel
      have Hbx := Lib.hid hbx
      have HB : Hid (Below w.heap.size w wr) := Lib.hid (HB1.out.trans (hbx.mono HB1.out.size))
      have HV := Lib.hid (HV1.out.below hbx HV1.out.lt)
      clear hbx
      obtain ⟨c0, c1, c2, c3, c4, c5, c6, c7, c8, -, -⟩ := HV.out
      dsimp only [Tree.k, Tree.pos, Tree.col, Tree.v, Tree.op] at c0 c1 c2 c3 c4 c5 c6 c7
      by_cases hm : gk = 0
      · have hIn : I = 2 := by have := HI.out; omega
        have HT : Hid (rightTs (d + 1) 2 kids = true) := Lib.hid (by
          have h1 := HI.out
          rw [List.take_of_length_le (by have := Hnn.out; omega)] at h1
          exact h1.2.2)
        clear hm HI
        subst hIn
        by_cases hcol : col = []
        · subst hcol
          by_cases hz : v.isZero = true
          · obtain rfl := isZero_eq hz
            have hzT := hz
            dsimp only [zeroVal] at c3 c4 c5 c6
            by_cases ho : 0 ≤ op
            · by_cases ho5 : op ≤ 5
              · have HF : Hid (RR = true) := Lib.hid (by rw [HR.out, HT.out]; simp [rightK, kidsN, HD.out.2, Hnn.out, ho, ho5, hzT])
                go_wp2_with fail
                go_ret
                exact ⟨by rw [HF.out]; rfl, HB.out⟩
              · have HF : Hid (RR = false) := Lib.hid (by rw [HR.out, HT.out]; simp [rightK, kidsN, HD.out.2, Hnn.out, ho, ho5, hzT])
                go_wp2_with fail
                go_ret
                exact ⟨by rw [HF.out]; rfl, HB.out⟩
            · have HF : Hid (RR = false) := Lib.hid (by rw [HR.out, HT.out]; simp [rightK, kidsN, HD.out.2, Hnn.out, ho, hzT])
              go_wp2_with fail
              go_ret
              exact ⟨by rw [HF.out]; rfl, HB.out⟩
          · have hzT : v.isZero = false := by simpa using hz
            have HF : Hid (RR = false) := Lib.hid (by rw [HR.out]; simp [rightK, hzT])
            have HZ := Lib.hid hzT
            clear hz hzT
            go_wp2_with fail
            all_goals first
              | (go_ret; exact ⟨by rw [HF.out]; rfl, HB.out⟩)
              | (refine absurd ?_ (Bool.eq_false_iff.1 HZ.out); exact zero_told (by assumption) (by assumption) (by assumption) (by assumption))
        · have hce : (!col.isEmpty) = true := by cases col with
            | nil => exact absurd rfl hcol
            | cons a l => rfl
          have HF : Hid (RR = false) := Lib.hid (by rw [HR.out]; simp [rightK, hcol])
          go_wp2_with fail
          go_ret
          exact ⟨by rw [HF.out]; rfl, HB.out⟩
      · have hI1 : I < 2 := by have := HI.out; omega
        have hI0 : 0 ≤ I := by have := HI.out; omega
        have hIj : I.toNat = j := by have := HI.out; omega
        obtain ⟨k, hk⟩ : ∃ k, kids[j]? = some k := ⟨kids[j]'(by have := HI.out; have := Hnn.out; omega), List.getElem?_eq_getElem _⟩
        obtain ⟨b, o, ka, kn, kc, ea, hka, hkk2⟩ := Hks1.out.get hk
        subst ea
        have Hm := Lib.hid hm
        have Hkj := Lib.hid hk
        have HTn := Lib.hid (rightTs_next (d := d + 1) (k := 2) hk)
        have Hka := Lib.hid (hka.map fun i v hc => (Hbx.out.cell (World.block_lt_of_cell? W1 _ hc)).trans hc)
        have hksw := hkk2.later Hbx.out
        have hbn := Below.new wr (.cells (k.cells ka kn kc) 30)
        have Hc := Lib.hid (IH.out k (get_mem hk) _ S ka kn kc (hksw.later hbn))
        have HVn := Lib.hid (HV.out.below hbn HV.out.lt)
        have Hkv := Lib.hid (KVar.new wr k ka kn kc 30)
        have HBx2 := Lib.hid (Hbx.out.trans (hbn.mono Hbx.out.size))
        clear hk hka hkk2 hm hksw hbn
        obtain ⟨k0, k1, k2, k3, k4, k5, k6, k7, k8⟩ := Hka.out
        go_upto_region 9 with fail
        clear k0 k1 k2 k3 k4 k5 k6 k7 k8 c0 c1 c2 c3 c4 c5 c6 c7 c8
        generalize (wr.alloc _) = W2 at Hc HVn Hkv HBx2 ⊢
        generalize wr.heap.size = Y at Hkv ⊢
        obtain ⟨k0, k1, k2, k3, k4, k5, k6, k7, k8, -, -⟩ := Hkv.out
        cases hB : rightT (d + 1) k with
        | false =>
          have HF : Hid (RR = false) := Lib.hid (by rw [HR.out, rightTs_bad Hkj.out (.inr hB)]; simp)
          rw [hB] at Hc
          clear hB
          go_wp2_with fail
          refine Hc.out.mono ?_
          rintro e w3 ⟨rfl, hb3⟩
          have HB3 := Lib.hid (HB1.out.trans ((HBx2.out.trans (hb3.mono HBx2.out.size)).mono HB1.out.size))
          clear hb3
          go_wp2_with fail
          go_ret
          exact ⟨by rw [HF.out]; rfl, HB3.out⟩
        | true =>
          have Hk0 := Lib.hid (right_kind hB)
          have HBk := Lib.hid hB
          rw [hB] at Hc
          clear hB
          go_wp2_with fail
          refine Hc.out.mono ?_
          rintro e w3 ⟨rfl, hb3⟩
          have HBx3 := Lib.hid (HBx2.out.trans (hb3.mono HBx2.out.size))
          obtain ⟨c0, c1, c2, c3, c4, c5, c6, c7, c8, -, -⟩ := HVn.out.below hb3 HVn.out.lt
          dsimp only [Tree.k, Tree.pos, Tree.col, Tree.v, Tree.op] at c0 c1 c2 c3 c4 c5 c6 c7
          replace Hkv := Lib.hid (Hkv.out.below hb3 Hkv.out.lt)
          clear hb3 k0 k1 k2 k3 k4 k5 k6 k7 k8
          have k0 := Hkv.out.c0
          by_cases h1 : 1 < k.k
          · have hd1 : decide (1 < k.k) = true := decide_eq_true h1
            have HF : Hid (RR = false) := Lib.hid (by rw [HR.out, rightTs_bad Hkj.out (.inl ⟨by decide, decide_eq_false (by have := Hk0.out; omega)⟩)]; simp)
            have HB3 := Lib.hid (HB1.out.trans (HBx3.out.mono HB1.out.size))
            go_wp2_with fail
            go_ret
            exact ⟨by rw [HF.out]; rfl, HB3.out⟩
          · have hd1 : decide (1 < k.k) = false := decide_eq_false h1
            have HL : Hid (k.k = 0 ∨ k.k = 1) := Lib.hid (by have := Hk0.out; omega)
            go_wp2_with fail
            go_roundg (gk - 1)
            case measure => have := Hm.out; omega
            case rel => exact ⟨j + 1, I + 1, rfl, Lib.hid ⟨by have := HI.out; omega, by have := HI.out; have := Hm.out; omega, by rw [HTn.out, HI.out.2.2, HBk.out]; simp [HL.out]⟩, HBx3.out⟩
  · have hne : ((n : Int) != 2) = true := bne_iff_ne.2 (by omega)
    have HF : Hid (RR = false) := Lib.hid (by have h1 : ¬ kids.length = 2 := by rw [← Hn.out]; exact hn
                                              rw [HR.out]; simp [rightK, kidsN, h1])
    go_wp2_with fail
    go_ret
    exact ⟨by rw [HF.out]; rfl, HB1.out⟩
set_option maxHeartbeats 32000000 in
set_option maxRecDepth 100000 in
theorem rightR_k3 (d : Nat) (hd : d < 40) (ih : RightRC (d + 1)) (p : Int) (col : List UInt8) (op : Int) (v : Val) (kids : List Tree) (hcl : col.length ≤ 100000) (hzs : Tree.sizeds kids) (hwv : v.Wf) (hws : WfTs kids) (w : World) (S : Nat → Prop) (a : Option Addr) (n c : Nat) (hks : KSl w S kids a n) : Calls Tryz.prog 19 #[(Tree.mk 3 p col op v kids).val a n c, .int .i64 (d : Int)] w fun e w' => e = .returned (.bool (rightT d (.mk 3 p col op v kids))) ∧ Below w.heap.size w w' := by
  have Hks := Lib.hid hks
  have Hn := Lib.hid hks.len
  have Hzs := Lib.hid hzs; have Hws := Lib.hid hws; have Hwv := Lib.hid hwv; have Hcl := Lib.hid hcl
  obtain ⟨D, hDD⟩ : ∃ D : Int, D = (d : Int) := ⟨_, rfl⟩
  have HD : Hid (D = (d : Int) ∧ d < 40) := Lib.hid ⟨hDD, hd⟩
  have IH : Hid (∀ u ∈ kids, ∀ (w : World) (S : Nat → Prop) (a : Option Addr) (n c : Nat), KSl w S u.kids a n → Calls Tryz.prog 19 #[u.val a n c, .int .i64 (D + 1)] w fun e w' => e = .returned (.bool (rightT (d + 1) u)) ∧ Below w.heap.size w w') := Lib.hid fun u hu w S a n c hk => by
    have := ih u (sized_mem hzs hu) (wfTs_mem hws hu) w S a n c hk
    rwa [show ((d + 1 : Nat) : Int) = D + 1 by omega] at this
  rw [← hDD]
  generalize hRR : rightT d (.mk 3 p col op v kids) = RR
  have HR : Hid (RR = (rightK d 3 col op v kids.length && rightTs (d + 1) 3 kids)) := Lib.hid (by rw [← hRR, rightT_mk])
  have hD0 : (D == 40) = false := beq_eq_false_iff_ne.2 (by omega)
  have hD1 : 0 ≤ D := by omega
  have hD2 : D ≤ 39 := by omega
  clear hks ih hzs hws hwv hcl hRR hDD hd
  simp only [Tree.val, Tree.k, Tree.pos, Tree.col, Tree.v, Tree.op]
  have hb0 := Below.new w (.cells #[.int .i64 3, .int .i64 p, .string ⟨col.toArray⟩, .int .i64 v.k, .int .i64 v.n, .string v.s, .int .u64 v.f, .int .i64 op, .slice a n c] 30)
  have HV0 := Lib.hid (KVar.new w (Tree.mk 3 p col op v kids) a n c 30)
  have Hb0 := Lib.hid hb0
  clear hb0
  go_enter Tryz.func19, Tryz.ntmps19
  go_upto_region 4 with fail
  generalize hW : ((w.alloc _).alloc _) = W1
  have hbb : Below (w.alloc (.cells #[.int .i64 3, .int .i64 p, .string ⟨col.toArray⟩, .int .i64 v.k, .int .i64 v.n, .string v.s, .int .u64 v.f, .int .i64 op, .slice a n c] 30)).heap.size (w.alloc (.cells #[.int .i64 3, .int .i64 p, .string ⟨col.toArray⟩, .int .i64 v.k, .int .i64 v.n, .string v.s, .int .u64 v.f, .int .i64 op, .slice a n c] 30)) W1 := by rw [← hW]; exact Below.new _ _
  have HB1 : Hid (Below w.heap.size w W1) := Lib.hid (Hb0.out.trans (hbb.mono Hb0.out.size))
  have HV1 := Lib.hid (HV0.out.below hbb HV0.out.lt)
  have Hks1 := Lib.hid ((Hks.out.later Hb0.out).later hbb)
  clear hW hbb HV0 Hb0
  generalize w.heap.size = Z at HV1
  obtain ⟨c0, c1, c2, c3, c4, c5, c6, c7, c8, -, -⟩ := HV1.out
  dsimp only [Tree.k, Tree.pos, Tree.col, Tree.v, Tree.op] at c0 c1 c2 c3 c4 c5 c6 c7
  by_cases hn : n = 1
  · subst hn
    have Hnn : Hid (kids.length = 1) := Lib.hid Hn.out.symm
    go_wp2_with fail
    clear c0 c1 c2 c3 c4 c5 c6 c7 c8
    go_loopg [33] 1 (fun g i wx => ∃ (j : Nat) (I : Int), i = .int .i64 I ∧ Hid (I = (j : Int) ∧ j + g = 1 ∧ rightTs (d + 1) 3 (kids.take j) = true) ∧ Below W1.heap.size W1 wx)
    case atStart => exact ⟨0, 0, rfl, Lib.hid ⟨rfl, by omega, by rw [List.take_zero, rightTs]⟩, Below.refl _ _⟩
    case round =>
      obtain ⟨j, I, rfl, HI, hbx⟩ := hrel
      have Hbx := Lib.hid hbx
      have HB : Hid (Below w.heap.size w wr) := Lib.hid (HB1.out.trans (hbx.mono HB1.out.size))
      have HV := Lib.hid (HV1.out.below hbx HV1.out.lt)
      clear hbx
      obtain ⟨c0, c1, c2, c3, c4, c5, c6, c7, c8, -, -⟩ := HV.out
      dsimp only [Tree.k, Tree.pos, Tree.col, Tree.v, Tree.op] at c0 c1 c2 c3 c4 c5 c6 c7
      by_cases hm : gk = 0
      · have hIn : I = 1 := by have := HI.out; omega
        have HT : Hid (rightTs (d + 1) 3 kids = true) := Lib.hid (by
          have h1 := HI.out
          rw [List.take_of_length_le (by have := Hnn.out; omega)] at h1
          exact h1.2.2)
        clear hm HI
        subst hIn
        by_cases hcol : col = []
        · subst hcol
          by_cases hz : v.isZero = true
          · obtain rfl := isZero_eq hz
            have hzT := hz
            dsimp only [zeroVal] at c3 c4 c5 c6
            by_cases ho : op = 0
            · subst ho
              have HF : Hid (RR = true) := Lib.hid (by rw [HR.out, HT.out]; simp [rightK, kidsN, HD.out.2, Hnn.out, hzT])
              go_wp2_with fail
              go_ret
              exact ⟨by rw [HF.out]; rfl, HB.out⟩
            · have hoe : (op == 0) = false := beq_eq_false_iff_ne.2 ho
              have HF : Hid (RR = false) := Lib.hid (by rw [HR.out, HT.out]; simp [rightK, kidsN, HD.out.2, Hnn.out, ho, hzT])
              go_wp2_with fail
              go_ret
              exact ⟨by rw [HF.out]; rfl, HB.out⟩
          · have hzT : v.isZero = false := by simpa using hz
            have HF : Hid (RR = false) := Lib.hid (by rw [HR.out]; simp [rightK, hzT])
            have HZ := Lib.hid hzT
            clear hz hzT
            go_wp2_with fail
            all_goals first
              | (go_ret; exact ⟨by rw [HF.out]; rfl, HB.out⟩)
              | (refine absurd ?_ (Bool.eq_false_iff.1 HZ.out); exact zero_told (by assumption) (by assumption) (by assumption) (by assumption))
        · have hce : (!col.isEmpty) = true := by cases col with
            | nil => exact absurd rfl hcol
            | cons a l => rfl
          have HF : Hid (RR = false) := Lib.hid (by rw [HR.out]; simp [rightK, hcol])
          go_wp2_with fail
          go_ret
          exact ⟨by rw [HF.out]; rfl, HB.out⟩
      · have hI1 : I < 1 := by have := HI.out; omega
        have hI0 : 0 ≤ I := by have := HI.out; omega
        have hIj : I.toNat = j := by have := HI.out; omega
        obtain ⟨k, hk⟩ : ∃ k, kids[j]? = some k := ⟨kids[j]'(by have := HI.out; have := Hnn.out; omega), List.getElem?_eq_getElem _⟩
        obtain ⟨b, o, ka, kn, kc, ea, hka, hkk2⟩ := Hks1.out.get hk
        subst ea
        have Hm := Lib.hid hm
        have Hkj := Lib.hid hk
        have HTn := Lib.hid (rightTs_next (d := d + 1) (k := 3) hk)
        have Hka := Lib.hid (hka.map fun i v hc => (Hbx.out.cell (World.block_lt_of_cell? W1 _ hc)).trans hc)
        have hksw := hkk2.later Hbx.out
        have hbn := Below.new wr (.cells (k.cells ka kn kc) 30)
        have Hc := Lib.hid (IH.out k (get_mem hk) _ S ka kn kc (hksw.later hbn))
        have HVn := Lib.hid (HV.out.below hbn HV.out.lt)
        have Hkv := Lib.hid (KVar.new wr k ka kn kc 30)
        have HBx2 := Lib.hid (Hbx.out.trans (hbn.mono Hbx.out.size))
        clear hk hka hkk2 hm hksw hbn
        obtain ⟨k0, k1, k2, k3, k4, k5, k6, k7, k8⟩ := Hka.out
        go_upto_region 9 with fail
        clear k0 k1 k2 k3 k4 k5 k6 k7 k8 c0 c1 c2 c3 c4 c5 c6 c7 c8
        generalize (wr.alloc _) = W2 at Hc HVn Hkv HBx2 ⊢
        generalize wr.heap.size = Y at Hkv ⊢
        obtain ⟨k0, k1, k2, k3, k4, k5, k6, k7, k8, -, -⟩ := Hkv.out
        cases hB : rightT (d + 1) k with
        | false =>
          have HF : Hid (RR = false) := Lib.hid (by rw [HR.out, rightTs_bad Hkj.out (.inr hB)]; simp)
          rw [hB] at Hc
          clear hB
          go_wp2_with fail
          refine Hc.out.mono ?_
          rintro e w3 ⟨rfl, hb3⟩
          have HB3 := Lib.hid (HB1.out.trans ((HBx2.out.trans (hb3.mono HBx2.out.size)).mono HB1.out.size))
          clear hb3
          go_wp2_with fail
          go_ret
          exact ⟨by rw [HF.out]; rfl, HB3.out⟩
        | true =>
          have Hk0 := Lib.hid (right_kind hB)
          have HBk := Lib.hid hB
          rw [hB] at Hc
          clear hB
          go_wp2_with fail
          refine Hc.out.mono ?_
          rintro e w3 ⟨rfl, hb3⟩
          have HBx3 := Lib.hid (HBx2.out.trans (hb3.mono HBx2.out.size))
          obtain ⟨c0, c1, c2, c3, c4, c5, c6, c7, c8, -, -⟩ := HVn.out.below hb3 HVn.out.lt
          dsimp only [Tree.k, Tree.pos, Tree.col, Tree.v, Tree.op] at c0 c1 c2 c3 c4 c5 c6 c7
          replace Hkv := Lib.hid (Hkv.out.below hb3 Hkv.out.lt)
          clear hb3 k0 k1 k2 k3 k4 k5 k6 k7 k8
          have k0 := Hkv.out.c0
          by_cases h1 : 1 < k.k
          · have hd1 : decide (1 < k.k) = true := decide_eq_true h1
            have HF : Hid (RR = false) := Lib.hid (by rw [HR.out, rightTs_bad Hkj.out (.inl ⟨by decide, decide_eq_false (by have := Hk0.out; omega)⟩)]; simp)
            have HB3 := Lib.hid (HB1.out.trans (HBx3.out.mono HB1.out.size))
            go_wp2_with fail
            go_ret
            exact ⟨by rw [HF.out]; rfl, HB3.out⟩
          · have hd1 : decide (1 < k.k) = false := decide_eq_false h1
            have HL : Hid (k.k = 0 ∨ k.k = 1) := Lib.hid (by have := Hk0.out; omega)
            go_wp2_with fail
            go_roundg (gk - 1)
            case measure => have := Hm.out; omega
            case rel => exact ⟨j + 1, I + 1, rfl, Lib.hid ⟨by have := HI.out; omega, by have := HI.out; have := Hm.out; omega, by rw [HTn.out, HI.out.2.2, HBk.out]; simp [HL.out]⟩, HBx3.out⟩
  · have hne : ((n : Int) != 1) = true := bne_iff_ne.2 (by omega)
    have HF : Hid (RR = false) := Lib.hid (by have h1 : ¬ kids.length = 1 := by rw [← Hn.out]; exact hn
                                              rw [HR.out]; simp [rightK, kidsN, h1])
    go_wp2_with fail
    go_ret
    exact ⟨by rw [HF.out]; rfl, HB1.out⟩
set_option maxHeartbeats 32000000 in
set_option maxRecDepth 100000 in
theorem rightR_k4 (d : Nat) (hd : d < 40) (ih : RightRC (d + 1)) (p : Int) (col : List UInt8) (op : Int) (v : Val) (kids : List Tree) (hcl : col.length ≤ 100000) (hzs : Tree.sizeds kids) (hwv : v.Wf) (hws : WfTs kids) (w : World) (S : Nat → Prop) (a : Option Addr) (n c : Nat) (hks : KSl w S kids a n) : Calls Tryz.prog 19 #[(Tree.mk 4 p col op v kids).val a n c, .int .i64 (d : Int)] w fun e w' => e = .returned (.bool (rightT d (.mk 4 p col op v kids))) ∧ Below w.heap.size w w' := by
  have Hks := Lib.hid hks
  have Hn := Lib.hid hks.len
  have Hzs := Lib.hid hzs; have Hws := Lib.hid hws; have Hwv := Lib.hid hwv; have Hcl := Lib.hid hcl
  obtain ⟨D, hDD⟩ : ∃ D : Int, D = (d : Int) := ⟨_, rfl⟩
  have HD : Hid (D = (d : Int) ∧ d < 40) := Lib.hid ⟨hDD, hd⟩
  have IH : Hid (∀ u ∈ kids, ∀ (w : World) (S : Nat → Prop) (a : Option Addr) (n c : Nat), KSl w S u.kids a n → Calls Tryz.prog 19 #[u.val a n c, .int .i64 (D + 1)] w fun e w' => e = .returned (.bool (rightT (d + 1) u)) ∧ Below w.heap.size w w') := Lib.hid fun u hu w S a n c hk => by
    have := ih u (sized_mem hzs hu) (wfTs_mem hws hu) w S a n c hk
    rwa [show ((d + 1 : Nat) : Int) = D + 1 by omega] at this
  rw [← hDD]
  generalize hRR : rightT d (.mk 4 p col op v kids) = RR
  have HR : Hid (RR = (rightK d 4 col op v kids.length && rightTs (d + 1) 4 kids)) := Lib.hid (by rw [← hRR, rightT_mk])
  have hD0 : (D == 40) = false := beq_eq_false_iff_ne.2 (by omega)
  have hD1 : 0 ≤ D := by omega
  have hD2 : D ≤ 39 := by omega
  clear hks ih hzs hws hwv hcl hRR hDD hd
  simp only [Tree.val, Tree.k, Tree.pos, Tree.col, Tree.v, Tree.op]
  have hb0 := Below.new w (.cells #[.int .i64 4, .int .i64 p, .string ⟨col.toArray⟩, .int .i64 v.k, .int .i64 v.n, .string v.s, .int .u64 v.f, .int .i64 op, .slice a n c] 30)
  have HV0 := Lib.hid (KVar.new w (Tree.mk 4 p col op v kids) a n c 30)
  have Hb0 := Lib.hid hb0
  clear hb0
  go_enter Tryz.func19, Tryz.ntmps19
  go_upto_region 4 with fail
  generalize hW : ((w.alloc _).alloc _) = W1
  have hbb : Below (w.alloc (.cells #[.int .i64 4, .int .i64 p, .string ⟨col.toArray⟩, .int .i64 v.k, .int .i64 v.n, .string v.s, .int .u64 v.f, .int .i64 op, .slice a n c] 30)).heap.size (w.alloc (.cells #[.int .i64 4, .int .i64 p, .string ⟨col.toArray⟩, .int .i64 v.k, .int .i64 v.n, .string v.s, .int .u64 v.f, .int .i64 op, .slice a n c] 30)) W1 := by rw [← hW]; exact Below.new _ _
  have HB1 : Hid (Below w.heap.size w W1) := Lib.hid (Hb0.out.trans (hbb.mono Hb0.out.size))
  have HV1 := Lib.hid (HV0.out.below hbb HV0.out.lt)
  have Hks1 := Lib.hid ((Hks.out.later Hb0.out).later hbb)
  clear hW hbb HV0 Hb0
  generalize w.heap.size = Z at HV1
  obtain ⟨c0, c1, c2, c3, c4, c5, c6, c7, c8, -, -⟩ := HV1.out
  dsimp only [Tree.k, Tree.pos, Tree.col, Tree.v, Tree.op] at c0 c1 c2 c3 c4 c5 c6 c7
  by_cases hn : n = 1
  · subst hn
    have Hnn : Hid (kids.length = 1) := Lib.hid Hn.out.symm
    go_wp2_with fail
    clear c0 c1 c2 c3 c4 c5 c6 c7 c8
    go_loopg [33] 1 (fun g i wx => ∃ (j : Nat) (I : Int), i = .int .i64 I ∧ Hid (I = (j : Int) ∧ j + g = 1 ∧ rightTs (d + 1) 4 (kids.take j) = true) ∧ Below W1.heap.size W1 wx)
    case atStart => exact ⟨0, 0, rfl, Lib.hid ⟨rfl, by omega, by rw [List.take_zero, rightTs]⟩, Below.refl _ _⟩
    case round =>
      obtain ⟨j, I, rfl, HI, hbx⟩ := hrel
      have Hbx := Lib.hid hbx
      have HB : Hid (Below w.heap.size w wr) := Lib.hid (HB1.out.trans (hbx.mono HB1.out.size))
      have HV := Lib.hid (HV1.out.below hbx HV1.out.lt)
      clear hbx
      obtain ⟨c0, c1, c2, c3, c4, c5, c6, c7, c8, -, -⟩ := HV.out
      dsimp only [Tree.k, Tree.pos, Tree.col, Tree.v, Tree.op] at c0 c1 c2 c3 c4 c5 c6 c7
      by_cases hm : gk = 0
      · have hIn : I = 1 := by have := HI.out; omega
        have HT : Hid (rightTs (d + 1) 4 kids = true) := Lib.hid (by
          have h1 := HI.out
          rw [List.take_of_length_le (by have := Hnn.out; omega)] at h1
          exact h1.2.2)
        clear hm HI
        subst hIn
        by_cases hcol : col = []
        · subst hcol
          by_cases hz : v.isZero = true
          · obtain rfl := isZero_eq hz
            have hzT := hz
            dsimp only [zeroVal] at c3 c4 c5 c6
            by_cases ho : op = 0
            · subst ho
              have HF : Hid (RR = true) := Lib.hid (by rw [HR.out, HT.out]; simp [rightK, kidsN, HD.out.2, Hnn.out, hzT])
              go_wp2_with fail
              go_ret
              exact ⟨by rw [HF.out]; rfl, HB.out⟩
            · have hoe : (op == 0) = false := beq_eq_false_iff_ne.2 ho
              have HF : Hid (RR = false) := Lib.hid (by rw [HR.out, HT.out]; simp [rightK, kidsN, HD.out.2, Hnn.out, ho, hzT])
              go_wp2_with fail
              go_ret
              exact ⟨by rw [HF.out]; rfl, HB.out⟩
          · have hzT : v.isZero = false := by simpa using hz
            have HF : Hid (RR = false) := Lib.hid (by rw [HR.out]; simp [rightK, hzT])
            have HZ := Lib.hid hzT
            clear hz hzT
            go_wp2_with fail
            all_goals first
              | (go_ret; exact ⟨by rw [HF.out]; rfl, HB.out⟩)
              | (refine absurd ?_ (Bool.eq_false_iff.1 HZ.out); exact zero_told (by assumption) (by assumption) (by assumption) (by assumption))
        · have hce : (!col.isEmpty) = true := by cases col with
            | nil => exact absurd rfl hcol
            | cons a l => rfl
          have HF : Hid (RR = false) := Lib.hid (by rw [HR.out]; simp [rightK, hcol])
          go_wp2_with fail
          go_ret
          exact ⟨by rw [HF.out]; rfl, HB.out⟩
      · have hI1 : I < 1 := by have := HI.out; omega
        have hI0 : 0 ≤ I := by have := HI.out; omega
        have hIj : I.toNat = j := by have := HI.out; omega
        obtain ⟨k, hk⟩ : ∃ k, kids[j]? = some k := ⟨kids[j]'(by have := HI.out; have := Hnn.out; omega), List.getElem?_eq_getElem _⟩
        obtain ⟨b, o, ka, kn, kc, ea, hka, hkk2⟩ := Hks1.out.get hk
        subst ea
        have Hm := Lib.hid hm
        have Hkj := Lib.hid hk
        have HTn := Lib.hid (rightTs_next (d := d + 1) (k := 4) hk)
        have Hka := Lib.hid (hka.map fun i v hc => (Hbx.out.cell (World.block_lt_of_cell? W1 _ hc)).trans hc)
        have hksw := hkk2.later Hbx.out
        have hbn := Below.new wr (.cells (k.cells ka kn kc) 30)
        have Hc := Lib.hid (IH.out k (get_mem hk) _ S ka kn kc (hksw.later hbn))
        have HVn := Lib.hid (HV.out.below hbn HV.out.lt)
        have Hkv := Lib.hid (KVar.new wr k ka kn kc 30)
        have HBx2 := Lib.hid (Hbx.out.trans (hbn.mono Hbx.out.size))
        clear hk hka hkk2 hm hksw hbn
        obtain ⟨k0, k1, k2, k3, k4, k5, k6, k7, k8⟩ := Hka.out
        go_upto_region 9 with fail
        clear k0 k1 k2 k3 k4 k5 k6 k7 k8 c0 c1 c2 c3 c4 c5 c6 c7 c8
        generalize (wr.alloc _) = W2 at Hc HVn Hkv HBx2 ⊢
        generalize wr.heap.size = Y at Hkv ⊢
        obtain ⟨k0, k1, k2, k3, k4, k5, k6, k7, k8, -, -⟩ := Hkv.out
        cases hB : rightT (d + 1) k with
        | false =>
          have HF : Hid (RR = false) := Lib.hid (by rw [HR.out, rightTs_bad Hkj.out (.inr hB)]; simp)
          rw [hB] at Hc
          clear hB
          go_wp2_with fail
          refine Hc.out.mono ?_
          rintro e w3 ⟨rfl, hb3⟩
          have HB3 := Lib.hid (HB1.out.trans ((HBx2.out.trans (hb3.mono HBx2.out.size)).mono HB1.out.size))
          clear hb3
          go_wp2_with fail
          go_ret
          exact ⟨by rw [HF.out]; rfl, HB3.out⟩
        | true =>
          have Hk0 := Lib.hid (right_kind hB)
          have HBk := Lib.hid hB
          rw [hB] at Hc
          clear hB
          go_wp2_with fail
          refine Hc.out.mono ?_
          rintro e w3 ⟨rfl, hb3⟩
          have HBx3 := Lib.hid (HBx2.out.trans (hb3.mono HBx2.out.size))
          obtain ⟨c0, c1, c2, c3, c4, c5, c6, c7, c8, -, -⟩ := HVn.out.below hb3 HVn.out.lt
          dsimp only [Tree.k, Tree.pos, Tree.col, Tree.v, Tree.op] at c0 c1 c2 c3 c4 c5 c6 c7
          replace Hkv := Lib.hid (Hkv.out.below hb3 Hkv.out.lt)
          clear hb3 k0 k1 k2 k3 k4 k5 k6 k7 k8
          have k0 := Hkv.out.c0
          go_wp2_with fail
          go_roundg (gk - 1)
          case measure => have := Hm.out; omega
          case rel => exact ⟨j + 1, I + 1, rfl, Lib.hid ⟨by have := HI.out; omega, by have := HI.out; have := Hm.out; omega, by rw [HTn.out, HI.out.2.2, HBk.out]; simp⟩, HBx3.out⟩
  · have hne : ((n : Int) != 1) = true := bne_iff_ne.2 (by omega)
    have HF : Hid (RR = false) := Lib.hid (by have h1 : ¬ kids.length = 1 := by rw [← Hn.out]; exact hn
                                              rw [HR.out]; simp [rightK, kidsN, h1])
    go_wp2_with fail
    go_ret
    exact ⟨by rw [HF.out]; rfl, HB1.out⟩
set_option maxHeartbeats 32000000 in
set_option maxRecDepth 100000 in
theorem rightR_k5 (d : Nat) (hd : d < 40) (ih : RightRC (d + 1)) (p : Int) (col : List UInt8) (op : Int) (v : Val) (kids : List Tree) (hcl : col.length ≤ 100000) (hzs : Tree.sizeds kids) (hwv : v.Wf) (hws : WfTs kids) (w : World) (S : Nat → Prop) (a : Option Addr) (n c : Nat) (hks : KSl w S kids a n) : Calls Tryz.prog 19 #[(Tree.mk 5 p col op v kids).val a n c, .int .i64 (d : Int)] w fun e w' => e = .returned (.bool (rightT d (.mk 5 p col op v kids))) ∧ Below w.heap.size w w' := by
  have Hks := Lib.hid hks
  have Hn := Lib.hid hks.len
  have Hzs := Lib.hid hzs; have Hws := Lib.hid hws; have Hwv := Lib.hid hwv; have Hcl := Lib.hid hcl
  obtain ⟨D, hDD⟩ : ∃ D : Int, D = (d : Int) := ⟨_, rfl⟩
  have HD : Hid (D = (d : Int) ∧ d < 40) := Lib.hid ⟨hDD, hd⟩
  have IH : Hid (∀ u ∈ kids, ∀ (w : World) (S : Nat → Prop) (a : Option Addr) (n c : Nat), KSl w S u.kids a n → Calls Tryz.prog 19 #[u.val a n c, .int .i64 (D + 1)] w fun e w' => e = .returned (.bool (rightT (d + 1) u)) ∧ Below w.heap.size w w') := Lib.hid fun u hu w S a n c hk => by
    have := ih u (sized_mem hzs hu) (wfTs_mem hws hu) w S a n c hk
    rwa [show ((d + 1 : Nat) : Int) = D + 1 by omega] at this
  rw [← hDD]
  generalize hRR : rightT d (.mk 5 p col op v kids) = RR
  have HR : Hid (RR = (rightK d 5 col op v kids.length && rightTs (d + 1) 5 kids)) := Lib.hid (by rw [← hRR, rightT_mk])
  have hD0 : (D == 40) = false := beq_eq_false_iff_ne.2 (by omega)
  have hD1 : 0 ≤ D := by omega
  have hD2 : D ≤ 39 := by omega
  clear hks ih hzs hws hwv hcl hRR hDD hd
  simp only [Tree.val, Tree.k, Tree.pos, Tree.col, Tree.v, Tree.op]
  have hb0 := Below.new w (.cells #[.int .i64 5, .int .i64 p, .string ⟨col.toArray⟩, .int .i64 v.k, .int .i64 v.n, .string v.s, .int .u64 v.f, .int .i64 op, .slice a n c] 30)
  have HV0 := Lib.hid (KVar.new w (Tree.mk 5 p col op v kids) a n c 30)
  have Hb0 := Lib.hid hb0
  clear hb0
  go_enter Tryz.func19, Tryz.ntmps19
  go_upto_region 4 with fail
  generalize hW : ((w.alloc _).alloc _) = W1
  have hbb : Below (w.alloc (.cells #[.int .i64 5, .int .i64 p, .string ⟨col.toArray⟩, .int .i64 v.k, .int .i64 v.n, .string v.s, .int .u64 v.f, .int .i64 op, .slice a n c] 30)).heap.size (w.alloc (.cells #[.int .i64 5, .int .i64 p, .string ⟨col.toArray⟩, .int .i64 v.k, .int .i64 v.n, .string v.s, .int .u64 v.f, .int .i64 op, .slice a n c] 30)) W1 := by rw [← hW]; exact Below.new _ _
  have HB1 : Hid (Below w.heap.size w W1) := Lib.hid (Hb0.out.trans (hbb.mono Hb0.out.size))
  have HV1 := Lib.hid (HV0.out.below hbb HV0.out.lt)
  have Hks1 := Lib.hid ((Hks.out.later Hb0.out).later hbb)
  clear hW hbb HV0 Hb0
  generalize w.heap.size = Z at HV1
  obtain ⟨c0, c1, c2, c3, c4, c5, c6, c7, c8, -, -⟩ := HV1.out
  dsimp only [Tree.k, Tree.pos, Tree.col, Tree.v, Tree.op] at c0 c1 c2 c3 c4 c5 c6 c7
  by_cases hn : n = 2
  · subst hn
    have Hnn : Hid (kids.length = 2) := Lib.hid Hn.out.symm
    go_wp2_with fail
    clear c0 c1 c2 c3 c4 c5 c6 c7 c8
    go_loopg [33] 2 (fun g i wx => ∃ (j : Nat) (I : Int), i = .int .i64 I ∧ Hid (I = (j : Int) ∧ j + g = 2 ∧ rightTs (d + 1) 5 (kids.take j) = true) ∧ Below W1.heap.size W1 wx)
    case atStart => exact ⟨0, 0, rfl, Lib.hid ⟨rfl, by omega, by rw [List.take_zero, rightTs]⟩, Below.refl _ _⟩
    case round =>
      obtain ⟨j, I, rfl, HI, hbx⟩ := hrel
      have Hbx := Lib.hid hbx
      have HB : Hid (Below w.heap.size w wr) := Lib.hid (HB1.out.trans (hbx.mono HB1.out.size))
      have HV := Lib.hid (HV1.out.below hbx HV1.out.lt)
      clear hbx
      obtain ⟨c0, c1, c2, c3, c4, c5, c6, c7, c8, -, -⟩ := HV.out
      dsimp only [Tree.k, Tree.pos, Tree.col, Tree.v, Tree.op] at c0 c1 c2 c3 c4 c5 c6 c7
      by_cases hm : gk = 0
      · have hIn : I = 2 := by have := HI.out; omega
        have HT : Hid (rightTs (d + 1) 5 kids = true) := Lib.hid (by
          have h1 := HI.out
          rw [List.take_of_length_le (by have := Hnn.out; omega)] at h1
          exact h1.2.2)
        clear hm HI
        subst hIn
        by_cases hcol : col = []
        · subst hcol
          by_cases hz : v.isZero = true
          · obtain rfl := isZero_eq hz
            have hzT := hz
            dsimp only [zeroVal] at c3 c4 c5 c6
            by_cases ho : op = 0
            · subst ho
              have HF : Hid (RR = true) := Lib.hid (by rw [HR.out, HT.out]; simp [rightK, kidsN, HD.out.2, Hnn.out, hzT])
              go_wp2_with fail
              go_ret
              exact ⟨by rw [HF.out]; rfl, HB.out⟩
            · have hoe : (op == 0) = false := beq_eq_false_iff_ne.2 ho
              have HF : Hid (RR = false) := Lib.hid (by rw [HR.out, HT.out]; simp [rightK, kidsN, HD.out.2, Hnn.out, ho, hzT])
              go_wp2_with fail
              go_ret
              exact ⟨by rw [HF.out]; rfl, HB.out⟩
          · have hzT : v.isZero = false := by simpa using hz
            have HF : Hid (RR = false) := Lib.hid (by rw [HR.out]; simp [rightK, hzT])
            have HZ := Lib.hid hzT
            clear hz hzT
            go_wp2_with fail
            all_goals first
              | (go_ret; exact ⟨by rw [HF.out]; rfl, HB.out⟩)
              | (refine absurd ?_ (Bool.eq_false_iff.1 HZ.out); exact zero_told (by assumption) (by assumption) (by assumption) (by assumption))
        · have hce : (!col.isEmpty) = true := by cases col with
            | nil => exact absurd rfl hcol
            | cons a l => rfl
          have HF : Hid (RR = false) := Lib.hid (by rw [HR.out]; simp [rightK, hcol])
          go_wp2_with fail
          go_ret
          exact ⟨by rw [HF.out]; rfl, HB.out⟩
      · have hI1 : I < 2 := by have := HI.out; omega
        have hI0 : 0 ≤ I := by have := HI.out; omega
        have hIj : I.toNat = j := by have := HI.out; omega
        obtain ⟨k, hk⟩ : ∃ k, kids[j]? = some k := ⟨kids[j]'(by have := HI.out; have := Hnn.out; omega), List.getElem?_eq_getElem _⟩
        obtain ⟨b, o, ka, kn, kc, ea, hka, hkk2⟩ := Hks1.out.get hk
        subst ea
        have Hm := Lib.hid hm
        have Hkj := Lib.hid hk
        have HTn := Lib.hid (rightTs_next (d := d + 1) (k := 5) hk)
        have Hka := Lib.hid (hka.map fun i v hc => (Hbx.out.cell (World.block_lt_of_cell? W1 _ hc)).trans hc)
        have hksw := hkk2.later Hbx.out
        have hbn := Below.new wr (.cells (k.cells ka kn kc) 30)
        have Hc := Lib.hid (IH.out k (get_mem hk) _ S ka kn kc (hksw.later hbn))
        have HVn := Lib.hid (HV.out.below hbn HV.out.lt)
        have Hkv := Lib.hid (KVar.new wr k ka kn kc 30)
        have HBx2 := Lib.hid (Hbx.out.trans (hbn.mono Hbx.out.size))
        clear hk hka hkk2 hm hksw hbn
        obtain ⟨k0, k1, k2, k3, k4, k5, k6, k7, k8⟩ := Hka.out
        go_upto_region 9 with fail
        clear k0 k1 k2 k3 k4 k5 k6 k7 k8 c0 c1 c2 c3 c4 c5 c6 c7 c8
        generalize (wr.alloc _) = W2 at Hc HVn Hkv HBx2 ⊢
        generalize wr.heap.size = Y at Hkv ⊢
        obtain ⟨k0, k1, k2, k3, k4, k5, k6, k7, k8, -, -⟩ := Hkv.out
        cases hB : rightT (d + 1) k with
        | false =>
          have HF : Hid (RR = false) := Lib.hid (by rw [HR.out, rightTs_bad Hkj.out (.inr hB)]; simp)
          rw [hB] at Hc
          clear hB
          go_wp2_with fail
          refine Hc.out.mono ?_
          rintro e w3 ⟨rfl, hb3⟩
          have HB3 := Lib.hid (HB1.out.trans ((HBx2.out.trans (hb3.mono HBx2.out.size)).mono HB1.out.size))
          clear hb3
          go_wp2_with fail
          go_ret
          exact ⟨by rw [HF.out]; rfl, HB3.out⟩
        | true =>
          have Hk0 := Lib.hid (right_kind hB)
          have HBk := Lib.hid hB
          rw [hB] at Hc
          clear hB
          go_wp2_with fail
          refine Hc.out.mono ?_
          rintro e w3 ⟨rfl, hb3⟩
          have HBx3 := Lib.hid (HBx2.out.trans (hb3.mono HBx2.out.size))
          obtain ⟨c0, c1, c2, c3, c4, c5, c6, c7, c8, -, -⟩ := HVn.out.below hb3 HVn.out.lt
          dsimp only [Tree.k, Tree.pos, Tree.col, Tree.v, Tree.op] at c0 c1 c2 c3 c4 c5 c6 c7
          replace Hkv := Lib.hid (Hkv.out.below hb3 Hkv.out.lt)
          clear hb3 k0 k1 k2 k3 k4 k5 k6 k7 k8
          have k0 := Hkv.out.c0
          go_wp2_with fail
          go_roundg (gk - 1)
          case measure => have := Hm.out; omega
          case rel => exact ⟨j + 1, I + 1, rfl, Lib.hid ⟨by have := HI.out; omega, by have := HI.out; have := Hm.out; omega, by rw [HTn.out, HI.out.2.2, HBk.out]; simp⟩, HBx3.out⟩
  · have hne : ((n : Int) != 2) = true := bne_iff_ne.2 (by omega)
    have HF : Hid (RR = false) := Lib.hid (by have h1 : ¬ kids.length = 2 := by rw [← Hn.out]; exact hn
                                              rw [HR.out]; simp [rightK, kidsN, h1])
    go_wp2_with fail
    go_ret
    exact ⟨by rw [HF.out]; rfl, HB1.out⟩
set_option maxHeartbeats 32000000 in
set_option maxRecDepth 100000 in
theorem rightR_k6 (d : Nat) (hd : d < 40) (ih : RightRC (d + 1)) (p : Int) (col : List UInt8) (op : Int) (v : Val) (kids : List Tree) (hcl : col.length ≤ 100000) (hzs : Tree.sizeds kids) (hwv : v.Wf) (hws : WfTs kids) (w : World) (S : Nat → Prop) (a : Option Addr) (n c : Nat) (hks : KSl w S kids a n) : Calls Tryz.prog 19 #[(Tree.mk 6 p col op v kids).val a n c, .int .i64 (d : Int)] w fun e w' => e = .returned (.bool (rightT d (.mk 6 p col op v kids))) ∧ Below w.heap.size w w' := by
  have Hks := Lib.hid hks
  have Hn := Lib.hid hks.len
  have Hzs := Lib.hid hzs; have Hws := Lib.hid hws; have Hwv := Lib.hid hwv; have Hcl := Lib.hid hcl
  obtain ⟨D, hDD⟩ : ∃ D : Int, D = (d : Int) := ⟨_, rfl⟩
  have HD : Hid (D = (d : Int) ∧ d < 40) := Lib.hid ⟨hDD, hd⟩
  have IH : Hid (∀ u ∈ kids, ∀ (w : World) (S : Nat → Prop) (a : Option Addr) (n c : Nat), KSl w S u.kids a n → Calls Tryz.prog 19 #[u.val a n c, .int .i64 (D + 1)] w fun e w' => e = .returned (.bool (rightT (d + 1) u)) ∧ Below w.heap.size w w') := Lib.hid fun u hu w S a n c hk => by
    have := ih u (sized_mem hzs hu) (wfTs_mem hws hu) w S a n c hk
    rwa [show ((d + 1 : Nat) : Int) = D + 1 by omega] at this
  rw [← hDD]
  generalize hRR : rightT d (.mk 6 p col op v kids) = RR
  have HR : Hid (RR = (rightK d 6 col op v kids.length && rightTs (d + 1) 6 kids)) := Lib.hid (by rw [← hRR, rightT_mk])
  have hD0 : (D == 40) = false := beq_eq_false_iff_ne.2 (by omega)
  have hD1 : 0 ≤ D := by omega
  have hD2 : D ≤ 39 := by omega
  clear hks ih hzs hws hwv hcl hRR hDD hd
  simp only [Tree.val, Tree.k, Tree.pos, Tree.col, Tree.v, Tree.op]
  have hb0 := Below.new w (.cells #[.int .i64 6, .int .i64 p, .string ⟨col.toArray⟩, .int .i64 v.k, .int .i64 v.n, .string v.s, .int .u64 v.f, .int .i64 op, .slice a n c] 30)
  have HV0 := Lib.hid (KVar.new w (Tree.mk 6 p col op v kids) a n c 30)
  have Hb0 := Lib.hid hb0
  clear hb0
  go_enter Tryz.func19, Tryz.ntmps19
  go_upto_region 4 with fail
  generalize hW : ((w.alloc _).alloc _) = W1
  have hbb : Below (w.alloc (.cells #[.int .i64 6, .int .i64 p, .string ⟨col.toArray⟩, .int .i64 v.k, .int .i64 v.n, .string v.s, .int .u64 v.f, .int .i64 op, .slice a n c] 30)).heap.size (w.alloc (.cells #[.int .i64 6, .int .i64 p, .string ⟨col.toArray⟩, .int .i64 v.k, .int .i64 v.n, .string v.s, .int .u64 v.f, .int .i64 op, .slice a n c] 30)) W1 := by rw [← hW]; exact Below.new _ _
  have HB1 : Hid (Below w.heap.size w W1) := Lib.hid (Hb0.out.trans (hbb.mono Hb0.out.size))
  have HV1 := Lib.hid (HV0.out.below hbb HV0.out.lt)
  have Hks1 := Lib.hid ((Hks.out.later Hb0.out).later hbb)
  clear hW hbb HV0 Hb0
  generalize w.heap.size = Z at HV1
  obtain ⟨c0, c1, c2, c3, c4, c5, c6, c7, c8, -, -⟩ := HV1.out
  dsimp only [Tree.k, Tree.pos, Tree.col, Tree.v, Tree.op] at c0 c1 c2 c3 c4 c5 c6 c7
  by_cases hn : n = 2
  · subst hn
    have Hnn : Hid (kids.length = 2) := Lib.hid Hn.out.symm
    go_wp2_with fail
    clear c0 c1 c2 c3 c4 c5 c6 c7 c8
    go_loopg [33] 2 (fun g i wx => ∃ (j : Nat) (I : Int), i = .int .i64 I ∧ Hid (I = (j : Int) ∧ j + g = 2 ∧ rightTs (d + 1) 6 (kids.take j) = true) ∧ Below W1.heap.size W1 wx)
    case atStart => exact ⟨0, 0, rfl, Lib.hid ⟨rfl, by omega, by rw [List.take_zero, rightTs]⟩, Below.refl _ _⟩
    case round =>
      obtain ⟨j, I, rfl, HI, hbx⟩ := hrel
      have Hbx := Lib.hid hbx
      have HB : Hid (Below w.heap.size w wr) := Lib.hid (HB1.out.trans (hbx.mono HB1.out.size))
      have HV := Lib.hid (HV1.out.below hbx HV1.out.lt)
      clear hbx
      obtain ⟨c0, c1, c2, c3, c4, c5, c6, c7, c8, -, -⟩ := HV.out
      dsimp only [Tree.k, Tree.pos, Tree.col, Tree.v, Tree.op] at c0 c1 c2 c3 c4 c5 c6 c7
      by_cases hm : gk = 0
      · have hIn : I = 2 := by have := HI.out; omega
        have HT : Hid (rightTs (d + 1) 6 kids = true) := Lib.hid (by
          have h1 := HI.out
          rw [List.take_of_length_le (by have := Hnn.out; omega)] at h1
          exact h1.2.2)
        clear hm HI
        subst hIn
        by_cases hcol : col = []
        · subst hcol
          by_cases hz : v.isZero = true
          · obtain rfl := isZero_eq hz
            have hzT := hz
            dsimp only [zeroVal] at c3 c4 c5 c6
            by_cases ho : op = 0
            · subst ho
              have HF : Hid (RR = true) := Lib.hid (by rw [HR.out, HT.out]; simp [rightK, kidsN, HD.out.2, Hnn.out, hzT])
              go_wp2_with fail
              go_ret
              exact ⟨by rw [HF.out]; rfl, HB.out⟩
            · have hoe : (op == 0) = false := beq_eq_false_iff_ne.2 ho
              have HF : Hid (RR = false) := Lib.hid (by rw [HR.out, HT.out]; simp [rightK, kidsN, HD.out.2, Hnn.out, ho, hzT])
              go_wp2_with fail
              go_ret
              exact ⟨by rw [HF.out]; rfl, HB.out⟩
          · have hzT : v.isZero = false := by simpa using hz
            have HF : Hid (RR = false) := Lib.hid (by rw [HR.out]; simp [rightK, hzT])
            have HZ := Lib.hid hzT
            clear hz hzT
            go_wp2_with fail
            all_goals first
              | (go_ret; exact ⟨by rw [HF.out]; rfl, HB.out⟩)
              | (refine absurd ?_ (Bool.eq_false_iff.1 HZ.out); exact zero_told (by assumption) (by assumption) (by assumption) (by assumption))
        · have hce : (!col.isEmpty) = true := by cases col with
            | nil => exact absurd rfl hcol
            | cons a l => rfl
          have HF : Hid (RR = false) := Lib.hid (by rw [HR.out]; simp [rightK, hcol])
          go_wp2_with fail
          go_ret
          exact ⟨by rw [HF.out]; rfl, HB.out⟩
      · have hI1 : I < 2 := by have := HI.out; omega
        have hI0 : 0 ≤ I := by have := HI.out; omega
        have hIj : I.toNat = j := by have := HI.out; omega
        obtain ⟨k, hk⟩ : ∃ k, kids[j]? = some k := ⟨kids[j]'(by have := HI.out; have := Hnn.out; omega), List.getElem?_eq_getElem _⟩
        obtain ⟨b, o, ka, kn, kc, ea, hka, hkk2⟩ := Hks1.out.get hk
        subst ea
        have Hm := Lib.hid hm
        have Hkj := Lib.hid hk
        have HTn := Lib.hid (rightTs_next (d := d + 1) (k := 6) hk)
        have Hka := Lib.hid (hka.map fun i v hc => (Hbx.out.cell (World.block_lt_of_cell? W1 _ hc)).trans hc)
        have hksw := hkk2.later Hbx.out
        have hbn := Below.new wr (.cells (k.cells ka kn kc) 30)
        have Hc := Lib.hid (IH.out k (get_mem hk) _ S ka kn kc (hksw.later hbn))
        have HVn := Lib.hid (HV.out.below hbn HV.out.lt)
        have Hkv := Lib.hid (KVar.new wr k ka kn kc 30)
        have HBx2 := Lib.hid (Hbx.out.trans (hbn.mono Hbx.out.size))
        clear hk hka hkk2 hm hksw hbn
        obtain ⟨k0, k1, k2, k3, k4, k5, k6, k7, k8⟩ := Hka.out
        go_upto_region 9 with fail
        clear k0 k1 k2 k3 k4 k5 k6 k7 k8 c0 c1 c2 c3 c4 c5 c6 c7 c8
        generalize (wr.alloc _) = W2 at Hc HVn Hkv HBx2 ⊢
        generalize wr.heap.size = Y at Hkv ⊢
        obtain ⟨k0, k1, k2, k3, k4, k5, k6, k7, k8, -, -⟩ := Hkv.out
        cases hB : rightT (d + 1) k with
        | false =>
          have HF : Hid (RR = false) := Lib.hid (by rw [HR.out, rightTs_bad Hkj.out (.inr hB)]; simp)
          rw [hB] at Hc
          clear hB
          go_wp2_with fail
          refine Hc.out.mono ?_
          rintro e w3 ⟨rfl, hb3⟩
          have HB3 := Lib.hid (HB1.out.trans ((HBx2.out.trans (hb3.mono HBx2.out.size)).mono HB1.out.size))
          clear hb3
          go_wp2_with fail
          go_ret
          exact ⟨by rw [HF.out]; rfl, HB3.out⟩
        | true =>
          have Hk0 := Lib.hid (right_kind hB)
          have HBk := Lib.hid hB
          rw [hB] at Hc
          clear hB
          go_wp2_with fail
          refine Hc.out.mono ?_
          rintro e w3 ⟨rfl, hb3⟩
          have HBx3 := Lib.hid (HBx2.out.trans (hb3.mono HBx2.out.size))
          obtain ⟨c0, c1, c2, c3, c4, c5, c6, c7, c8, -, -⟩ := HVn.out.below hb3 HVn.out.lt
          dsimp only [Tree.k, Tree.pos, Tree.col, Tree.v, Tree.op] at c0 c1 c2 c3 c4 c5 c6 c7
          replace Hkv := Lib.hid (Hkv.out.below hb3 Hkv.out.lt)
          clear hb3 k0 k1 k2 k3 k4 k5 k6 k7 k8
          have k0 := Hkv.out.c0
          go_wp2_with fail
          go_roundg (gk - 1)
          case measure => have := Hm.out; omega
          case rel => exact ⟨j + 1, I + 1, rfl, Lib.hid ⟨by have := HI.out; omega, by have := HI.out; have := Hm.out; omega, by rw [HTn.out, HI.out.2.2, HBk.out]; simp⟩, HBx3.out⟩
  · have hne : ((n : Int) != 2) = true := bne_iff_ne.2 (by omega)
    have HF : Hid (RR = false) := Lib.hid (by have h1 : ¬ kids.length = 2 := by rw [← Hn.out]; exact hn
                                              rw [HR.out]; simp [rightK, kidsN, h1])
    go_wp2_with fail
    go_ret
    exact ⟨by rw [HF.out]; rfl, HB1.out⟩
theorem rightR_step (d : Nat) (hd : d < 40) (ih : RightRC (d + 1)) : RightRC d := by
  intro t hz hw w S a n c hk
  obtain ⟨k, p, col, op, v, kids⟩ := t
  rw [sized_eq] at hz
  rw [WfT] at hw
  by_cases h0 : k < 0 ∨ 6 < k
  · exact rightR_odd (.mk k p col op v kids) d hd h0 w a n c
  · have : k = 0 ∨ k = 1 ∨ k = 2 ∨ k = 3 ∨ k = 4 ∨ k = 5 ∨ k = 6 := by omega
    rcases this with rfl | rfl | rfl | rfl | rfl | rfl | rfl
    · exact rightR_k0 d hd ih p col op v kids hz.1 hz.2 hw.1 hw.2 w S a n c hk
    · exact rightR_k1 d hd ih p col op v kids hz.1 hz.2 hw.1 hw.2 w S a n c hk
    · exact rightR_k2 d hd ih p col op v kids hz.1 hz.2 hw.1 hw.2 w S a n c hk
    · exact rightR_k3 d hd ih p col op v kids hz.1 hz.2 hw.1 hw.2 w S a n c hk
    · exact rightR_k4 d hd ih p col op v kids hz.1 hz.2 hw.1 hw.2 w S a n c hk
    · exact rightR_k5 d hd ih p col op v kids hz.1 hz.2 hw.1 hw.2 w S a n c hk
    · exact rightR_k6 d hd ih p col op v kids hz.1 hz.2 hw.1 hw.2 w S a n c hk
theorem rightR_all (m : Nat) : ∀ d, 40 - d ≤ m → d ≤ 40 → RightRC d := by
  induction m with
  | zero =>
    intro d h1 h2
    obtain rfl : d = 40 := by omega
    exact fun t _ _ w S a n c _ => rightR_deep t w a n c
  | succ m ih =>
    intro d h1 h2
    rcases Nat.lt_or_ge d 40 with h | h
    · exact rightR_step d h (ih (d + 1) (by omega) (by omega))
    · obtain rfl : d = 40 := by omega
      exact fun t _ _ w S a n c _ => rightR_deep t w a n c
theorem rightRc_any : RightRC 0 := rightR_all 40 0 (by omega) (by omega)
end Go.Proofs.YtfkghfmgeholeaaGreatDoor
