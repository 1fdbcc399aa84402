/- The walk of parse.right. -/
import Derived.Test.YtfkghfmgeholeaaGreatDoorPf0
set_option linter.unusedVariables false
set_option linter.unusedSimpArgs false
namespace Go.Proofs.YtfkghfmgeholeaaGreatDoor
open Go.RowKit

theorem nameC_any (w : World) (t : Tree) (hs : t.col.length ≤ 100000) : Calls Tryz.prog 40 #[.string ⟨t.col.toArray⟩] w fun e w' => e = .returned (.bool (nameB t.col)) ∧ Below w.heap.size w w' :=
  nameL_any w ⟨t.col.toArray⟩ (by show t.col.toArray.size ≤ _; simpa using hs)
theorem rightV_any (w : World) (v : Val) : Calls Tryz.prog 47 #[.agg #[.int .i64 v.k, .int .i64 v.n, .string v.s, .int .u64 v.f]] w fun e w' => e = .returned (.bool (rightB v)) ∧ Below w.heap.size w w' := right_any w v
theorem kidsN_le (k : Int) : kidsN k ≤ 2 := by unfold kidsN; split <;> (try split) <;> omega
theorem rightTs_append (d : Nat) (k : Int) (l m : List Tree) : rightTs d k (l ++ m) = (rightTs d k l && rightTs d k m) := by
  induction l with
  | nil => rw [List.nil_append]; simp [rightTs]
  | cons a l ih => rw [List.cons_append, rightTs_cons, rightTs_cons, ih]; simp only [Bool.and_assoc]
theorem rightTs_next {d : Nat} {k : Int} {l : List Tree} {j : Nat} {u : Tree} (h : l[j]? = some u) : rightTs d k (l.take (j + 1)) = (rightTs d k (l.take j) && ((decide (k ≠ 2 ∧ k ≠ 3) || decide (u.k = 0 ∨ u.k = 1)) && rightT d u)) := by
  rw [List.take_add_one, h, rightTs_append]
  show (_ && rightTs d k [u]) = _
  rw [rightTs_cons, show rightTs d k [] = true from by rw [rightTs], Bool.and_true]
theorem rightTs_bad {d : Nat} {k : Int} {l : List Tree} {j : Nat} {u : Tree} (h : l[j]? = some u) (hb : (¬ (k ≠ 2 ∧ k ≠ 3) ∧ decide (u.k = 0 ∨ u.k = 1) = false) ∨ rightT d u = false) : rightTs d k l = false := by
  rw [← List.take_append_drop (j + 1) l, rightTs_append, rightTs_next h]
  rcases hb with ⟨h1, h2⟩ | h1
  · rw [h2, decide_eq_false h1]; simp
  · rw [h1]; simp
theorem right_gen {d : Nat} {t : Tree} (h0 : 0 ≤ t.k) (h6 : t.k ≤ 6) (h : d < 40) (hk : t.kids.length = kidsN t.k) : rightK d t.k t.col t.op t.v t.kids.length = ((if t.k = 0 then nameB t.col else decide (t.col = [])) && (if t.k = 1 then rightB t.v else t.v.isZero) && (if t.k = 2 then decide (0 ≤ t.op) && decide (t.op ≤ 5) else decide (t.op = 0))) := by
  simp [rightK, h0, h6, h, hk]
theorem zero_facts {v : Val} (h : v.isZero = true) : v.k = 0 ∧ v.n = 0 ∧ v.s.toList = [] ∧ v.f = 0 := by
  rw [isZero_eq h]; exact ⟨rfl, rfl, by rw [ByteArray.toList_eq]; rfl, rfl⟩
theorem zero_told {v : Val} (h1 : v.k = 0) (h2 : v.n = 0) (h3 : v.s.toList = []) (h4 : v.f = 0) : v.isZero = true := by
  have h3' : v.s.data.toList = [] := by rw [← ByteArray.toList_eq]; exact h3
  simp [Val.isZero, h1, h2, h3', h4]
set_option maxHeartbeats 8000000 in
set_option maxRecDepth 100000 in
theorem right_bad3 (d : Nat) (t : Tree) (h0 : 0 ≤ t.k) (h6 : t.k ≤ 6) (h : d < 40) (hkk : 3 ≤ t.k) (w : World) (S : Nat → Prop) (a : Option Addr) (n c : Nat) (hks : KSl w S t.kids a n) (hn : n = t.kids.length) (hk : n = kidsN t.k) (hK : rightK d t.k t.col t.op t.v t.kids.length = false) : Calls Tryz.prog 48 #[t.val a n c, .int .i64 (d : Int)] w fun e w' => e = .returned (.bool (rightT d t)) ∧ Below w.heap.size w w' := by
  have hRf : rightT d t = false := by rw [rightT_eq, hK]; rfl
  rw [hRf]
  simp only [Tree.val]
  have hb := Lib.hid (Below.new w (.cells (t.cells a n c) 30))
  have hkv := Lib.hid (KVar.new w t a n c 30)
  have hd0 : decide (t.k < 0) = false := decide_eq_false (by omega)
  have hd6 : decide (6 < t.k) = false := decide_eq_false (by omega)
  have hd : decide ((40 : Int) ≤ (d : Int)) = false := decide_eq_false (by omega)
  have hix := index_kids t.k h0 h6
  have hne : ((n : Int) != (kidsN t.k : Int)) = false := bne_eq_false_iff_eq.2 (by omega)
  have e0 : (t.k == 0) = false := beq_eq_false_iff_ne.2 (by omega)
  have e1 : (t.k == 1) = false := beq_eq_false_iff_ne.2 (by omega)
  have e2 : (t.k == 2) = false := beq_eq_false_iff_ne.2 (by omega)
  have Hk := Lib.hid hk; have Hn := Lib.hid hn; have Hks := Lib.hid hks; have HK := Lib.hid hK
  clear hn hk hks hK
  clear hRf
  go_enter Tryz.func48, Tryz.ntmps48
  go_wp2_with fail
  go_quiet (fail)
  go_wp2_with fail
  have hkv1 := hkv.out.below (below_drewN (Below.refl _ _) nq) hkv.out.lt
  have hb1 := below_drewN hb.out nq
  have HS1 := Lib.hid (Hks.out.later hb1)
  generalize World.drewN _ nq = W1 at hkv1 hb1 HS1 ⊢
  have HK1 := Lib.hid hkv1
  obtain ⟨c0, c1, c2, c3, c4, c5, c6, c7, c8, -, -⟩ := hkv1
  clear hix hd0 hd6 hd hne nq
  go_quiet (fail)
  have HK2 := Lib.hid (HK1.out.below (below_drewN (Below.refl _ _) nq) HK1.out.lt)
  have HB2 := Lib.hid (below_drewN hb1 nq)
  have HS2 := Lib.hid (HS1.out.later (below_drewN (Below.refl _ _) nq))
  clear c0 c1 c2 c3 c4 c5 c6 c7 c8 hb1 HS1
  generalize World.drewN _ nq = W2 at HK2 HB2 HS2 ⊢
  obtain ⟨c0, c1, c2, c3, c4, c5, c6, c7, c8, -, -⟩ := HK2.out
  go_wp2_with fail
  all_goals first
    | (go_ret; exact ⟨rfl, HB2.out⟩)
    | (refine absurd ?_ (Bool.eq_false_iff.1 HK.out)
       rw [right_gen h0 h6 h (by rw [← Hn.out]; exact Hk.out), if_neg (by omega), if_neg (by omega), if_neg (by omega), zero_told (by assumption) (by assumption) (by assumption) (by assumption)]
       simp_all)
set_option maxHeartbeats 8000000 in
set_option maxRecDepth 100000 in
theorem right_ok3 (d : Nat) (t : Tree) (h0 : 0 ≤ t.k) (h6 : t.k ≤ 6) (h : d < 40) (hkk : 3 ≤ t.k) (ih : RightC0 (d + 1)) (hz : t.sized) (w : World) (S : Nat → Prop) (a : Option Addr) (n c : Nat) (hks : KSl w S t.kids a n) (hn : n = t.kids.length) (hk : n = kidsN t.k) (hK : rightK d t.k t.col t.op t.v t.kids.length = true) : Calls Tryz.prog 48 #[t.val a n c, .int .i64 (d : Int)] w fun e w' => e = .returned (.bool (rightT d t)) ∧ Below w.heap.size w w' := by
  have hK2 := hK
  rw [right_gen h0 h6 h (hn ▸ hk)] at hK2
  simp only [if_neg (show ¬ t.k = 0 by omega), if_neg (show ¬ t.k = 1 by omega), if_neg (show ¬ t.k = 2 by omega), Bool.and_eq_true, decide_eq_true_eq] at hK2
  obtain ⟨⟨hcol, hv⟩, ho⟩ := hK2
  have HV := Lib.hid (zero_facts hv)
  have hce : (!t.col.isEmpty) = false := by rw [hcol]; rfl
  have hoe : (t.op != 0) = false := by rw [ho]; rfl
  have IH := Lib.hid ih
  rw [sized_eq] at hz
  have HZ := Lib.hid hz.2
  simp only [Tree.val]
  have hb := Lib.hid (Below.new w (.cells (t.cells a n c) 30))
  have hkv := Lib.hid (KVar.new w t a n c 30)
  have hd0 : decide (t.k < 0) = false := decide_eq_false (by omega)
  have hd6 : decide (6 < t.k) = false := decide_eq_false (by omega)
  have hd : decide ((40 : Int) ≤ (d : Int)) = false := decide_eq_false (by omega)
  have hix := index_kids t.k h0 h6
  have hne : ((n : Int) != (kidsN t.k : Int)) = false := bne_eq_false_iff_eq.2 (by omega)
  have e0 : (t.k == 0) = false := beq_eq_false_iff_ne.2 (by omega)
  have e1 : (t.k == 1) = false := beq_eq_false_iff_ne.2 (by omega)
  have e2 : (t.k == 2) = false := beq_eq_false_iff_ne.2 (by omega)
  have Hk := Lib.hid hk; have Hn := Lib.hid hn; have Hks := Lib.hid hks; have HK := Lib.hid hK
  clear hn hk hks hK ih hz hv hcol ho
  generalize hRR : rightT d t = RR
  have HR := Lib.hid hRR
  clear hRR
  go_enter Tryz.func48, Tryz.ntmps48
  go_wp2_with fail
  go_quiet (fail)
  go_wp2_with fail
  have hkv1 := hkv.out.below (below_drewN (Below.refl _ _) nq) hkv.out.lt
  have hb1 := below_drewN hb.out nq
  have HS1 := Lib.hid (Hks.out.later hb1)
  generalize World.drewN _ nq = W1 at hkv1 hb1 HS1 ⊢
  have HK1 := Lib.hid hkv1
  obtain ⟨c0, c1, c2, c3, c4, c5, c6, c7, c8, -, -⟩ := hkv1
  clear hix hd0 hd6 hd hne nq
  go_quiet (fail)
  have HK2 := Lib.hid (HK1.out.below (below_drewN (Below.refl _ _) nq) HK1.out.lt)
  have HB2 := Lib.hid (below_drewN hb1 nq)
  have HS2 := Lib.hid (HS1.out.later (below_drewN (Below.refl _ _) nq))
  clear c0 c1 c2 c3 c4 c5 c6 c7 c8 hb1 HS1
  generalize World.drewN _ nq = W2 at HK2 HB2 HS2 ⊢
  obtain ⟨c0, c1, c2, c3, c4, c5, c6, c7, c8, -, -⟩ := HK2.out
  obtain ⟨v1, v2, v3, v4⟩ := HV.out
  go_wp2_with fail
  clear v1 v2 v3 v4
  go_loopg [100] n (fun g i wx => ∃ (j : Nat) (I : Int), i = .int .i64 I ∧ Hid (I = (j : Int) ∧ j + g = n ∧ rightTs (d + 1) t.k (t.kids.take j) = true) ∧ Below w.heap.size w wx ∧ Below W2.heap.size W2 wx)
  case atStart => exact ⟨0, 0, rfl, Lib.hid ⟨rfl, by omega, by rw [List.take_zero, rightTs]⟩, HB2.out, Below.refl _ _⟩
  case round =>
    obtain ⟨j, I, rfl, HI, hbx⟩ := hrel
    have Hb := Lib.hid hbx; clear hbx
    have hI0 : 0 ≤ I := by have := HI.out; omega
    by_cases hm : gk = 0
    · have hI1 : ¬ I < (n : Int) := by have := HI.out; omega
      have hRR : RR = true := by
        rw [← HR.out, rightT_eq, HK.out]
        have h1 := HI.out
        have h4 : t.kids.take j = t.kids := List.take_of_length_le (by have := Hn.out; omega)
        rw [h4] at h1
        rw [h1.2.2]; rfl
      subst hRR
      clear hm
      go_wp2_with fail
      go_ret
      exact ⟨rfl, Hb.out.1⟩
    · have hI1 : I < (n : Int) := by have := HI.out; omega
      have hIj : I.toNat = j := by have := HI.out; omega
      have hni : (n : Int) ≤ 2 := by have := Hk.out; have := kidsN_le t.k; omega
      obtain ⟨k, hk⟩ : ∃ k, t.kids[j]? = some k := ⟨t.kids[j]'(by have := HI.out; have := Hn.out; omega), List.getElem?_eq_getElem _⟩
      obtain ⟨b, o, ka, kn, kc, ea, hka, hkk2⟩ := HS2.out.get hk
      subst ea
      have Hm := Lib.hid hm
      have Hkj := Lib.hid hk
      have hbw : Below W2.heap.size W2 wr := Hb.out.2
      have Hka := Lib.hid (hka.map fun i v hc => (hbw.cell (World.block_lt_of_cell? _ _ hc)).trans hc)
      have HK3 := Lib.hid (HK2.out.below hbw HK2.out.lt)
      have hksw := hkk2.later hbw
      obtain ⟨c0, c1, c2, c3, c4, c5, c6, c7, c8⟩ := Hka.out
      have k0 := HK3.out.c0
      have Hsz := Lib.hid (sized_mem HZ.out (get_mem hk))
      clear hk hka hkk2 hm hbw
      go_upto_region 13 with fail
      have hbn := Below.new wr (.cells (k.cells ka kn kc) 30)
      have hkv := KVar.new wr k ka kn kc 30
      have HK4 := Lib.hid (HK3.out.below hbn HK3.out.lt)
      have Hbn := Lib.hid (Hb.out.1.trans (hbn.mono Hb.out.1.size))
      have Hbn2 := Lib.hid (Hb.out.2.trans (hbn.mono Hb.out.2.size))
      have Hksn := Lib.hid (hksw.later hbn)
      clear hksw hbn c0 c1 c2 c3 c4 c5 c6 c7 c8 k0 HK3
      generalize (wr.alloc _) = W at hkv HK4 Hbn Hbn2 Hksn ⊢
      have k0 := HK4.out.c0
      cases e3 : (t.k == 3) with
      | true =>
        have HLF : Hid (¬ (t.k ≠ 2 ∧ t.k ≠ 3)) := Lib.hid (by have := beq_iff_eq.1 e3; omega)
        have Ho := Lib.hid (operandT_any W k ka kn kc)
        obtain ⟨c0, c1, c2, c3, c4, c5, c6, c7, c8, -, -⟩ := hkv
        cases hlf : decide (k.k = 0 ∨ k.k = 1) with
        | false =>
          have hRR : RR = false := by
            rw [← HR.out, rightT_eq, rightTs_bad Hkj.out (.inl ⟨HLF.out, hlf⟩)]; simp
          rw [hlf] at Ho
          subst hRR
          clear hlf
          go_wp2_with fail
          refine Ho.out.mono ?_
          rintro e w4 ⟨rfl, hb4⟩
          have HB5 := Lib.hid (Hbn.out.trans (hb4.mono Hbn.out.size))
          clear hb4
          go_wp2_with fail
          go_ret
          exact ⟨rfl, HB5.out⟩
        | true =>
          have Hlf := Lib.hid hlf
          rw [hlf] at Ho
          clear hlf
          go_wp2_with fail
          refine Ho.out.mono ?_
          rintro e w4 ⟨rfl, hb4⟩
          have HB5 := Lib.hid (Hbn.out.trans (hb4.mono Hbn.out.size))
          have HB52 := Lib.hid (Hbn2.out.trans (hb4.mono Hbn2.out.size))
          have Hks4 := Lib.hid (Hksn.out.later hb4)
          have e4 : ∀ i v, W.cell? ⟨wr.heap.size, i, none⟩ = some v → w4.cell? ⟨wr.heap.size, i, none⟩ = some v := fun i v hc => (hb4.cell (World.block_lt_of_cell? _ _ hc)).trans hc
          replace c0 := e4 _ _ c0; replace c1 := e4 _ _ c1; replace c2 := e4 _ _ c2; replace c3 := e4 _ _ c3; replace c4 := e4 _ _ c4; replace c5 := e4 _ _ c5; replace c6 := e4 _ _ c6; replace c7 := e4 _ _ c7; replace c8 := e4 _ _ c8
          clear hb4 e4
          have Hc := Lib.hid (IH.out k Hsz.out w4 S ka kn kc Hks4.out)
          cases hrk : rightT (d + 1) k with
          | false =>
            have hRR : RR = false := by
              rw [← HR.out, rightT_eq, rightTs_bad Hkj.out (.inr hrk)]; simp
            rw [hrk] at Hc
            subst hRR
            clear hrk
            go_wp2_with fail
            refine Hc.out.mono ?_
            rintro e w3 ⟨rfl, hb3⟩
            have HB3 := Lib.hid (HB5.out.trans (hb3.mono HB5.out.size))
            clear hb3
            go_wp2_with fail
            go_ret
            exact ⟨rfl, HB3.out⟩
          | true =>
            have Hrk := Lib.hid hrk
            rw [hrk] at Hc
            clear hrk
            go_wp2_with fail
            refine Hc.out.mono ?_
            rintro e w3 ⟨rfl, hb3⟩
            have HB3 := Lib.hid (HB5.out.trans (hb3.mono HB5.out.size))
            have HB4 := Lib.hid (HB52.out.trans (hb3.mono HB52.out.size))
            clear hb3
            go_wp2_with fail
            go_roundg (gk - 1)
            case measure => have := Hm.out; omega
            case rel => exact ⟨j + 1, I + 1, rfl, Lib.hid ⟨by have := HI.out; omega, by have := HI.out; have := Hm.out; omega, by rw [rightTs_next Hkj.out, HI.out.2.2, Hrk.out]; simp only [Hlf.out, Bool.or_true, Bool.and_self, Bool.true_and]⟩, HB3.out, HB4.out⟩
      | false =>
        have HNL : Hid (t.k ≠ 2 ∧ t.k ≠ 3) := Lib.hid (by have := beq_eq_false_iff_ne.1 e3; omega)
        obtain ⟨c0, c1, c2, c3, c4, c5, c6, c7, c8, -, -⟩ := hkv
        have Hc := Lib.hid (IH.out k Hsz.out W S ka kn kc Hksn.out)
        cases hrk : rightT (d + 1) k with
        | false =>
          have hRR : RR = false := by
            rw [← HR.out, rightT_eq, rightTs_bad Hkj.out (.inr hrk)]; simp
          rw [hrk] at Hc
          subst hRR
          clear hrk
          go_wp2_with fail
          refine Hc.out.mono ?_
          rintro e w3 ⟨rfl, hb3⟩
          have HB3 := Lib.hid (Hbn.out.trans (hb3.mono Hbn.out.size))
          clear hb3
          go_wp2_with fail
          go_ret
          exact ⟨rfl, HB3.out⟩
        | true =>
          have Hrk := Lib.hid hrk
          rw [hrk] at Hc
          clear hrk
          go_wp2_with fail
          refine Hc.out.mono ?_
          rintro e w3 ⟨rfl, hb3⟩
          have HB3 := Lib.hid (Hbn.out.trans (hb3.mono Hbn.out.size))
          have HB4 := Lib.hid (Hbn2.out.trans (hb3.mono Hbn2.out.size))
          clear hb3
          go_wp2_with fail
          go_roundg (gk - 1)
          case measure => have := Hm.out; omega
          case rel => exact ⟨j + 1, I + 1, rfl, Lib.hid ⟨by have := HI.out; omega, by have := HI.out; have := Hm.out; omega, by rw [rightTs_next Hkj.out, HI.out.2.2, Hrk.out]; simp only [decide_eq_true HNL.out, Bool.true_or, Bool.and_self, Bool.true_and]⟩, HB3.out, HB4.out⟩
set_option maxHeartbeats 8000000 in
set_option maxRecDepth 100000 in
theorem right_bad2 (d : Nat) (t : Tree) (h0 : 0 ≤ t.k) (h6 : t.k ≤ 6) (h : d < 40) (hkk : t.k = 2) (w : World) (S : Nat → Prop) (a : Option Addr) (n c : Nat) (hks : KSl w S t.kids a n) (hn : n = t.kids.length) (hk : n = kidsN t.k) (hK : rightK d t.k t.col t.op t.v t.kids.length = false) : Calls Tryz.prog 48 #[t.val a n c, .int .i64 (d : Int)] w fun e w' => e = .returned (.bool (rightT d t)) ∧ Below w.heap.size w w' := by
  have hRf : rightT d t = false := by rw [rightT_eq, hK]; rfl
  rw [hRf]
  have Hkk := Lib.hid hkk
  simp only [Tree.val]
  have hb := Lib.hid (Below.new w (.cells (t.cells a n c) 30))
  have hkv := Lib.hid (KVar.new w t a n c 30)
  have hd0 : decide (t.k < 0) = false := decide_eq_false (by omega)
  have hd6 : decide (6 < t.k) = false := decide_eq_false (by omega)
  have hd : decide ((40 : Int) ≤ (d : Int)) = false := decide_eq_false (by omega)
  have hix := index_kids t.k h0 h6
  have hne : ((n : Int) != (kidsN t.k : Int)) = false := bne_eq_false_iff_eq.2 (by omega)
  have e0 : (t.k == 0) = false := beq_eq_false_iff_ne.2 (by omega)
  have e1 : (t.k == 1) = false := beq_eq_false_iff_ne.2 (by omega)
  have e2 : (t.k == 2) = true := beq_iff_eq.2 hkk
  have Hk := Lib.hid hk; have Hn := Lib.hid hn; have Hks := Lib.hid hks; have HK := Lib.hid hK
  clear hn hk hks hK hkk
  clear hRf
  go_enter Tryz.func48, Tryz.ntmps48
  go_wp2_with fail
  go_quiet (fail)
  go_wp2_with fail
  have hkv1 := hkv.out.below (below_drewN (Below.refl _ _) nq) hkv.out.lt
  have hb1 := below_drewN hb.out nq
  have HS1 := Lib.hid (Hks.out.later hb1)
  generalize World.drewN _ nq = W1 at hkv1 hb1 HS1 ⊢
  have HK1 := Lib.hid hkv1
  obtain ⟨c0, c1, c2, c3, c4, c5, c6, c7, c8, -, -⟩ := hkv1
  clear hix hd0 hd6 hd hne nq
  go_quiet (fail)
  have HK2 := Lib.hid (HK1.out.below (below_drewN (Below.refl _ _) nq) HK1.out.lt)
  have HB2 := Lib.hid (below_drewN hb1 nq)
  have HS2 := Lib.hid (HS1.out.later (below_drewN (Below.refl _ _) nq))
  clear c0 c1 c2 c3 c4 c5 c6 c7 c8 hb1 HS1
  generalize World.drewN _ nq = W2 at HK2 HB2 HS2 ⊢
  obtain ⟨c0, c1, c2, c3, c4, c5, c6, c7, c8, -, -⟩ := HK2.out
  go_wp2_with fail
  all_goals first
    | (go_ret; exact ⟨rfl, HB2.out⟩)
    | (refine absurd ?_ (Bool.eq_false_iff.1 HK.out)
       rw [right_gen h0 h6 h (by rw [← Hn.out]; exact Hk.out), if_neg (show ¬ t.k = 0 by have := Hkk.out; omega), if_neg (show ¬ t.k = 1 by have := Hkk.out; omega), if_pos Hkk.out, zero_told (by assumption) (by assumption) (by assumption) (by assumption)]
       simp_all)
set_option maxHeartbeats 8000000 in
set_option maxRecDepth 100000 in
theorem right_ok2 (d : Nat) (t : Tree) (h0 : 0 ≤ t.k) (h6 : t.k ≤ 6) (h : d < 40) (hkk : t.k = 2) (ih : RightC0 (d + 1)) (hz : t.sized) (w : World) (S : Nat → Prop) (a : Option Addr) (n c : Nat) (hks : KSl w S t.kids a n) (hn : n = t.kids.length) (hk : n = kidsN t.k) (hK : rightK d t.k t.col t.op t.v t.kids.length = true) : Calls Tryz.prog 48 #[t.val a n c, .int .i64 (d : Int)] w fun e w' => e = .returned (.bool (rightT d t)) ∧ Below w.heap.size w w' := by
  have hK2 := hK
  rw [right_gen h0 h6 h (hn ▸ hk)] at hK2
  simp only [if_neg (show ¬ t.k = 0 by omega), if_neg (show ¬ t.k = 1 by omega), if_pos hkk, Bool.and_eq_true, decide_eq_true_eq] at hK2
  obtain ⟨⟨hcol, hv⟩, ho, ho5⟩ := hK2
  have HV := Lib.hid (zero_facts hv)
  have hce : (!t.col.isEmpty) = false := by rw [hcol]; rfl
  have IH := Lib.hid ih
  rw [sized_eq] at hz
  have HZ := Lib.hid hz.2
  have HLF : Hid (¬ (t.k ≠ 2 ∧ t.k ≠ 3)) := Lib.hid (by omega)
  simp only [Tree.val]
  have hb := Lib.hid (Below.new w (.cells (t.cells a n c) 30))
  have hkv := Lib.hid (KVar.new w t a n c 30)
  have hd0 : decide (t.k < 0) = false := decide_eq_false (by omega)
  have hd6 : decide (6 < t.k) = false := decide_eq_false (by omega)
  have hd : decide ((40 : Int) ≤ (d : Int)) = false := decide_eq_false (by omega)
  have hix := index_kids t.k h0 h6
  have hne : ((n : Int) != (kidsN t.k : Int)) = false := bne_eq_false_iff_eq.2 (by omega)
  have e0 : (t.k == 0) = false := beq_eq_false_iff_ne.2 (by omega)
  have e1 : (t.k == 1) = false := beq_eq_false_iff_ne.2 (by omega)
  have e2 : (t.k == 2) = true := beq_iff_eq.2 hkk
  have Hk := Lib.hid hk; have Hn := Lib.hid hn; have Hks := Lib.hid hks; have HK := Lib.hid hK
  clear hn hk hks hK ih hz hv hcol hkk
  generalize hRR : rightT d t = RR
  have HR := Lib.hid hRR
  clear hRR
  go_enter Tryz.func48, Tryz.ntmps48
  go_wp2_with fail
  go_quiet (fail)
  go_wp2_with fail
  have hkv1 := hkv.out.below (below_drewN (Below.refl _ _) nq) hkv.out.lt
  have hb1 := below_drewN hb.out nq
  have HS1 := Lib.hid (Hks.out.later hb1)
  generalize World.drewN _ nq = W1 at hkv1 hb1 HS1 ⊢
  have HK1 := Lib.hid hkv1
  obtain ⟨c0, c1, c2, c3, c4, c5, c6, c7, c8, -, -⟩ := hkv1
  clear hix hd0 hd6 hd hne nq
  go_quiet (fail)
  have HK2 := Lib.hid (HK1.out.below (below_drewN (Below.refl _ _) nq) HK1.out.lt)
  have HB2 := Lib.hid (below_drewN hb1 nq)
  have HS2 := Lib.hid (HS1.out.later (below_drewN (Below.refl _ _) nq))
  clear c0 c1 c2 c3 c4 c5 c6 c7 c8 hb1 HS1
  generalize World.drewN _ nq = W2 at HK2 HB2 HS2 ⊢
  obtain ⟨c0, c1, c2, c3, c4, c5, c6, c7, c8, -, -⟩ := HK2.out
  obtain ⟨v1, v2, v3, v4⟩ := HV.out
  go_wp2_with fail
  clear v1 v2 v3 v4
  go_loopg [100] n (fun g i wx => ∃ (j : Nat) (I : Int), i = .int .i64 I ∧ Hid (I = (j : Int) ∧ j + g = n ∧ rightTs (d + 1) t.k (t.kids.take j) = true) ∧ Below w.heap.size w wx ∧ Below W2.heap.size W2 wx)
  case atStart => exact ⟨0, 0, rfl, Lib.hid ⟨rfl, by omega, by rw [List.take_zero, rightTs]⟩, HB2.out, Below.refl _ _⟩
  case round =>
    obtain ⟨j, I, rfl, HI, hbx⟩ := hrel
    have Hb := Lib.hid hbx; clear hbx
    have hI0 : 0 ≤ I := by have := HI.out; omega
    by_cases hm : gk = 0
    · have hI1 : ¬ I < (n : Int) := by have := HI.out; omega
      have hRR : RR = true := by
        rw [← HR.out, rightT_eq, HK.out]
        have h1 := HI.out
        have h4 : t.kids.take j = t.kids := List.take_of_length_le (by have := Hn.out; omega)
        rw [h4] at h1
        rw [h1.2.2]; rfl
      subst hRR
      clear hm
      go_wp2_with fail
      go_ret
      exact ⟨rfl, Hb.out.1⟩
    · have hI1 : I < (n : Int) := by have := HI.out; omega
      have hIj : I.toNat = j := by have := HI.out; omega
      have hni : (n : Int) ≤ 2 := by have := Hk.out; have := kidsN_le t.k; omega
      obtain ⟨k, hk⟩ : ∃ k, t.kids[j]? = some k := ⟨t.kids[j]'(by have := HI.out; have := Hn.out; omega), List.getElem?_eq_getElem _⟩
      obtain ⟨b, o, ka, kn, kc, ea, hka, hkk2⟩ := HS2.out.get hk
      subst ea
      have Hm := Lib.hid hm
      have Hkj := Lib.hid hk
      have hbw : Below W2.heap.size W2 wr := Hb.out.2
      have Hka := Lib.hid (hka.map fun i v hc => (hbw.cell (World.block_lt_of_cell? _ _ hc)).trans hc)
      have HK3 := Lib.hid (HK2.out.below hbw HK2.out.lt)
      have hksw := hkk2.later hbw
      obtain ⟨c0, c1, c2, c3, c4, c5, c6, c7, c8⟩ := Hka.out
      have k0 := HK3.out.c0
      have Hsz := Lib.hid (sized_mem HZ.out (get_mem hk))
      clear hk hka hkk2 hm hbw
      go_upto_region 13 with fail
      have hbn := Below.new wr (.cells (k.cells ka kn kc) 30)
      have hkv := KVar.new wr k ka kn kc 30
      have HK4 := Lib.hid (HK3.out.below hbn HK3.out.lt)
      have Hbn := Lib.hid (Hb.out.1.trans (hbn.mono Hb.out.1.size))
      have Hbn2 := Lib.hid (Hb.out.2.trans (hbn.mono Hb.out.2.size))
      have Hksn := Lib.hid (hksw.later hbn)
      clear hksw hbn c0 c1 c2 c3 c4 c5 c6 c7 c8 k0 HK3
      generalize (wr.alloc _) = W at hkv HK4 Hbn Hbn2 Hksn ⊢
      have k0 := HK4.out.c0
      have Ho := Lib.hid (operandT_any W k ka kn kc)
      obtain ⟨c0, c1, c2, c3, c4, c5, c6, c7, c8, -, -⟩ := hkv
      cases hlf : decide (k.k = 0 ∨ k.k = 1) with
      | false =>
        have hRR : RR = false := by
          rw [← HR.out, rightT_eq, rightTs_bad Hkj.out (.inl ⟨HLF.out, hlf⟩)]; simp
        rw [hlf] at Ho
        subst hRR
        clear hlf
        go_wp2_with fail
        refine Ho.out.mono ?_
        rintro e w4 ⟨rfl, hb4⟩
        have HB5 := Lib.hid (Hbn.out.trans (hb4.mono Hbn.out.size))
        clear hb4
        go_wp2_with fail
        go_ret
        exact ⟨rfl, HB5.out⟩
      | true =>
        have Hlf := Lib.hid hlf
        rw [hlf] at Ho
        clear hlf
        go_wp2_with fail
        refine Ho.out.mono ?_
        rintro e w4 ⟨rfl, hb4⟩
        have HB5 := Lib.hid (Hbn.out.trans (hb4.mono Hbn.out.size))
        have HB52 := Lib.hid (Hbn2.out.trans (hb4.mono Hbn2.out.size))
        have Hks4 := Lib.hid (Hksn.out.later hb4)
        have e4 : ∀ i v, W.cell? ⟨wr.heap.size, i, none⟩ = some v → w4.cell? ⟨wr.heap.size, i, none⟩ = some v := fun i v hc => (hb4.cell (World.block_lt_of_cell? _ _ hc)).trans hc
        replace c0 := e4 _ _ c0; replace c1 := e4 _ _ c1; replace c2 := e4 _ _ c2; replace c3 := e4 _ _ c3; replace c4 := e4 _ _ c4; replace c5 := e4 _ _ c5; replace c6 := e4 _ _ c6; replace c7 := e4 _ _ c7; replace c8 := e4 _ _ c8
        clear hb4 e4
        have Hc := Lib.hid (IH.out k Hsz.out w4 S ka kn kc Hks4.out)
        cases hrk : rightT (d + 1) k with
        | false =>
          have hRR : RR = false := by
            rw [← HR.out, rightT_eq, rightTs_bad Hkj.out (.inr hrk)]; simp
          rw [hrk] at Hc
          subst hRR
          clear hrk
          go_wp2_with fail
          refine Hc.out.mono ?_
          rintro e w3 ⟨rfl, hb3⟩
          have HB3 := Lib.hid (HB5.out.trans (hb3.mono HB5.out.size))
          clear hb3
          go_wp2_with fail
          go_ret
          exact ⟨rfl, HB3.out⟩
        | true =>
          have Hrk := Lib.hid hrk
          rw [hrk] at Hc
          clear hrk
          go_wp2_with fail
          refine Hc.out.mono ?_
          rintro e w3 ⟨rfl, hb3⟩
          have HB3 := Lib.hid (HB5.out.trans (hb3.mono HB5.out.size))
          have HB4 := Lib.hid (HB52.out.trans (hb3.mono HB52.out.size))
          clear hb3
          go_wp2_with fail
          go_roundg (gk - 1)
          case measure => have := Hm.out; omega
          case rel => exact ⟨j + 1, I + 1, rfl, Lib.hid ⟨by have := HI.out; omega, by have := HI.out; have := Hm.out; omega, by rw [rightTs_next Hkj.out, HI.out.2.2, Hrk.out]; simp only [Hlf.out, Bool.or_true, Bool.and_self, Bool.true_and]⟩, HB3.out, HB4.out⟩
set_option maxHeartbeats 8000000 in
set_option maxRecDepth 100000 in
theorem right_bad0 (d : Nat) (t : Tree) (h0 : 0 ≤ t.k) (h6 : t.k ≤ 6) (h : d < 40) (hkk : t.k = 0) (hz : t.sized) (w : World) (S : Nat → Prop) (a : Option Addr) (n c : Nat) (hks : KSl w S t.kids a n) (hn : n = t.kids.length) (hk : n = kidsN t.k) (hK : rightK d t.k t.col t.op t.v t.kids.length = false) : Calls Tryz.prog 48 #[t.val a n c, .int .i64 (d : Int)] w fun e w' => e = .returned (.bool (rightT d t)) ∧ Below w.heap.size w w' := by
  have hRf : rightT d t = false := by rw [rightT_eq, hK]; rfl
  rw [hRf]
  have Hkk := Lib.hid hkk
  rw [sized_eq] at hz
  have HZ := Lib.hid hz.1
  simp only [Tree.val]
  have hb := Lib.hid (Below.new w (.cells (t.cells a n c) 30))
  have hkv := Lib.hid (KVar.new w t a n c 30)
  have hd0 : decide (t.k < 0) = false := decide_eq_false (by omega)
  have hd6 : decide (6 < t.k) = false := decide_eq_false (by omega)
  have hd : decide ((40 : Int) ≤ (d : Int)) = false := decide_eq_false (by omega)
  have hix := index_kids t.k h0 h6
  have hne : ((n : Int) != (kidsN t.k : Int)) = false := bne_eq_false_iff_eq.2 (by omega)
  have e0 : (t.k == 0) = true := beq_iff_eq.2 hkk
  have e1 : (t.k == 1) = false := beq_eq_false_iff_ne.2 (by omega)
  have e2 : (t.k == 2) = false := beq_eq_false_iff_ne.2 (by omega)
  have Hk := Lib.hid hk; have Hn := Lib.hid hn; have Hks := Lib.hid hks; have HK := Lib.hid hK
  clear hn hk hks hK hkk hz
  clear hRf
  go_enter Tryz.func48, Tryz.ntmps48
  go_wp2_with fail
  go_quiet (fail)
  go_wp2_with fail
  have hkv1 := hkv.out.below (below_drewN (Below.refl _ _) nq) hkv.out.lt
  have hb1 := below_drewN hb.out nq
  have HS1 := Lib.hid (Hks.out.later hb1)
  generalize World.drewN _ nq = W1 at hkv1 hb1 HS1 ⊢
  have HK1 := Lib.hid hkv1
  obtain ⟨c0, c1, c2, c3, c4, c5, c6, c7, c8, -, -⟩ := hkv1
  clear hix hd0 hd6 hd hne nq
  go_quiet (fail)
  have HK2 := Lib.hid (HK1.out.below (below_drewN (Below.refl _ _) nq) HK1.out.lt)
  have HB2 := Lib.hid (below_drewN hb1 nq)
  have HS2 := Lib.hid (HS1.out.later (below_drewN (Below.refl _ _) nq))
  clear c0 c1 c2 c3 c4 c5 c6 c7 c8 hb1 HS1
  generalize World.drewN _ nq = W2 at HK2 HB2 HS2 ⊢
  obtain ⟨c0, c1, c2, c3, c4, c5, c6, c7, c8, -, -⟩ := HK2.out
  have Hc := Lib.hid (nameC_any W2 t HZ.out)
  cases hB : nameB t.col with
  | false =>
    rw [hB] at Hc
    clear hB
    go_wp2_with fail
    refine Hc.out.mono ?_
    rintro e w3 ⟨rfl, hb3⟩
    have HB3 := Lib.hid (HB2.out.trans (hb3.mono HB2.out.size))
    obtain ⟨c0, c1, c2, c3, c4, c5, c6, c7, c8, -, -⟩ := HK2.out.below hb3 HK2.out.lt
    clear hb3
    go_wp2_with fail
    all_goals first
      | (go_ret; exact ⟨rfl, HB3.out⟩)
      | (refine absurd ?_ (Bool.eq_false_iff.1 HK.out)
         rw [right_gen h0 h6 h (by rw [← Hn.out]; exact Hk.out), if_pos Hkk.out, if_neg (show ¬ t.k = 1 by have := Hkk.out; omega), if_neg (show ¬ t.k = 2 by have := Hkk.out; omega)]
         simp_all)
  | true =>
    rw [hB] at Hc
    have HBt := Lib.hid hB
    clear hB
    go_wp2_with fail
    refine Hc.out.mono ?_
    rintro e w3 ⟨rfl, hb3⟩
    have HB3 := Lib.hid (HB2.out.trans (hb3.mono HB2.out.size))
    obtain ⟨c0, c1, c2, c3, c4, c5, c6, c7, c8, -, -⟩ := HK2.out.below hb3 HK2.out.lt
    clear hb3
    go_wp2_with fail
    all_goals first
      | (go_ret; exact ⟨rfl, HB3.out⟩)
      | (refine absurd ?_ (Bool.eq_false_iff.1 HK.out)
         rw [right_gen h0 h6 h (by rw [← Hn.out]; exact Hk.out), if_pos Hkk.out, if_neg (show ¬ t.k = 1 by have := Hkk.out; omega), if_neg (show ¬ t.k = 2 by have := Hkk.out; omega), zero_told (by assumption) (by assumption) (by assumption) (by assumption), HBt.out]
         simp_all)
set_option maxHeartbeats 8000000 in
set_option maxRecDepth 100000 in
theorem right_ok0 (d : Nat) (t : Tree) (h0 : 0 ≤ t.k) (h6 : t.k ≤ 6) (h : d < 40) (hkk : t.k = 0) (hz : t.sized) (w : World) (S : Nat → Prop) (a : Option Addr) (n c : Nat) (hks : KSl w S t.kids a n) (hn : n = t.kids.length) (hk : n = kidsN t.k) (hK : rightK d t.k t.col t.op t.v t.kids.length = true) : Calls Tryz.prog 48 #[t.val a n c, .int .i64 (d : Int)] w fun e w' => e = .returned (.bool (rightT d t)) ∧ Below w.heap.size w w' := by
  have hK2 := hK
  have hkl : t.kids.length = kidsN t.k := hn ▸ hk
  rw [right_gen h0 h6 h hkl] at hK2
  simp only [if_pos hkk, if_neg (show ¬ t.k = 1 by omega), if_neg (show ¬ t.k = 2 by omega), Bool.and_eq_true, decide_eq_true_eq] at hK2
  obtain ⟨⟨hcol, hv⟩, ho⟩ := hK2
  have hoe : (t.op != 0) = false := by rw [ho]; rfl
  have HN0 : Hid (n = 0) := Lib.hid (by rw [hk, hkk]; rfl)
  have hRt : rightT d t = true := by
    have h5 : t.kids = [] := List.eq_nil_of_length_eq_zero (by rw [hkl, hkk]; rfl)
    rw [rightT_eq, hK, h5, rightTs]; rfl
  rw [hRt]
  rw [sized_eq] at hz
  have HZ := Lib.hid hz.1
  have HV := Lib.hid (zero_facts hv)
  have HCO := Lib.hid hcol
  simp only [Tree.val]
  have hb := Lib.hid (Below.new w (.cells (t.cells a n c) 30))
  have hkv := Lib.hid (KVar.new w t a n c 30)
  have hd0 : decide (t.k < 0) = false := decide_eq_false (by omega)
  have hd6 : decide (6 < t.k) = false := decide_eq_false (by omega)
  have hd : decide ((40 : Int) ≤ (d : Int)) = false := decide_eq_false (by omega)
  have hix := index_kids t.k h0 h6
  have hne : ((n : Int) != (kidsN t.k : Int)) = false := bne_eq_false_iff_eq.2 (by omega)
  have e0 : (t.k == 0) = true := beq_iff_eq.2 hkk
  have e1 : (t.k == 1) = false := beq_eq_false_iff_ne.2 (by omega)
  have e2 : (t.k == 2) = false := beq_eq_false_iff_ne.2 (by omega)
  have Hk := Lib.hid hk; have Hn := Lib.hid hn; have Hks := Lib.hid hks; have HK := Lib.hid hK
  clear hn hk hks hK hkk hz hv hcol ho hkl hRt
  go_enter Tryz.func48, Tryz.ntmps48
  go_wp2_with fail
  go_quiet (fail)
  go_wp2_with fail
  have hkv1 := hkv.out.below (below_drewN (Below.refl _ _) nq) hkv.out.lt
  have hb1 := below_drewN hb.out nq
  have HS1 := Lib.hid (Hks.out.later hb1)
  generalize World.drewN _ nq = W1 at hkv1 hb1 HS1 ⊢
  have HK1 := Lib.hid hkv1
  obtain ⟨c0, c1, c2, c3, c4, c5, c6, c7, c8, -, -⟩ := hkv1
  clear hix hd0 hd6 hd hne nq
  go_quiet (fail)
  have HK2 := Lib.hid (HK1.out.below (below_drewN (Below.refl _ _) nq) HK1.out.lt)
  have HB2 := Lib.hid (below_drewN hb1 nq)
  have HS2 := Lib.hid (HS1.out.later (below_drewN (Below.refl _ _) nq))
  clear c0 c1 c2 c3 c4 c5 c6 c7 c8 hb1 HS1
  generalize World.drewN _ nq = W2 at HK2 HB2 HS2 ⊢
  obtain ⟨c0, c1, c2, c3, c4, c5, c6, c7, c8, -, -⟩ := HK2.out
  have Hc := Lib.hid (nameC_any W2 t HZ.out)
  rw [HCO.out] at Hc
  obtain ⟨v1, v2, v3, v4⟩ := HV.out
  go_wp2_with fail
  refine Hc.out.mono ?_
  rintro e w3 ⟨rfl, hb3⟩
  have HB3 := Lib.hid (HB2.out.trans (hb3.mono HB2.out.size))
  obtain ⟨c0, c1, c2, c3, c4, c5, c6, c7, c8, -, -⟩ := HK2.out.below hb3 HK2.out.lt
  clear hb3
  go_wp2_with fail
  clear v1 v2 v3 v4
  go_loopg [100] n (fun g i wx => ∃ (j : Nat) (I : Int), i = .int .i64 I ∧ Hid (I = (j : Int) ∧ j + g = n) ∧ Below w.heap.size w wx)
  case atStart => exact ⟨0, 0, rfl, Lib.hid ⟨rfl, by omega⟩, HB3.out⟩
  case round =>
    obtain ⟨j, I, rfl, HI, hbx⟩ := hrel
    have Hb := Lib.hid hbx; clear hbx
    have hn0 : n = 0 := HN0.out
    have hI1 : ¬ I < (n : Int) := by have := HI.out; omega
    clear hn0
    go_wp2_with fail
    go_ret
    exact ⟨rfl, Hb.out⟩
set_option maxHeartbeats 8000000 in
set_option maxRecDepth 100000 in
theorem right_bad1 (d : Nat) (t : Tree) (h0 : 0 ≤ t.k) (h6 : t.k ≤ 6) (h : d < 40) (hkk : t.k = 1) (hz : t.sized) (w : World) (S : Nat → Prop) (a : Option Addr) (n c : Nat) (hks : KSl w S t.kids a n) (hn : n = t.kids.length) (hk : n = kidsN t.k) (hK : rightK d t.k t.col t.op t.v t.kids.length = false) : Calls Tryz.prog 48 #[t.val a n c, .int .i64 (d : Int)] w fun e w' => e = .returned (.bool (rightT d t)) ∧ Below w.heap.size w w' := by
  have hRf : rightT d t = false := by rw [rightT_eq, hK]; rfl
  rw [hRf]
  have Hkk := Lib.hid hkk
  rw [sized_eq] at hz
  have HZ := Lib.hid hz.1
  simp only [Tree.val]
  have hb := Lib.hid (Below.new w (.cells (t.cells a n c) 30))
  have hkv := Lib.hid (KVar.new w t a n c 30)
  have hd0 : decide (t.k < 0) = false := decide_eq_false (by omega)
  have hd6 : decide (6 < t.k) = false := decide_eq_false (by omega)
  have hd : decide ((40 : Int) ≤ (d : Int)) = false := decide_eq_false (by omega)
  have hix := index_kids t.k h0 h6
  have hne : ((n : Int) != (kidsN t.k : Int)) = false := bne_eq_false_iff_eq.2 (by omega)
  have e0 : (t.k == 0) = false := beq_eq_false_iff_ne.2 (by omega)
  have e1 : (t.k == 1) = true := beq_iff_eq.2 hkk
  have e2 : (t.k == 2) = false := beq_eq_false_iff_ne.2 (by omega)
  have Hk := Lib.hid hk; have Hn := Lib.hid hn; have Hks := Lib.hid hks; have HK := Lib.hid hK
  clear hn hk hks hK hkk hz
  clear hRf
  go_enter Tryz.func48, Tryz.ntmps48
  go_wp2_with fail
  go_quiet (fail)
  go_wp2_with fail
  have hkv1 := hkv.out.below (below_drewN (Below.refl _ _) nq) hkv.out.lt
  have hb1 := below_drewN hb.out nq
  have HS1 := Lib.hid (Hks.out.later hb1)
  generalize World.drewN _ nq = W1 at hkv1 hb1 HS1 ⊢
  have HK1 := Lib.hid hkv1
  obtain ⟨c0, c1, c2, c3, c4, c5, c6, c7, c8, -, -⟩ := hkv1
  clear hix hd0 hd6 hd hne nq
  go_quiet (fail)
  have HK2 := Lib.hid (HK1.out.below (below_drewN (Below.refl _ _) nq) HK1.out.lt)
  have HB2 := Lib.hid (below_drewN hb1 nq)
  have HS2 := Lib.hid (HS1.out.later (below_drewN (Below.refl _ _) nq))
  clear c0 c1 c2 c3 c4 c5 c6 c7 c8 hb1 HS1
  generalize World.drewN _ nq = W2 at HK2 HB2 HS2 ⊢
  obtain ⟨c0, c1, c2, c3, c4, c5, c6, c7, c8, -, -⟩ := HK2.out
  have Hc := Lib.hid (rightV_any W2 t.v)
  cases hB : rightB t.v with
  | false =>
    rw [hB] at Hc
    clear hB
    go_wp2_with fail
    all_goals first
      | (go_ret; exact ⟨rfl, HB2.out⟩)
      | (refine Hc.out.mono ?_
         rintro e w3 ⟨rfl, hb3⟩
         have HB3 := Lib.hid (HB2.out.trans (hb3.mono HB2.out.size))
         clear hb3
         go_wp2_with fail
         go_ret
         exact ⟨rfl, HB3.out⟩)
  | true =>
    rw [hB] at Hc
    have HBt := Lib.hid hB
    clear hB
    go_wp2_with fail
    all_goals first
      | (go_ret; exact ⟨rfl, HB2.out⟩)
      | (refine Hc.out.mono ?_
         rintro e w3 ⟨rfl, hb3⟩
         have HB3 := Lib.hid (HB2.out.trans (hb3.mono HB2.out.size))
         obtain ⟨c0, c1, c2, c3, c4, c5, c6, c7, c8, -, -⟩ := HK2.out.below hb3 HK2.out.lt
         clear hb3
         go_wp2_with fail
         all_goals first
           | (go_ret; exact ⟨rfl, HB3.out⟩)
           | (refine absurd ?_ (Bool.eq_false_iff.1 HK.out)
              rw [right_gen h0 h6 h (by rw [← Hn.out]; exact Hk.out), if_neg (show ¬ t.k = 0 by have := Hkk.out; omega), if_pos Hkk.out, if_neg (show ¬ t.k = 2 by have := Hkk.out; omega), HBt.out]
              simp_all))
set_option maxHeartbeats 8000000 in
set_option maxRecDepth 100000 in
theorem right_ok1 (d : Nat) (t : Tree) (h0 : 0 ≤ t.k) (h6 : t.k ≤ 6) (h : d < 40) (hkk : t.k = 1) (hz : t.sized) (w : World) (S : Nat → Prop) (a : Option Addr) (n c : Nat) (hks : KSl w S t.kids a n) (hn : n = t.kids.length) (hk : n = kidsN t.k) (hK : rightK d t.k t.col t.op t.v t.kids.length = true) : Calls Tryz.prog 48 #[t.val a n c, .int .i64 (d : Int)] w fun e w' => e = .returned (.bool (rightT d t)) ∧ Below w.heap.size w w' := by
  have hK2 := hK
  have hkl : t.kids.length = kidsN t.k := hn ▸ hk
  rw [right_gen h0 h6 h hkl] at hK2
  simp only [if_neg (show ¬ t.k = 0 by omega), if_pos hkk, if_neg (show ¬ t.k = 2 by omega), Bool.and_eq_true, decide_eq_true_eq] at hK2
  obtain ⟨⟨hcol, hv⟩, ho⟩ := hK2
  have hoe : (t.op != 0) = false := by rw [ho]; rfl
  have HN0 : Hid (n = 0) := Lib.hid (by rw [hk, hkk]; rfl)
  have hRt : rightT d t = true := by
    have h5 : t.kids = [] := List.eq_nil_of_length_eq_zero (by rw [hkl, hkk]; rfl)
    rw [rightT_eq, hK, h5, rightTs]; rfl
  rw [hRt]
  rw [sized_eq] at hz
  have HZ := Lib.hid hz.1
  have HRV := Lib.hid hv
  have hce : (!t.col.isEmpty) = false := by rw [hcol]; rfl
  simp only [Tree.val]
  have hb := Lib.hid (Below.new w (.cells (t.cells a n c) 30))
  have hkv := Lib.hid (KVar.new w t a n c 30)
  have hd0 : decide (t.k < 0) = false := decide_eq_false (by omega)
  have hd6 : decide (6 < t.k) = false := decide_eq_false (by omega)
  have hd : decide ((40 : Int) ≤ (d : Int)) = false := decide_eq_false (by omega)
  have hix := index_kids t.k h0 h6
  have hne : ((n : Int) != (kidsN t.k : Int)) = false := bne_eq_false_iff_eq.2 (by omega)
  have e0 : (t.k == 0) = false := beq_eq_false_iff_ne.2 (by omega)
  have e1 : (t.k == 1) = true := beq_iff_eq.2 hkk
  have e2 : (t.k == 2) = false := beq_eq_false_iff_ne.2 (by omega)
  have Hk := Lib.hid hk; have Hn := Lib.hid hn; have Hks := Lib.hid hks; have HK := Lib.hid hK
  clear hn hk hks hK hkk hz hv hcol ho hkl hRt
  go_enter Tryz.func48, Tryz.ntmps48
  go_wp2_with fail
  go_quiet (fail)
  go_wp2_with fail
  have hkv1 := hkv.out.below (below_drewN (Below.refl _ _) nq) hkv.out.lt
  have hb1 := below_drewN hb.out nq
  have HS1 := Lib.hid (Hks.out.later hb1)
  generalize World.drewN _ nq = W1 at hkv1 hb1 HS1 ⊢
  have HK1 := Lib.hid hkv1
  obtain ⟨c0, c1, c2, c3, c4, c5, c6, c7, c8, -, -⟩ := hkv1
  clear hix hd0 hd6 hd hne nq
  go_quiet (fail)
  have HK2 := Lib.hid (HK1.out.below (below_drewN (Below.refl _ _) nq) HK1.out.lt)
  have HB2 := Lib.hid (below_drewN hb1 nq)
  have HS2 := Lib.hid (HS1.out.later (below_drewN (Below.refl _ _) nq))
  clear c0 c1 c2 c3 c4 c5 c6 c7 c8 hb1 HS1
  generalize World.drewN _ nq = W2 at HK2 HB2 HS2 ⊢
  obtain ⟨c0, c1, c2, c3, c4, c5, c6, c7, c8, -, -⟩ := HK2.out
  have Hc := Lib.hid (rightV_any W2 t.v)
  rw [HRV.out] at Hc
  go_wp2_with fail
  refine Hc.out.mono ?_
  rintro e w3 ⟨rfl, hb3⟩
  have HB3 := Lib.hid (HB2.out.trans (hb3.mono HB2.out.size))
  obtain ⟨c0, c1, c2, c3, c4, c5, c6, c7, c8, -, -⟩ := HK2.out.below hb3 HK2.out.lt
  clear hb3
  go_wp2_with fail
  go_loopg [100] n (fun g i wx => ∃ (j : Nat) (I : Int), i = .int .i64 I ∧ Hid (I = (j : Int) ∧ j + g = n) ∧ Below w.heap.size w wx)
  case atStart => exact ⟨0, 0, rfl, Lib.hid ⟨rfl, by omega⟩, HB3.out⟩
  case round =>
    obtain ⟨j, I, rfl, HI, hbx⟩ := hrel
    have Hb := Lib.hid hbx; clear hbx
    have hn0 : n = 0 := HN0.out
    have hI1 : ¬ I < (n : Int) := by have := HI.out; omega
    clear hn0
    go_wp2_with fail
    go_ret
    exact ⟨rfl, Hb.out⟩
theorem right_all (m : Nat) : ∀ d, 40 - d ≤ m → RightC0 d := by
  induction m with
  | zero =>
    intro d hd t hz w S a n c hk
    by_cases h0 : t.k < 0
    · exact right_low d t h0 w a n c
    · by_cases h6 : 6 < t.k
      · exact right_high d t h6 w a n c
      · exact right_deep d t (by omega) (by omega) (by omega) w a n c
  | succ m ih =>
    intro d hd t hz w S a n c hk
    by_cases h0 : t.k < 0
    · exact right_low d t h0 w a n c
    by_cases h6 : 6 < t.k
    · exact right_high d t h6 w a n c
    by_cases h4 : 40 ≤ d
    · exact right_deep d t (by omega) (by omega) h4 w a n c
    by_cases hn : n = kidsN t.k
    · have h0' : 0 ≤ t.k := by omega
      have h6' : t.k ≤ 6 := by omega
      have h4' : d < 40 := by omega
      have ihd := ih (d + 1) (by omega)
      have hl := hk.len
      have hcase : t.k = 0 ∨ t.k = 1 ∨ t.k = 2 ∨ 3 ≤ t.k := by omega
      cases hK : rightK d t.k t.col t.op t.v t.kids.length with
      | true =>
        rcases hcase with e | e | e | e
        · exact right_ok0 d t h0' h6' h4' e hz w S a n c hk hl hn hK
        · exact right_ok1 d t h0' h6' h4' e hz w S a n c hk hl hn hK
        · exact right_ok2 d t h0' h6' h4' e ihd hz w S a n c hk hl hn hK
        · exact right_ok3 d t h0' h6' h4' e ihd hz w S a n c hk hl hn hK
      | false =>
        rcases hcase with e | e | e | e
        · exact right_bad0 d t h0' h6' h4' e hz w S a n c hk hl hn hK
        · exact right_bad1 d t h0' h6' h4' e hz w S a n c hk hl hn hK
        · exact right_bad2 d t h0' h6' h4' e w S a n c hk hl hn hK
        · exact right_bad3 d t h0' h6' h4' e w S a n c hk hl hn hK
    · exact right_many d t (by omega) (by omega) (by omega) w a n c hk.len hn
theorem rightc_any (d : Nat) : RightC0 d := right_all (40 - d) d (Nat.le_refl _)
end Go.Proofs.YtfkghfmgeholeaaGreatDoor
