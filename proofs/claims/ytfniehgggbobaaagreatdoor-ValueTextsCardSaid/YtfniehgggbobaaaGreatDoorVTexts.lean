/- The walk of ValueTexts. -/
import Derived.Test.YtfniehgggbobaaaGreatDoorGH
import Derived.Test.YtfniehgggbobaaaGreatDoorGD
import Derived.Test.YtfniehgggbobaaaGreatDoorGE
set_option linter.unusedVariables false
set_option linter.unusedSimpArgs false
namespace Go.Proofs.YtfniehgggbobaaaGreatDoor
open Go.RowKit

theorem print_inj {v w : Val} (hv : RightC v) (hw : RightC w) (rv : rightB v = true) (rw' : rightB w = true) (wv : v.Wf) (ww : w.Wf) (h : printVL v = printVL w) : v = w := by
  have h1 := (parse_printV hv (right_self rv) wv).2
  have h2 := (parse_printV hw (right_self rw') ww).2
  rw [h, h2] at h1
  exact h1.symm
theorem Buf.textLater {w wr W : World} {v : Value} {l : List UInt8} (h : Buf w wr v l) (hb : Below wr.heap.size wr W) : (convert 29 9 v).run Tryz.prog W = .ok (.string ⟨l.toArray⟩) W := (h.later hb).text
theorem arr_beq {a b : List UInt8} : (((⟨a.toArray⟩ : ByteArray).toList) == ((⟨b.toArray⟩ : ByteArray).toList)) = decide (a = b) := by
  rw [ByteArray.toList_eq, ByteArray.toList_eq]
  show (a == b) = _
  by_cases h : a = b
  · rw [decide_eq_true h, h]; simp
  · rw [decide_eq_false h, beq_eq_false_iff_ne]; exact h
theorem wpAnyH_more {P : Program} {md : Region.Mode} {ops : Array Oper} {Q : Exit → Act → World → Prop} {S S' : World → Prop} (hs : ∀ w, S' w → S w) : ∀ (fuel : Nat) (listed : Array Bool) (a : Act) (w : World), wpAnyH P md ops Q S' fuel listed a w → wpAnyH P md ops Q S fuel listed a w
  | 0, _, _, _, h => h
  | fuel + 1, _, _, _, h => ⟨h.1, fun i hi => wpOp_mono (fun a' w' h' => ⟨hs _ h'.1, wpAnyH_more hs fuel _ a' w' h'.2⟩) (h.2 i hi)⟩
set_option maxHeartbeats 16000000 in
set_option maxRecDepth 100000 in
theorem textsV_walk (w : World) (hl : Laid w) (a b : Val) (ha : a.Wf) (hb : b.Wf) :
    Calls Tryz.prog 3 #[a.v, b.v] w fun e w' => e = .returned (.bool true) ∧ Below w.heap.size w w' := by
  have Hl := Lib.hid hl; clear hl
  have Hd := Lib.hid (Duo.new w a b)
  have Ra : Hid (∀ W : World, Calls Tryz.prog 9 #[a.v] W fun e w' => e = .returned (.bool (rightB a)) ∧ Below W.heap.size W w') := Lib.hid fun W => rightR_any W a ha.f0 ha.f1
  have Rb : Hid (∀ W : World, Calls Tryz.prog 9 #[b.v] W fun e w' => e = .returned (.bool (rightB b)) ∧ Below W.heap.size W w') := Lib.hid fun W => rightR_any W b hb.f0 hb.f1
  have hsl : ∀ W : World, Sl W (.slice none 0 0) [] := fun W => .inl ⟨rfl, rfl⟩
  have Pa : Hid (rightB a = true → ∀ W : World, Laid W → Calls Tryz.prog 10 #[a.v] W fun e w' => e = .returned (.string ⟨(printVL a).toArray⟩) ∧ Below W.heap.size W w') := Lib.hid fun h W hW => by
    have := printV_any W hW a ha
    rwa [right_self h] at this
  have Pb : Hid (rightB b = true → ∀ W : World, Laid W → Calls Tryz.prog 10 #[b.v] W fun e w' => e = .returned (.string ⟨(printVL b).toArray⟩) ∧ Below W.heap.size W w') := Lib.hid fun h W hW => by
    have := printV_any W hW b hb
    rwa [right_self h] at this
  have Qa : Hid (rightB a = true → ∀ W : World, Calls Tryz.prog 11 #[.slice none 0 0, a.v] W fun e w' => ∃ v', e = .returned v' ∧ Buf W w' v' (putL a)) := Lib.hid fun h W => by
    have := put_any W (.slice none 0 0) [] a (hsl W) (by simp) ha
    rwa [right_self h, List.nil_append] at this
  have Qb : Hid (rightB b = true → ∀ W : World, Calls Tryz.prog 11 #[.slice none 0 0, b.v] W fun e w' => ∃ v', e = .returned v' ∧ Buf W w' v' (putL b)) := Lib.hid fun h W => by
    have := put_any W (.slice none 0 0) [] b (hsl W) (by simp) hb
    rwa [right_self h, List.nil_append] at this
  have Oab : Hid (rightB a = true → rightB b = true → ∀ W : World, Calls Tryz.prog 12 #[a.v, b.v] W fun e w' => e = .returned (.int .i64 (ordX a b)) ∧ Below W.heap.size W w') := Lib.hid fun h1 h2 W => by
    have := orderV_any W a b ha.f0 ha.f1 hb.f0 hb.f1
    rwa [right_self h1, right_self h2] at this
  have Hz : Hid (rightB a = true → rightB b = true → (ordX a b = 0 ↔ a = b)) := Lib.hid fun h1 h2 => ordX_zero (right_cases h1) (right_cases h2) ha hb
  have Hp : Hid (rightB a = true → rightB b = true → (printVL a = printVL b ↔ a = b)) := Lib.hid fun h1 h2 => ⟨print_inj (right_cases h1) (right_cases h2) h1 h2 ha hb, fun e => by rw [e]⟩
  have Hq : Hid (rightB a = true → rightB b = true → (putL a = putL b ↔ a = b)) := Lib.hid fun h1 h2 => ⟨put_inj (right_cases h1) (right_cases h2) ha hb, fun e => by rw [e]⟩
  generalize rightB a = ra at *
  generalize rightB b = rb at *
  generalize printVL a = pa at *
  generalize printVL b = pb at *
  generalize putL a = qa at *
  generalize putL b = qb at *
  generalize ordX a b = o at *
  obtain ⟨ak, an, sa, af⟩ := a
  obtain ⟨bk, bn, sb, bf⟩ := b
  simp only [Val.v] at Ra Rb Pa Pb Qa Qb Oab
  clear ha hb hsl
  go_enter Tryz.func3, Tryz.ntmps3
  go_wp2_with fail
  generalize World.alloc (World.alloc w _) _ = W0 at Hd ⊢
  generalize hA : w.heap.size = A at *
  refine (firstV_any W0 (Hl.out.below (by rw [hA]; exact Hd.out.bel))).mono ?_
  rintro e w1 ⟨rfl, hb⟩
  have D1 := Lib.hid (Hd.out.below hb)
  have HA := Lib.hid hA
  clear hb Hd hA
  obtain ⟨a0, a1, a2, a3, -, -⟩ := D1.out.one
  obtain ⟨b0, b1, b2, b3, -, -⟩ := D1.out.two
  simp only at a0 a1 a2 a3 b0 b1 b2 b3
  go_wp2_with fail
  refine (Ra.out w1).mono ?_
  rintro e w2 ⟨rfl, hb⟩
  have D2 := Lib.hid (D1.out.below hb)
  clear hb a0 a1 a2 a3 b0 b1 b2 b3
  obtain ⟨a0, a1, a2, a3, -, -⟩ := D2.out.one
  obtain ⟨b0, b1, b2, b3, -, -⟩ := D2.out.two
  simp only at a0 a1 a2 a3 b0 b1 b2 b3
  cases ra with
  | false =>
    go_wp2_with fail
    go_ret
    exact ⟨rfl, by rw [HA.out]; exact D2.out.bel⟩
  | true =>
    go_wp2_with fail
    refine (Rb.out w2).mono ?_
    rintro e w3 ⟨rfl, hb⟩
    have D3 := Lib.hid (D2.out.below hb)
    clear hb a0 a1 a2 a3 b0 b1 b2 b3
    obtain ⟨a0, a1, a2, a3, -, -⟩ := D3.out.one
    obtain ⟨b0, b1, b2, b3, -, -⟩ := D3.out.two
    simp only at a0 a1 a2 a3 b0 b1 b2 b3
    cases rb with
    | false =>
      go_wp2_with fail
      go_ret
      exact ⟨rfl, by rw [HA.out]; exact D3.out.bel⟩
    | true =>
      have Hsm0 : Hid (∃ sm : Bool, sm = true ↔ (Val.mk ak an sa af = Val.mk bk bn sb bf)) := Lib.hid (by
        by_cases h : Val.mk ak an sa af = Val.mk bk bn sb bf
        · exact ⟨true, fun _ => h, fun _ => rfl⟩
        · exact ⟨false, fun e => (by cases e), fun e => absurd e h⟩)
      obtain ⟨sm, hsm⟩ := Hsm0.out
      have Hsm := Lib.hid hsm
      have FPa := Lib.hid (Pa.out (by trivial)); have FPb := Lib.hid (Pb.out (by trivial))
      have FQa := Lib.hid (Qa.out (by trivial)); have FQb := Lib.hid (Qb.out (by trivial))
      have FO := Lib.hid (Oab.out (by trivial) (by trivial))
      have hpe : (((⟨pa.toArray⟩ : ByteArray).toList) == ((⟨pb.toArray⟩ : ByteArray).toList)) = sm := by
        rw [arr_beq]
        cases sm with
        | true => exact decide_eq_true ((Hp.out (by trivial) (by trivial)).2 (hsm.1 rfl))
        | false => exact decide_eq_false fun e => Bool.noConfusion (hsm.2 ((Hp.out (by trivial) (by trivial)).1 e))
      have hqe : (qa == qb) = sm := by
        cases sm with
        | true => rw [beq_iff_eq]; exact (Hq.out (by trivial) (by trivial)).2 (hsm.1 rfl)
        | false => rw [beq_eq_false_iff_ne]; exact fun e => Bool.noConfusion (hsm.2 ((Hq.out (by trivial) (by trivial)).1 e))
      have hoe : (o == 0) = sm := by
        cases sm with
        | true => rw [beq_iff_eq]; exact (Hz.out (by trivial) (by trivial)).2 (hsm.1 rfl)
        | false => rw [beq_eq_false_iff_ne]; exact fun e => Bool.noConfusion (hsm.2 ((Hz.out (by trivial) (by trivial)).1 e))
      have Hpe := Lib.hid hpe; have Hqe := Lib.hid hqe; have Hoe := Lib.hid hoe
      clear hsm Hsm0 Pa Pb Qa Qb Oab Hp Hq Hz Ra Rb hpe hqe hoe D1 D2
      go_upto_region 5 with fail
      go_cut [5] (fun t wx => t = .bool sm ∧ wx = w3)
      case first =>
        go_wp2_with fail
        all_goals
          first
            | (obtain rfl : sm = true := Hsm.out.2 (val_ext (by assumption) (by assumption) (by assumption) (by assumption)); subst_vars; go_meet; exact ⟨rfl, rfl⟩)
            | (obtain rfl : sm = false := (by
                cases sm with
                | false => rfl
                | true =>
                  have hh := Hsm.out.1 rfl
                  injection hh with e1 e2 e3 e4
                  first | exact absurd e1 (by assumption) | exact absurd e2 (by assumption) | exact absurd (congrArg ByteArray.toList e3) (by assumption) | exact absurd e4 (by assumption)); subst_vars; go_meet; exact ⟨rfl, rfl⟩)
      case rest =>
        obtain ⟨rfl, rfl⟩ := hcut
        clear Hsm
        generalize (⟨pa.toArray⟩ : ByteArray) = PA at *
        generalize (⟨pb.toArray⟩ : ByteArray) = PB at *
        have hpe := Hpe.out; have hqe := Hqe.out; have hoe := Hoe.out
        clear Hpe Hqe Hoe
        have KS : Hid (∀ W : World, Duo w W A ⟨ak, an, sa, af⟩ ⟨bk, bn, sb, bf⟩ → Duo w W A ⟨ak, an, sa, af⟩ ⟨bk, bn, sb, bf⟩ ∧ W.cell? ⟨A, 0, none⟩ = some (.int .i64 ak) ∧ W.cell? ⟨A, 1, none⟩ = some (.int .i64 an) ∧ W.cell? ⟨A, 2, none⟩ = some (.string sa) ∧ W.cell? ⟨A, 3, none⟩ = some (.int .u64 af) ∧ W.cell? ⟨A + 1, 0, none⟩ = some (.int .i64 bk) ∧ W.cell? ⟨A + 1, 1, none⟩ = some (.int .i64 bn) ∧ W.cell? ⟨A + 1, 2, none⟩ = some (.string sb) ∧ W.cell? ⟨A + 1, 3, none⟩ = some (.int .u64 bf)) := Lib.hid fun W h => ⟨h, h.one.c0, h.one.c1, h.one.c2, h.one.c3, h.two.c0, h.two.c1, h.two.c2, h.two.c3⟩
        go_upto_region 6 with fail
        have hks := KS.out _ D3.out
        have HPa : Hid (∀ W : World, Duo w W A ⟨ak, an, sa, af⟩ ⟨bk, bn, sb, bf⟩ → Calls Tryz.prog 10 #[.agg #[.int .i64 ak, .int .i64 an, .string sa, .int .u64 af]] W fun e w' => e = .returned (.string PA) ∧ Below W.heap.size W w') := Lib.hid fun W h => FPa.out W (Hl.out.below (by rw [HA.out]; exact h.bel))
        have HPb : Hid (∀ W : World, Duo w W A ⟨ak, an, sa, af⟩ ⟨bk, bn, sb, bf⟩ → Calls Tryz.prog 10 #[.agg #[.int .i64 bk, .int .i64 bn, .string sb, .int .u64 bf]] W fun e w' => e = .returned (.string PB) ∧ Below W.heap.size W w') := Lib.hid fun W h => FPb.out W (Hl.out.below (by rw [HA.out]; exact h.bel))
        clear FPa FPb a0 a1 a2 a3 b0 b1 b2 b3
        cases sm
        all_goals
          refine wp_region_held_drew (S := fun W => Duo w W A ⟨ak, an, sa, af⟩ ⟨bk, bn, sb, bf⟩ ∧ W.cell? ⟨A, 0, none⟩ = some (.int .i64 ak) ∧ W.cell? ⟨A, 1, none⟩ = some (.int .i64 an) ∧ W.cell? ⟨A, 2, none⟩ = some (.string sa) ∧ W.cell? ⟨A, 3, none⟩ = some (.int .u64 af) ∧ W.cell? ⟨A + 1, 0, none⟩ = some (.int .i64 bk) ∧ W.cell? ⟨A + 1, 1, none⟩ = some (.int .i64 bn) ∧ W.cell? ⟨A + 1, 2, none⟩ = some (.string sb) ∧ W.cell? ⟨A + 1, 3, none⟩ = some (.int .u64 bf)) (by kernel_rfl) (KS.out _ (D3.out.below (Below.refl _ _).drew)) (fun hHeld => ?_)
          refine wpAnyH_take (i := 0) (oi := _) (v := ?_) rfl (by kernel_rfl) (by kernel_rfl) (by kernel_rfl) (fun _ _ _ h => h) (Or.inl ⟨by rfl, ?_⟩) (by assumption) ?_; rotate_left
          · (intro W hSw; (try dsimp only at hSw); go_simp; all_goals with_reducible rfl)
          (try simp only [Act.put, List.setIfInBounds_toArray, List.set_cons_zero, List.set_cons_succ])
          refine wpAnyH_take (i := 2) (oi := _) (v := ?_) rfl (by kernel_rfl) (by kernel_rfl) (by kernel_rfl) (fun _ _ _ h => h) (Or.inl ⟨by rfl, ?_⟩) (by assumption) ?_; rotate_left
          · (intro W hSw; (try dsimp only at hSw); go_simp; all_goals with_reducible rfl)
          (try simp only [Act.put, List.setIfInBounds_toArray, List.set_cons_zero, List.set_cons_succ])
          refine wpAnyH_take (i := 5) (oi := _) (v := ?_) rfl (by kernel_rfl) (by kernel_rfl) (by kernel_rfl) (fun _ _ _ h => h) (Or.inl ⟨by rfl, ?_⟩) (by assumption) ?_; rotate_left
          · (intro W hSw; (try dsimp only at hSw); go_simp; all_goals with_reducible rfl)
          (try simp only [Act.put, List.setIfInBounds_toArray, List.set_cons_zero, List.set_cons_succ])
          refine wpAnyH_ready (rs := [1]) (by kernel_rfl) (by simp) ?_
          refine AllReadyH.cons (o := _) rfl (fun K hK => ?_) AllReadyH.nil
          go_simp
          refine (HPa.out _ hHeld.1).mono ?_
          rintro e w4 ⟨rfl, hd0⟩
          have hd := hHeld.1.below hd0; clear hd0
          go_wp2_with fail
          refine hK.out _ _ ?_ (fun hHeld2 => ?_)
          · exact KS.out _ hd
          clear hK K hHeld
          have hHeld := hHeld2; clear hHeld2
          (try simp only [Act.put, List.setIfInBounds_toArray, List.set_cons_zero, List.set_cons_succ])
          clear hd
          refine wpAnyH_ready (rs := [3]) (by kernel_rfl) (by simp) ?_
          refine AllReadyH.cons (o := _) rfl (fun K hK => ?_) AllReadyH.nil
          go_simp
          refine (HPb.out _ hHeld.1).mono ?_
          rintro e w5 ⟨rfl, hd0⟩
          have hd := hHeld.1.below hd0; clear hd0
          go_wp2_with fail
          refine hK.out _ _ ?_ (fun hHeld2 => ?_)
          · exact KS.out _ hd
          clear hK K hHeld
          have hHeld := hHeld2; clear hHeld2
          (try simp only [Act.put, List.setIfInBounds_toArray, List.set_cons_zero, List.set_cons_succ])
          clear hd
          refine wpAnyH_take (i := 4) (oi := _) (v := ?_) rfl (by kernel_rfl) (by kernel_rfl) (by kernel_rfl) (fun _ _ _ h => h) (Or.inl ⟨by rfl, ?_⟩) (by assumption) ?_; rotate_left
          · (intro W hSw; (try dsimp only at hSw); go_simp; all_goals with_reducible rfl)
          (try simp only [Act.put, List.setIfInBounds_toArray, List.set_cons_zero, List.set_cons_succ])
          refine wpAnyH_take (i := 6) (oi := _) (v := ?_) rfl (by kernel_rfl) (by kernel_rfl) (by kernel_rfl) (fun _ _ _ h => h) (Or.inl ⟨by rfl, ?_⟩) (by assumption) ?_; rotate_left
          · (intro W hSw; (try dsimp only at hSw); go_simp; all_goals with_reducible rfl)
          (try simp only [Act.put, List.setIfInBounds_toArray, List.set_cons_zero, List.set_cons_succ])
          refine wpAnyH_take (i := 7) (oi := _) (v := ?_) rfl (by kernel_rfl) (by kernel_rfl) (by kernel_rfl) (fun _ _ _ h => h) (Or.inl ⟨by rfl, ?_⟩) (by assumption) ?_; rotate_left
          · (intro W hSw; (try dsimp only at hSw); go_simp; all_goals with_reducible rfl)
          (try simp only [Act.put, List.setIfInBounds_toArray, List.set_cons_zero, List.set_cons_succ])
          refine wpAnyH_take (i := 8) (oi := _) (v := ?_) rfl (by kernel_rfl) (by kernel_rfl) (by kernel_rfl) (fun _ _ _ h => h) (Or.inl ⟨by rfl, ?_⟩) (by assumption) ?_; rotate_left
          · (intro W hSw; (try dsimp only at hSw); go_simp; all_goals with_reducible rfl)
          (try simp only [Act.put, List.setIfInBounds_toArray, List.set_cons_zero, List.set_cons_succ])
          refine wpAnyH_take (i := 11) (oi := _) (v := ?_) rfl (by kernel_rfl) (by kernel_rfl) (by kernel_rfl) (fun _ _ _ h => h) (Or.inl ⟨by rfl, ?_⟩) (by assumption) ?_; rotate_left
          · (intro W hSw; (try dsimp only at hSw); go_simp; all_goals with_reducible rfl)
          (try simp only [Act.put, List.setIfInBounds_toArray, List.set_cons_zero, List.set_cons_succ])
          refine wpAnyH_take (i := 15) (oi := _) (v := ?_) rfl (by kernel_rfl) (by kernel_rfl) (by kernel_rfl) (fun _ _ _ h => h) (Or.inl ⟨by rfl, ?_⟩) (by assumption) ?_; rotate_left
          · (intro W hSw; (try dsimp only at hSw); go_simp; all_goals with_reducible rfl)
          (try simp only [Act.put, List.setIfInBounds_toArray, List.set_cons_zero, List.set_cons_succ])
          refine wpAnyH_ready (rs := [9]) (by kernel_rfl) (by simp) ?_
          refine AllReadyH.cons (o := _) rfl (fun K hK => ?_) AllReadyH.nil
          go_simp
          refine (FQa.out _).mono ?_
          rintro e w6 ⟨v1, rfl, hb⟩
          have hd := hHeld.1.below hb.below
          have HB1 := Lib.hid hb; clear hb
          go_wp2_with fail
          refine hK.out _ _ ?_ (fun hHeld2 => ?_)
          · exact KS.out _ hd
          clear hK K hHeld
          have hHeld := hHeld2; clear hHeld2
          (try simp only [Act.put, List.setIfInBounds_toArray, List.set_cons_zero, List.set_cons_succ])
          clear hd
          refine wpAnyH_more (S' := fun W => (Below w6.heap.size w6 W ∧ (convert 29 9 v1).run Tryz.prog W = .ok (.string ⟨qa.toArray⟩) W) ∧ Duo w W A ⟨ak, an, sa, af⟩ ⟨bk, bn, sb, bf⟩ ∧ W.cell? ⟨A, 0, none⟩ = some (.int .i64 ak) ∧ W.cell? ⟨A, 1, none⟩ = some (.int .i64 an) ∧ W.cell? ⟨A, 2, none⟩ = some (.string sa) ∧ W.cell? ⟨A, 3, none⟩ = some (.int .u64 af) ∧ W.cell? ⟨A + 1, 0, none⟩ = some (.int .i64 bk) ∧ W.cell? ⟨A + 1, 1, none⟩ = some (.int .i64 bn) ∧ W.cell? ⟨A + 1, 2, none⟩ = some (.string sb) ∧ W.cell? ⟨A + 1, 3, none⟩ = some (.int .u64 bf)) (fun _ h => h.2) _ _ _ _ ?_
          replace hHeld := And.intro (And.intro (Below.refl w6.heap.size w6) HB1.out.text) hHeld
          refine wpAnyH_take (i := 10) (oi := _) (v := ?_) rfl (by kernel_rfl) (by kernel_rfl) (by kernel_rfl) (fun _ _ _ h => h) (Or.inl ⟨by rfl, ?_⟩) (by assumption) ?_; rotate_left
          · (intro W hSw; (try dsimp only at hSw); go_simp; all_goals with_reducible rfl)
          (try simp only [Act.put, List.setIfInBounds_toArray, List.set_cons_zero, List.set_cons_succ])
          refine wpAnyH_ready (rs := [12]) (by kernel_rfl) (by simp) ?_
          refine AllReadyH.cons (o := _) rfl (fun K hK => ?_) AllReadyH.nil
          go_simp
          refine (FQb.out _).mono ?_
          rintro e w7 ⟨v2, rfl, hb⟩
          have hd := hHeld.2.1.below hb.below
          have h7 := hHeld.1.1.trans (hb.below.mono hHeld.1.1.size)
          have HB2 := Lib.hid hb; clear hb
          go_wp2_with fail
          refine hK.out _ _ ?_ (fun hHeld2 => ?_)
          · exact ⟨⟨h7, HB1.out.textLater h7⟩, KS.out _ hd⟩
          clear hK K hHeld
          have hHeld := hHeld2; clear hHeld2
          (try simp only [Act.put, List.setIfInBounds_toArray, List.set_cons_zero, List.set_cons_succ])
          clear hd h7
          refine wpAnyH_more (S' := fun W => (convert 29 9 v2).run Tryz.prog W = .ok (.string ⟨qb.toArray⟩) W ∧ Below w7.heap.size w7 W ∧ (Below w6.heap.size w6 W ∧ (convert 29 9 v1).run Tryz.prog W = .ok (.string ⟨qa.toArray⟩) W) ∧ Duo w W A ⟨ak, an, sa, af⟩ ⟨bk, bn, sb, bf⟩ ∧ W.cell? ⟨A, 0, none⟩ = some (.int .i64 ak) ∧ W.cell? ⟨A, 1, none⟩ = some (.int .i64 an) ∧ W.cell? ⟨A, 2, none⟩ = some (.string sa) ∧ W.cell? ⟨A, 3, none⟩ = some (.int .u64 af) ∧ W.cell? ⟨A + 1, 0, none⟩ = some (.int .i64 bk) ∧ W.cell? ⟨A + 1, 1, none⟩ = some (.int .i64 bn) ∧ W.cell? ⟨A + 1, 2, none⟩ = some (.string sb) ∧ W.cell? ⟨A + 1, 3, none⟩ = some (.int .u64 bf)) (fun _ h => h.2.2) _ _ _ _ ?_
          replace hHeld := And.intro HB2.out.text (And.intro (Below.refl w7.heap.size w7) hHeld)
          refine wpAnyH_take (i := 13) (oi := _) (v := ?_) rfl (by kernel_rfl) (by kernel_rfl) (by kernel_rfl) (fun _ _ _ h => h) (Or.inl ⟨by rfl, ?_⟩) (by assumption) ?_; rotate_left
          · (intro W hSw; (try dsimp only at hSw); go_simp; all_goals with_reducible rfl)
          (try simp only [Act.put, List.setIfInBounds_toArray, List.set_cons_zero, List.set_cons_succ])
          refine wpAnyH_take (i := 14) (oi := _) (v := ?_) rfl (by kernel_rfl) (by kernel_rfl) (by kernel_rfl) (fun _ _ _ h => h) (Or.inl ⟨by rfl, ?_⟩) (by assumption) ?_; rotate_left
          · (intro W hSw; (try dsimp only at hSw); go_simp; all_goals with_reducible rfl)
          (try simp only [Act.put, List.setIfInBounds_toArray, List.set_cons_zero, List.set_cons_succ])
          refine wpAnyH_take (i := 16) (oi := _) (v := ?_) rfl (by kernel_rfl) (by kernel_rfl) (by kernel_rfl) (fun _ _ _ h => h) (Or.inl ⟨by rfl, ?_⟩) (by assumption) ?_; rotate_left
          · (intro W hSw; (try dsimp only at hSw); go_simp; all_goals with_reducible rfl)
          (try simp only [Act.put, List.setIfInBounds_toArray, List.set_cons_zero, List.set_cons_succ])
          refine wpAnyH_take (i := 17) (oi := _) (v := ?_) rfl (by kernel_rfl) (by kernel_rfl) (by kernel_rfl) (fun _ _ _ h => h) (Or.inl ⟨by rfl, ?_⟩) (by assumption) ?_; rotate_left
          · (intro W hSw; (try dsimp only at hSw); go_simp; all_goals with_reducible rfl)
          (try simp only [Act.put, List.setIfInBounds_toArray, List.set_cons_zero, List.set_cons_succ])
          refine wpAnyH_take (i := 18) (oi := _) (v := ?_) rfl (by kernel_rfl) (by kernel_rfl) (by kernel_rfl) (fun _ _ _ h => h) (Or.inl ⟨by rfl, ?_⟩) (by assumption) ?_; rotate_left
          · (intro W hSw; (try dsimp only at hSw); go_simp; all_goals with_reducible rfl)
          (try simp only [Act.put, List.setIfInBounds_toArray, List.set_cons_zero, List.set_cons_succ])
          refine wpAnyH_take (i := 19) (oi := _) (v := ?_) rfl (by kernel_rfl) (by kernel_rfl) (by kernel_rfl) (fun _ _ _ h => h) (Or.inl ⟨by rfl, ?_⟩) (by assumption) ?_; rotate_left
          · (intro W hSw; (try dsimp only at hSw); go_simp; all_goals with_reducible rfl)
          (try simp only [Act.put, List.setIfInBounds_toArray, List.set_cons_zero, List.set_cons_succ])
          refine wpAnyH_take (i := 20) (oi := _) (v := ?_) rfl (by kernel_rfl) (by kernel_rfl) (by kernel_rfl) (fun _ _ _ h => h) (Or.inl ⟨by rfl, ?_⟩) (by assumption) ?_; rotate_left
          · (intro W hSw; (try dsimp only at hSw); go_simp; all_goals with_reducible rfl)
          (try simp only [Act.put, List.setIfInBounds_toArray, List.set_cons_zero, List.set_cons_succ])
          refine wpAnyH_take (i := 23) (oi := _) (v := ?_) rfl (by kernel_rfl) (by kernel_rfl) (by kernel_rfl) (fun _ _ _ h => h) (Or.inl ⟨by rfl, ?_⟩) (by assumption) ?_; rotate_left
          · (intro W hSw; (try dsimp only at hSw); go_simp; all_goals with_reducible rfl)
          (try simp only [Act.put, List.setIfInBounds_toArray, List.set_cons_zero, List.set_cons_succ])
          refine wpAnyH_ready (rs := [21]) (by kernel_rfl) (by simp) ?_
          refine AllReadyH.cons (o := _) rfl (fun K hK => ?_) AllReadyH.nil
          go_simp
          refine (FO.out _).mono ?_
          rintro e w8 ⟨rfl, hd0⟩
          have hd := hHeld.2.2.2.1.below hd0
          have h7 := hHeld.2.1.trans (hd0.mono hHeld.2.1.size)
          have h6 := hHeld.2.2.1.1.trans (hd0.mono hHeld.2.2.1.1.size)
          clear hd0
          go_wp2_with fail
          refine hK.out _ _ ?_ (fun hHeld2 => ?_)
          · exact ⟨HB2.out.textLater h7, h7, ⟨h6, HB1.out.textLater h6⟩, KS.out _ hd⟩
          clear hK K hHeld
          have hHeld := hHeld2; clear hHeld2
          (try simp only [Act.put, List.setIfInBounds_toArray, List.set_cons_zero, List.set_cons_succ])
          refine wpAnyH_take (i := 22) (oi := _) (v := ?_) rfl (by kernel_rfl) (by kernel_rfl) (by kernel_rfl) (fun _ _ _ h => h) (Or.inl ⟨by rfl, ?_⟩) (by assumption) ?_; rotate_left
          · (intro W hSw; (try dsimp only at hSw); go_simp; all_goals with_reducible rfl)
          (try simp only [Act.put, List.setIfInBounds_toArray, List.set_cons_zero, List.set_cons_succ])
          refine wpAnyH_take (i := 24) (oi := _) (v := ?_) rfl (by kernel_rfl) (by kernel_rfl) (by kernel_rfl) (fun _ _ _ h => h) (Or.inl ⟨by rfl, ?_⟩) (by assumption) ?_; rotate_left
          · (intro W hSw; (try dsimp only at hSw); go_simp; all_goals with_reducible rfl)
          (try simp only [Act.put, List.setIfInBounds_toArray, List.set_cons_zero, List.set_cons_succ])
          refine wpAnyH_take (i := 25) (oi := ⟨some 44, _, _, _, _, _⟩) (v := ?_) rfl (by kernel_rfl) (by kernel_rfl) (by kernel_rfl) (fun _ _ _ h => h) (Or.inl ⟨by rfl, ?_⟩) (by assumption) ?_; rotate_left
          · (intro W hSw; (try dsimp only at hSw); go_simp; all_goals with_reducible rfl)
          (try simp only [Act.put, List.setIfInBounds_toArray, List.set_cons_zero, List.set_cons_succ])
          refine wpAnyH_take (i := 26) (oi := ⟨some 4, _, _, _, _, _⟩) (v := ?_) rfl (by kernel_rfl) (by kernel_rfl) (by kernel_rfl) (fun _ _ _ h => h) (Or.inl ⟨by rfl, ?_⟩) (by assumption) ?_; rotate_left
          · (intro W hSw; (try dsimp only at hSw); go_simp; all_goals with_reducible rfl)
          (try simp only [Act.put, List.setIfInBounds_toArray, List.set_cons_zero, List.set_cons_succ])
          refine wpAnyH_done (by kernel_rfl) ?_ _
          go_wp2_with fail
          go_ret
          refine ⟨?_, by rw [HA.out]; exact hd.bel⟩
          first | rfl | (injections; subst_vars; rfl) | (simp_all; done) | trace_state
end Go.Proofs.YtfniehgggbobaaaGreatDoor
