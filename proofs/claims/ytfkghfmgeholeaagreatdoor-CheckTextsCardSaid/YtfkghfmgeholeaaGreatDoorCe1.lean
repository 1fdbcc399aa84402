/- The walk of ref18.Faults. -/
import Derived.Test.YtfkghfmgeholeaaGreatDoorCe0
import Derived.Test.YtfkghfmgeholeaaGreatDoorRo0
import Derived.Test.YtfkghfmgeholeaaGreatDoorCc3
import Derived.Deep.QuietTactic
import Derived.BigQuiet
set_option linter.unusedVariables false
set_option linter.unusedSimpArgs false
namespace Go.Proofs.YtfkghfmgeholeaaGreatDoor
open Go.RowKit

def encF (p : Int × Int) : List Value := [.int .i64 p.1, .int .i64 p.2]
/-- faults in a row -/
def EF : Ety (Int × Int) where
  T := 72
  S := 70
  k := 2
  bytes := 16
  enc := encF
  und := Tryz.underlying70
  info := ⟨.agg #[.int .i64 0, .int .i64 0], rfl, by kernel_rfl⟩
  pos := by decide
  small := by decide
  len := fun x => rfl
  one := fun x u hu => by
    simp only [encF, List.mem_cons, List.not_mem_nil, or_false] at hu
    rcases hu with rfl | rfl <;> rfl
theorem RBuf.since {α : Type} {E : Ety α} {w W wr : World} {v : Value} {l : List α} (h : RBuf E W wr v l) (hb : Below w.heap.size w W) : RBuf E w wr v l := by
  refine ⟨hb.trans (h.below.mono hb.size), h.own.1, ?_⟩
  rcases h.own.2 with h1 | ⟨g, cap, cur, h1, h2, h3⟩
  · exact .inl h1
  · exact .inr ⟨g, cap, cur, h1, Nat.le_trans hb.size h2, h3⟩
theorem ef_one {W : World} {b : Nat} {x y : Int} (h0 : W.cell? ⟨b, 0, none⟩ = some (.int .i64 x)) (h1 : W.cell? ⟨b, 1, none⟩ = some (.int .i64 y)) : RSl EF W (.slice (some ⟨b, 0, none⟩) 1 1) [(x, y)] :=
  RSl.one (E := EF) (Nat.le_refl _) fun j u hj => by
    match j, hj with
    | 0, hj => injection hj with hj; subst hj; exact h0
    | 1, hj => injection hj with hj; subst hj; exact h1
theorem ef_new (W : World) (x y : Int) (ty : TypeId) : RSl EF (W.alloc (.cells #[.int .i64 x, .int .i64 y] ty)) (.slice (some ⟨W.heap.size, 0, none⟩) 1 1) [(x, y)] :=
  ef_one (by simp) (by simp)
def FltAns (w w' : World) (L : List (Int × Int)) (e : Ending) : Prop := ∃ v, e = .returned v ∧ RBuf EF w w' v L
theorem fltAns {w w' : World} {L : List (Int × Int)} {v : Value} (h : RBuf EF w w' v L) : FltAns w w' L (.returned v) := ⟨v, rfl, h⟩
def FaultsA (l : List Fd) (t : Tree) : Prop := ∀ (w : World) (S : Nat → Prop) (ta : Option Addr) (tn tc : Nat) (a : Option Addr) (n c : Nat), KSl w S t.kids ta tn → FSl w a n l → n ≤ 100000 → Calls Tryz.prog 35 #[t.val ta tn tc, .slice a n c] w fun e w' => FltAns w w' (faultsL l t) e
theorem opsR_append (l : List Fd) (a b : List Tree) : opsR l (a ++ b) = opsR l a ++ opsR l b := by
  induction a with
  | nil => rfl
  | cons x a ih => rw [List.cons_append, opsR, opsR, ih, List.append_assoc]
theorem opsR_next {l : List Fd} {kids : List Tree} {j : Nat} {x : Tree} (h : kids[j]? = some x) : opsR l (kids.take (j + 1)) = opsR l (kids.take j) ++ opR l x := by
  rw [List.take_add_one, h, opsR_append]
  show _ ++ opsR l [x] = _
  rw [opsR, opsR, List.append_nil]
theorem faultsLs_append (l : List Fd) (a b : List Tree) : faultsLs l (a ++ b) = faultsLs l a ++ faultsLs l b := by
  induction a with
  | nil => rw [List.nil_append, faultsLs]; rfl
  | cons x a ih => rw [List.cons_append, faultsLs, faultsLs, ih, List.append_assoc]
theorem faultsLs_next {l : List Fd} {kids : List Tree} {j : Nat} {x : Tree} (h : kids[j]? = some x) : faultsLs l (kids.take (j + 1)) = faultsLs l (kids.take j) ++ faultsL l x := by
  rw [List.take_add_one, h, faultsLs_append]
  show _ ++ faultsLs l [x] = _
  rw [faultsLs, faultsLs, List.append_nil]
theorem opR_yes {l : List Fd} {t : Tree} (h : kdR l t < 0) : opR l t = [(t.pos, 180)] := by unfold opR; rw [if_pos h]
theorem opR_no {l : List Fd} {t : Tree} (h : ¬ kdR l t < 0) : opR l t = [] := by unfold opR; rw [if_neg h]
theorem opsR_len (l : List Fd) (k : List Tree) : (opsR l k).length ≤ k.length := by
  induction k with
  | nil => exact Nat.le_refl _
  | cons x k ih =>
    rw [opsR, List.length_append, List.length_cons]
    have : (opR l x).length ≤ 1 := by unfold opR; split <;> simp
    omega
theorem faultsL_leaf (l : List Fd) (t : Tree) (h : t.k = 0 ∨ t.k = 1) : faultsL l t = opR l t ++ boolR l t := by
  obtain ⟨k, p, c, o, v, kids⟩ := t
  have hk : k = 0 ∨ k = 1 := h
  rw [faultsL, if_neg (by omega), if_neg (by omega), if_pos (by omega), if_neg (by omega)]
  simp
theorem faultsL_null (l : List Fd) (p : Int) (x : Tree) : faultsL l (.mk 3 p [] 0 zeroVal [x]) = opsR l [x] := by
  rw [faultsL, if_pos (by decide), if_neg (by decide), if_neg (by decide), if_neg (by decide)]
  simp
theorem faultsL_cmp (l : List Fd) (p o : Int) (x y : Tree) : faultsL l (.mk 2 p [] o zeroVal [x, y]) = opsR l [x, y] ++ pairR l p [x, y] := by
  rw [faultsL, if_pos (by decide), if_neg (by decide), if_neg (by decide), if_pos (by decide)]
  simp
theorem faultsL_node (l : List Fd) (k p : Int) (hk : k = 4 ∨ k = 5 ∨ k = 6) (kids : List Tree) : faultsL l (.mk k p [] 0 zeroVal kids) = faultsLs l kids := by
  rw [faultsL, if_neg (by omega), if_pos (by omega), if_neg (by omega), if_neg (by omega)]
  simp
theorem len_take_ops (l : List Fd) (kids : List Tree) (j : Nat) : (opsR l (kids.take j)).length ≤ kids.length := Nat.le_trans (opsR_len l _) (List.length_take_le' j kids)
mutual
theorem faults_len (l : List Fd) : ∀ t : Tree, (faultsL l t).length ≤ 2 * t.nodes
  | .mk k p c o v kids => by
    have h1 := opsR_len l kids
    have h2 := faultss_len l kids
    have h3 := len_count kids
    have h4 : (opR l (.mk k p c o v kids)).length ≤ 1 := by unfold opR; split <;> simp
    have h5 : (boolR l (.mk k p c o v kids)).length ≤ 1 := by unfold boolR; split <;> simp
    have h6 : (pairR l p kids).length ≤ 1 := by
      unfold pairR
      split
      · split <;> simp
      · simp
    have h7 : (Tree.mk k p c o v kids).nodes = Tree.count kids + 1 := nodes_eq _
    rw [faultsL, h7]
    by_cases a : k < 2
    · rw [if_neg (by omega), if_neg (by omega), if_pos a, if_neg (by omega)]
      simp only [List.nil_append, List.append_nil, List.length_append]
      omega
    · by_cases b : k = 2
      · rw [if_pos (.inl b), if_neg (by omega), if_neg (by omega), if_pos b]
        simp only [List.nil_append, List.append_nil, List.length_append]
        omega
      · by_cases d : k = 3
        · rw [if_pos (.inr d), if_neg (by omega), if_neg (by omega), if_neg (by omega)]
          simp only [List.nil_append, List.append_nil]
          omega
        · rw [if_neg (by omega), if_pos (by omega), if_neg (by omega), if_neg (by omega)]
          simp only [List.nil_append, List.append_nil]
          omega
theorem faultss_len (l : List Fd) : ∀ k : List Tree, (faultsLs l k).length ≤ 2 * Tree.count k
  | [] => by rw [faultsLs]; exact Nat.zero_le _
  | t :: r => by
    have h1 := faults_len l t
    have h2 := faultss_len l r
    rw [faultsLs, count_cons, List.length_append]
    omega
end
theorem faultsLs_part (l : List Fd) {kids : List Tree} {j : Nat} {x : Tree} (h : kids[j]? = some x) : (faultsLs l (kids.take j)).length + (faultsL l x).length ≤ (faultsLs l kids).length := by
  have h1 : (faultsLs l kids).length = (faultsLs l (kids.take (j + 1))).length + (faultsLs l (kids.drop (j + 1))).length := by
    conv => lhs; rw [← List.take_append_drop (j + 1) kids, faultsLs_append, List.length_append]
  rw [h1, faultsLs_next h, List.length_append]
  omega
set_option maxHeartbeats 8000000 in
set_option maxRecDepth 100000 in
theorem faults_leaf (l : List Fd) (t : Tree) (hk : t.k = 0 ∨ t.k = 1) : FaultsA l t := by
  intro w S ta tn tc a n c hkids hl hn
  have hb0 := Below.new w (.cells (Tree.cells (t) ta tn tc) 30)
  have HB0 : Hid (Below w.heap.size w _) := Lib.hid hb0
  have HV0 := Lib.hid (KVar.new w (t) ta tn tc 30)
  rw [faultsL_leaf l t hk]
  have HK : Hid (∀ W, Below w.heap.size w W → Calls Tryz.prog 51 #[.agg #[.int .i64 t.k, .int .i64 t.pos, .string ⟨t.col.toArray⟩, .int .i64 t.v.k, .int .i64 t.v.n, .string t.v.s, .int .u64 t.v.f, .int .i64 t.op, .slice ta tn tc], .slice a n c] W fun e w' => e = .returned (.int .i64 (kdR l t)) ∧ Below W.heap.size W w') := Lib.hid fun W hb => kindR_any W t ta tn tc a n c l (hl.later hb) hn
  have HP : Hid (kdR l t < 0 → opR l t ++ boolR l t = [(t.pos, 180)]) := Lib.hid fun h => by rw [opR_yes h]; unfold boolR; rw [if_neg (by omega)]; rfl
  have HQ : Hid (0 ≤ kdR l t → (kdR l t = 1 ∨ kdR l t = 3 ∨ kdR l t = 4) → opR l t ++ boolR l t = [(t.pos, 181)]) := Lib.hid fun h h2 => by rw [opR_no (by omega)]; unfold boolR; rw [if_pos h2]; rfl
  have HN : Hid (0 ≤ kdR l t → ¬ (kdR l t = 1 ∨ kdR l t = 3 ∨ kdR l t = 4) → opR l t ++ boolR l t = []) := Lib.hid fun h h2 => by rw [opR_no (by omega)]; unfold boolR; rw [if_neg h2]; rfl
  clear hkids hl hn hb0
  generalize opR l t ++ boolR l t = L at HP HQ HN ⊢
  generalize kdR l t = K at HK HP HQ HN
  obtain ⟨tk, tp, tcol, top, ⟨vk, vn, vs, vf⟩, kids⟩ := t
  simp only [Tree.val, Tree.k, Tree.pos, Tree.col, Tree.op, Tree.v] at hk HK HP HQ ⊢
  rcases hk with rfl | rfl
  all_goals
    go_enter Tryz.func35, Tryz.ntmps35
    go_upto_region 1 with fail
    generalize hW : World.alloc w _ = W
    replace HB0 : Hid (Below w.heap.size w W) := Lib.hid (by rw [← hW]; exact HB0.out)
    replace HV0 : Hid (KVar W w.heap.size (.mk _ tp tcol top ⟨vk, vn, vs, vf⟩ kids) ta tn tc) := Lib.hid (by rw [← hW]; exact HV0.out)
    clear hW
    obtain ⟨k0, k1, k2, k3, k4, k5, k6, k7, k8, -, -⟩ := HV0.out
    simp only [Tree.k, Tree.pos, Tree.col, Tree.op, Tree.v] at k0 k1 k2 k3 k4 k5 k6 k7 k8
    have hc := Lib.hid (HK.out W HB0.out)
    go_wp2_with fail
    refine hc.out.mono ?_
    clear hc k0 k1 k2 k3 k4 k5 k6 k7 k8
    rintro e w2 ⟨rfl, hb2⟩
    have Hb2 := Lib.hid hb2
    have HBw := Lib.hid (HB0.out.trans (hb2.mono HB0.out.size))
    have HV2 := Lib.hid (HV0.out.below hb2 HV0.out.lt)
    clear hb2
    obtain ⟨k0, k1, k2, k3, k4, k5, k6, k7, k8, -, -⟩ := HV2.out
    simp only [Tree.k, Tree.pos, Tree.col, Tree.op, Tree.v] at k0 k1 k2 k3 k4 k5 k6 k7 k8
    have Hst := Lib.hid ((RBuf.start (E := EF) W).later Hb2.out)
    by_cases hK : K < 0
    · obtain rfl := HP.out hK
      have h1 : (K == 1) = false := beq_eq_false_iff_ne.2 (by omega)
      have h3 : (K == 3) = false := beq_eq_false_iff_ne.2 (by omega)
      have h4 : (K == 4) = false := beq_eq_false_iff_ne.2 (by omega)
      go_wp2_with (at_builtin; refine wpList_rbuf EF rfl (.tmp 63) (.tmp 67) rfl W w2 _ _ [] [(tp, 180)] Hst.out (by simp) (Below.new w2 _) (ef_new w2 tp 180 _) rfl rfl ?_; intro v' w4 hb4 _; have Hb4 := Lib.hid hb4; clear hb4 k0 k1 k2 k3 k4 k5 k6 k7 k8; have k0 := (HV0.out.below Hb4.out.below HV0.out.lt).c0; simp only [Tree.k, Tree.pos, Tree.col, Tree.op, Tree.v] at k0)
      go_ret
      exact fltAns (Hb4.out.since HB0.out)
    · by_cases hq : K = 1 ∨ K = 3 ∨ K = 4
      · obtain rfl := HQ.out (by omega) hq
        rcases hq with rfl | rfl | rfl
        all_goals
          go_wp2_with (at_builtin; refine wpList_rbuf EF rfl (.tmp 79) (.tmp 83) rfl W w2 _ _ [] [(tp, 181)] Hst.out (by simp) (Below.new w2 _) (ef_new w2 tp 181 _) rfl rfl ?_; intro v' w4 hb4 _; have Hb4 := Lib.hid hb4; clear hb4 k0 k1 k2 k3 k4 k5 k6 k7 k8; have k0 := (HV0.out.below Hb4.out.below HV0.out.lt).c0; simp only [Tree.k, Tree.pos, Tree.col, Tree.op, Tree.v] at k0)
          go_ret
          exact fltAns (Hb4.out.since HB0.out)
      · obtain rfl := HN.out (by omega) hq
        have h1 : (K == 1) = false := beq_eq_false_iff_ne.2 (by omega)
        have h3 : (K == 3) = false := beq_eq_false_iff_ne.2 (by omega)
        have h4 : (K == 4) = false := beq_eq_false_iff_ne.2 (by omega)
        clear hq
        go_wp2_with fail
        go_ret
        exact fltAns (Hst.out.since HB0.out)
end Go.Proofs.YtfkghfmgeholeaaGreatDoor
