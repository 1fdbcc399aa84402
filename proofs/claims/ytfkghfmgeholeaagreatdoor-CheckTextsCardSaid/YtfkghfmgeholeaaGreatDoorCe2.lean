/- The walk of ref18.Faults: tests with operands, tests of tests. -/
import Derived.Test.YtfkghfmgeholeaaGreatDoorCe1
set_option linter.unusedVariables false
set_option linter.unusedSimpArgs false
namespace Go.Proofs.YtfkghfmgeholeaaGreatDoor
open Go.RowKit

set_option maxHeartbeats 16000000 in
set_option maxRecDepth 100000 in
theorem faults_null (l : List Fd) (p : Int) (x : Tree) : FaultsA l (.mk 3 p [] 0 zeroVal [x]) := by
  intro w S ta tn tc a n c hkids hl hn
  have hb0 := Below.new w (.cells (Tree.cells (.mk 3 p [] 0 zeroVal [x]) ta tn tc) 30)
  have HB0 : Hid (Below w.heap.size w _) := Lib.hid hb0
  have HV0 := Lib.hid (KVar.new w (.mk 3 p [] 0 zeroVal [x]) ta tn tc 30)
  rw [faultsL_null]
  have hkids' : KSl w S [x] ta tn := hkids
  obtain ⟨kids, HKS⟩ : ∃ k, Hid ([x] = k) := ⟨_, Lib.hid rfl⟩
  have HK0 : Hid (KSl _ S kids ta tn) := Lib.hid (HKS.out ▸ (hkids'.later hb0))
  have Hlen : Hid (tn = 1) := Lib.hid hkids'.len
  have hti : (tn : Int) ≤ 2 := by have : tn = 1 := hkids'.len; omega
  have HKd : Hid (∀ (X : World) (u : Tree) (ua : Option Addr) (un uc : Nat), Below w.heap.size w X → Calls Tryz.prog 51 #[.agg #[.int .i64 u.k, .int .i64 u.pos, .string ⟨u.col.toArray⟩, .int .i64 u.v.k, .int .i64 u.v.n, .string u.v.s, .int .u64 u.v.f, .int .i64 u.op, .slice ua un uc], .slice a n c] X fun e w' => e = .returned (.int .i64 (kdR l u)) ∧ Below X.heap.size X w') := Lib.hid fun X u ua un uc hb => kindR_any X u ua un uc a n c l (hl.later hb) hn
  clear hkids hkids' hl hn hb0
  generalize hL : opsR l [x] = L
  have HL : Hid (opsR l kids = L) := Lib.hid (by rw [← HKS.out]; exact hL)
  clear hL
  simp only [Tree.val, Tree.k, Tree.pos, Tree.col, Tree.op, Tree.v, zeroVal]
  go_enter Tryz.func35, Tryz.ntmps35
  go_upto_region 1 with fail
  generalize hW : World.alloc w _ = W
  replace HB0 : Hid (Below w.heap.size w W) := Lib.hid (by rw [← hW]; exact HB0.out)
  replace HV0 : Hid (KVar W w.heap.size (.mk 3 p [] 0 zeroVal [x]) ta tn tc) := Lib.hid (by rw [← hW]; exact HV0.out)
  have HK1 : Hid (KSl W S kids ta tn) := Lib.hid (by rw [← hW]; exact HK0.out)
  clear hW
  obtain ⟨k0, k1, k2, k3, k4, k5, k6, k7, k8, -, -⟩ := HV0.out
  simp only [Tree.k, Tree.pos, Tree.col, Tree.op, Tree.v] at k0 k1 k2 k3 k4 k5 k6 k7 k8
  go_wp2_with fail
  clear k0 k1 k2 k3 k4 k5 k6 k7 k8
  go_loopg [5, 7, 24] tn (fun g s5 _ s24 wx => ∃ (j : Nat) (I : Int) (v : Value), s5 = v ∧ s24 = .int .i64 I ∧ Hid (I = (j : Int) ∧ j + g = tn) ∧ Hid (RBuf EF W wx v (opsR l (kids.take j))))
  case atStart => exact ⟨0, 0, _, rfl, rfl, Lib.hid ⟨rfl, by omega⟩, Lib.hid (RBuf.start W)⟩
  case round =>
    obtain ⟨j, I, v, rfl, rfl, HI, HB⟩ := hrel
    have hI0 : 0 ≤ I := by have := HI.out; omega
    by_cases hm : gk = 0
    · have hI1 : ¬ I < (tn : Int) := by have := HI.out; omega
      have HVr := Lib.hid (HV0.out.below HB.out.below HV0.out.lt)
      have HBe : Hid (RBuf EF W wr u5 (opsR l kids)) := Lib.hid (by
        have h1 := HI.out; have h2 := HK1.out.len
        have h3 : kids.take j = kids := List.take_of_length_le (by omega)
        have h4 := HB.out
        rw [h3] at h4
        exact h4)
      obtain ⟨k0, k1, k2, k3, k4, k5, k6, k7, k8, -, -⟩ := HVr.out
      simp only [Tree.k, Tree.pos, Tree.col, Tree.op, Tree.v] at k0 k1 k2 k3 k4 k5 k6 k7 k8
      clear hm
      go_wp2_with fail
      go_ret
      exact fltAns (HL.out ▸ HBe.out.since HB0.out)
    · have hI1 : I < (tn : Int) := by have := HI.out; omega
      have hIj : I.toNat = j := by have := HI.out; omega
      obtain ⟨u, hu⟩ : ∃ u, kids[j]? = some u := ⟨kids[j]'(by have := HI.out; have := HK1.out.len; omega), List.getElem?_eq_getElem _⟩
      obtain ⟨b, o, ua, un, uc, e1, hua, -⟩ := (HK1.out.later HB.out.below).get hu
      subst e1
      have Hua := Lib.hid hua
      have Hnx := Lib.hid (opsR_next (l := l) hu)
      have hbn := Below.new wr (.cells (u.cells ua un uc) 30)
      have HV6 := Lib.hid (KVar.new wr u ua un uc 30)
      have Hbn := Lib.hid hbn
      have Hbw := Lib.hid ((HB0.out.trans (HB.out.below.mono HB0.out.size)).trans (hbn.mono (Nat.le_trans HB0.out.size HB.out.below.size)))
      have Hal : Hid ((opsR l (kids.take j)).length + [(u.pos, (180 : Int))].length ≤ 100000000) := Lib.hid (by have := len_take_ops l kids j; have := HK1.out.len; simp; omega)
      have Hm := Lib.hid hm
      have HKu : Hid (∀ X, Below w.heap.size w X → Calls Tryz.prog 51 #[.agg #[.int .i64 u.k, .int .i64 u.pos, .string ⟨u.col.toArray⟩, .int .i64 u.v.k, .int .i64 u.v.n, .string u.v.s, .int .u64 u.v.f, .int .i64 u.op, .slice ua un uc], .slice a n c] X fun e w' => e = .returned (.int .i64 (kdR l u)) ∧ Below X.heap.size X w') := Lib.hid fun X hb => HKd.out X u ua un uc hb
      have Hop1 : Hid (kdR l u < 0 → opR l u = [(u.pos, 180)]) := Lib.hid opR_yes
      have Hop2 : Hid (0 ≤ kdR l u → opR l u = []) := Lib.hid fun h => opR_no (by omega)
      clear hu hua hbn hm
      generalize kdR l u = K at HKu Hop1 Hop2
      generalize opR l u = OP at Hop1 Hop2 Hnx
      obtain ⟨c0, c1, c2, c3, c4, c5, c6, c7, c8⟩ := Hua.out
      go_upto_region 6 with fail
      clear c0 c1 c2 c3 c4 c5 c6 c7 c8
      generalize hW : World.alloc wr _ = W6
      replace HV6 : Hid (KVar W6 wr.heap.size u ua un uc) := Lib.hid (by rw [← hW]; exact HV6.out)
      replace Hbn : Hid (Below wr.heap.size wr W6) := Lib.hid (by rw [← hW]; exact Hbn.out)
      replace Hbw : Hid (Below w.heap.size w W6) := Lib.hid (by rw [← hW]; exact Hbw.out)
      clear hW
      obtain ⟨c0, c1, c2, c3, c4, c5, c6, c7, c8, -, -⟩ := HV6.out
      have hc := Lib.hid (HKu.out W6 Hbw.out)
      go_wp2_with fail
      refine hc.out.mono ?_
      clear hc c0 c1 c2 c3 c4 c5 c6 c7 c8
      rintro e w7 ⟨rfl, hb7⟩
      have Hb7 := Lib.hid (Hbn.out.trans (hb7.mono Hbn.out.size))
      have HV7 := Lib.hid (HV6.out.below hb7 HV6.out.lt)
      clear hb7
      obtain ⟨c0, c1, c2, c3, c4, c5, c6, c7, c8, -, -⟩ := HV7.out
      by_cases hK : K < 0
      · obtain rfl := Hop1.out hK
        go_wp2_with (at_builtin; refine wpList_rbuf EF rfl (.tmp 32) (.tmp 36) rfl W wr _ _ (opsR l (kids.take j)) [(u.pos, 180)] HB.out Hal.out (Hb7.out.alloc Hb7.out.size _) (ef_new w7 u.pos 180 _) rfl rfl ?_; intro v' w8 hb8 _; have Hb8 := Lib.hid hb8; clear hb8)
        clear c0 c1 c2 c3 c4 c5 c6 c7 c8
        go_wp2_with fail
        go_roundg (gk - 1)
        case measure => have := Hm.out; omega
        case rel => exact ⟨j + 1, I + 1, _, rfl, rfl, Lib.hid ⟨by have := HI.out; omega, by have := HI.out; have := Hm.out; omega⟩, Lib.hid (by rw [Hnx.out]; exact Hb8.out)⟩
      · obtain rfl := Hop2.out (by omega)
        clear c0 c1 c2 c3 c4 c5 c6 c7 c8
        go_wp2_with fail
        go_roundg (gk - 1)
        case measure => have := Hm.out; omega
        case rel => exact ⟨j + 1, I + 1, _, rfl, rfl, Lib.hid ⟨by have := HI.out; omega, by have := HI.out; have := Hm.out; omega⟩, Lib.hid (by rw [Hnx.out, List.append_nil]; exact HB.out.later Hb7.out)⟩
set_option maxHeartbeats 16000000 in
set_option maxRecDepth 100000 in
theorem faults_node (l : List Fd) (k p : Int) (hk : k = 4 ∨ k = 5 ∨ k = 6) (kids : List Tree) (hlen : kids.length ≤ 2) (hsz : (faultsLs l kids).length ≤ 1000000) (ih : ∀ x ∈ kids, FaultsA l x) : FaultsA l (.mk k p [] 0 zeroVal kids) := by
  intro w S ta tn tc a n c hkids hl hn
  have hb0 := Below.new w (.cells (Tree.cells (.mk k p [] 0 zeroVal kids) ta tn tc) 30)
  have HB0 : Hid (Below w.heap.size w _) := Lib.hid hb0
  have HV0 := Lib.hid (KVar.new w (.mk k p [] 0 zeroVal kids) ta tn tc 30)
  rw [faultsL_node l k p hk]
  have hkids' : KSl w S kids ta tn := hkids
  have HK0 := Lib.hid (hkids'.later hb0)
  have hti : (tn : Int) ≤ 2 := by have := hkids'.len; omega
  have HF : Hid (∀ (X : World) (u : Tree) (ua : Option Addr) (un uc : Nat), u ∈ kids → KSl X S u.kids ua un → Below w.heap.size w X → Calls Tryz.prog 35 #[.agg #[.int .i64 u.k, .int .i64 u.pos, .string ⟨u.col.toArray⟩, .int .i64 u.v.k, .int .i64 u.v.n, .string u.v.s, .int .u64 u.v.f, .int .i64 u.op, .slice ua un uc], .slice a n c] X fun e w' => FltAns X w' (faultsL l u) e) := Lib.hid fun X u ua un uc hu hks hb => ih u hu X S ua un uc a n c hks (hl.later hb) hn
  have Hsz := Lib.hid hsz
  clear hkids hkids' hl hn hb0 ih hlen hsz
  generalize hL : faultsLs l kids = L
  have HL := Lib.hid hL
  clear hL
  simp only [Tree.val, Tree.k, Tree.pos, Tree.col, Tree.op, Tree.v, zeroVal]
  rcases hk with rfl | rfl | rfl
  all_goals
    go_enter Tryz.func35, Tryz.ntmps35
    go_upto_region 1 with fail
    generalize hW : World.alloc w _ = W
    replace HB0 : Hid (Below w.heap.size w W) := Lib.hid (by rw [← hW]; exact HB0.out)
    replace HV0 : Hid (KVar W w.heap.size (.mk _ p [] 0 zeroVal kids) ta tn tc) := Lib.hid (by rw [← hW]; exact HV0.out)
    have HK1 : Hid (KSl W S kids ta tn) := Lib.hid (by rw [← hW]; exact HK0.out)
    clear hW
    obtain ⟨k0, k1, k2, k3, k4, k5, k6, k7, k8, -, -⟩ := HV0.out
    simp only [Tree.k, Tree.pos, Tree.col, Tree.op, Tree.v] at k0 k1 k2 k3 k4 k5 k6 k7 k8
    go_wp2_with fail
    clear k0 k1 k2 k3 k4 k5 k6 k7 k8
    go_loopg [5, 9, 45] tn (fun g s5 _ s45 wx => ∃ (j : Nat) (I : Int) (v : Value), s5 = v ∧ s45 = .int .i64 I ∧ Hid (I = (j : Int) ∧ j + g = tn) ∧ Hid (RBuf EF W wx v (faultsLs l (kids.take j))))
    case atStart => exact ⟨0, 0, _, rfl, rfl, Lib.hid ⟨rfl, by omega⟩, Lib.hid (by rw [List.take_zero, faultsLs]; exact RBuf.start W)⟩
    case round =>
      obtain ⟨j, I, v, rfl, rfl, HI, HB⟩ := hrel
      have hI0 : 0 ≤ I := by have := HI.out; omega
      by_cases hm : gk = 0
      · have hI1 : ¬ I < (tn : Int) := by have := HI.out; omega
        have HVr := Lib.hid (HV0.out.below HB.out.below HV0.out.lt)
        have HBe : Hid (RBuf EF W wr u5 L) := Lib.hid (by
          have h1 := HI.out; have h2 := HK1.out.len
          have h3 : kids.take j = kids := List.take_of_length_le (by omega)
          have h4 := HB.out
          rw [h3, HL.out] at h4
          exact h4)
        obtain ⟨k0, k1, k2, k3, k4, k5, k6, k7, k8, -, -⟩ := HVr.out
        simp only [Tree.k, Tree.pos, Tree.col, Tree.op, Tree.v] at k0 k1 k2 k3 k4 k5 k6 k7 k8
        clear hm
        go_wp2_with fail
        go_ret
        exact fltAns (HBe.out.since HB0.out)
      · have hI1 : I < (tn : Int) := by have := HI.out; omega
        have hIj : I.toNat = j := by have := HI.out; omega
        obtain ⟨u, hu⟩ : ∃ u, kids[j]? = some u := ⟨kids[j]'(by have := HI.out; have := HK1.out.len; omega), List.getElem?_eq_getElem _⟩
        obtain ⟨b, o, ua, un, uc, e1, hua, hus⟩ := (HK1.out.later HB.out.below).get hu
        subst e1
        have Hua := Lib.hid hua
        have Hnx := Lib.hid (faultsLs_next (l := l) hu)
        have hbn := Below.new wr (.cells (u.cells ua un uc) 30)
        have HV6 := Lib.hid (KVar.new wr u ua un uc 30)
        have Hbn := Lib.hid hbn
        have Hus := Lib.hid (hus.later hbn)
        have Hbw := Lib.hid ((HB0.out.trans (HB.out.below.mono HB0.out.size)).trans (hbn.mono (Nat.le_trans HB0.out.size HB.out.below.size)))
        have Hal : Hid ((faultsLs l (kids.take j)).length + (faultsL l u).length ≤ 100000000) := Lib.hid (by have := faultsLs_part l hu; have := Hsz.out; omega)
        have Hm := Lib.hid hm
        have HFu : Hid (∀ X, KSl X S u.kids ua un → Below w.heap.size w X → Calls Tryz.prog 35 #[.agg #[.int .i64 u.k, .int .i64 u.pos, .string ⟨u.col.toArray⟩, .int .i64 u.v.k, .int .i64 u.v.n, .string u.v.s, .int .u64 u.v.f, .int .i64 u.op, .slice ua un uc], .slice a n c] X fun e w' => FltAns X w' (faultsL l u) e) := Lib.hid fun X h1 h2 => HF.out X u ua un uc (List.mem_of_getElem? hu) h1 h2
        clear hu hua hus hbn hm
        generalize faultsL l u = FU at HFu Hnx Hal
        generalize faultsLs l (kids.take j) = FL at HB Hnx Hal
        obtain ⟨c0, c1, c2, c3, c4, c5, c6, c7, c8⟩ := Hua.out
        go_upto_region 13 with fail
        clear c0 c1 c2 c3 c4 c5 c6 c7 c8
        generalize hW : World.alloc wr _ = W6
        replace HV6 : Hid (KVar W6 wr.heap.size u ua un uc) := Lib.hid (by rw [← hW]; exact HV6.out)
        replace Hbn : Hid (Below wr.heap.size wr W6) := Lib.hid (by rw [← hW]; exact Hbn.out)
        replace Hbw : Hid (Below w.heap.size w W6) := Lib.hid (by rw [← hW]; exact Hbw.out)
        replace Hus : Hid (KSl W6 S u.kids ua un) := Lib.hid (by rw [← hW]; exact Hus.out)
        clear hW
        obtain ⟨c0, c1, c2, c3, c4, c5, c6, c7, c8, -, -⟩ := HV6.out
        have hc := Lib.hid (HFu.out W6 Hus.out Hbw.out)
        go_wp2_with fail
        refine hc.out.mono ?_
        clear hc c0 c1 c2 c3 c4 c5 c6 c7 c8
        rintro e w7 ⟨v2, rfl, hb7⟩
        have Hb7 := Lib.hid (Hbn.out.trans (hb7.below.mono Hbn.out.size))
        have Hs7 := Lib.hid hb7.sl
        clear hb7
        go_wp2_with (at_builtin; refine wpList_rbuf EF rfl (.tmp 49) (.tmp 52) rfl W wr _ _ FL FU HB.out Hal.out Hb7.out Hs7.out rfl rfl ?_; intro v' w8 hb8 _; have Hb8 := Lib.hid hb8; clear hb8)
        go_wp2_with fail
        go_roundg (gk - 1)
        case measure => have := Hm.out; omega
        case rel => exact ⟨j + 1, I + 1, _, rfl, rfl, Lib.hid ⟨by have := HI.out; omega, by have := HI.out; have := Hm.out; omega⟩, Lib.hid (by rw [Hnx.out]; exact Hb8.out)⟩
end Go.Proofs.YtfkghfmgeholeaaGreatDoor
