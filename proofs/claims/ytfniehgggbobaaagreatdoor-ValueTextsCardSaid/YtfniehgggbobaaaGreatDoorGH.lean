/- Joined texts: Vs3; Vt0; Vt1. -/
import Derived.Test.YtfniehgggbobaaaGreatDoorGG
import Derived.Test.YtfniehgggbobaaaGreatDoorGD
import Derived.Test.YtfniehgggbobaaaGreatDoorGE
import Derived.Deep.RegionLawGrows
import Derived.Deep.DeepCutAuto
set_option linter.unusedVariables false
set_option linter.unusedSimpArgs false
namespace Go.Proofs.YtfniehgggbobaaaGreatDoor
open Go.RowKit

end Go.Proofs.YtfniehgggbobaaaGreatDoor
namespace Go.Proofs.YtfniehgggbobaaaGreatDoor
open Go.RowKit

theorem xor_zero64 (a : Int) (h0 : 0 ≤ a) (h1 : a < 18446744073709551616) : bits BinOp.xor .u64 a 0 = a := by
  show IntKind.u64.wrap ((BitVec.ofInt 64 a ^^^ BitVec.ofInt 64 0).toNat : Int) = a
  rw [show BitVec.ofInt 64 0 = 0#64 from rfl, BitVec.xor_zero, BitVec.toNat_ofInt, IntKind.wrap_u64]
  omega
theorem xor_ones64 (a : Int) (h0 : 0 ≤ a) (h1 : a < 18446744073709551616) : bits BinOp.xor .u64 a 18446744073709551615 = 18446744073709551615 - a := by
  show IntKind.u64.wrap ((BitVec.ofInt 64 a ^^^ BitVec.ofInt 64 18446744073709551615).toNat : Int) = _
  rw [show BitVec.ofInt 64 18446744073709551615 = BitVec.allOnes 64 from rfl, BitVec.xor_allOnes, BitVec.toNat_not, BitVec.toNat_ofInt, IntKind.wrap_u64]
  omega
set_option maxHeartbeats 8000000 in
set_option maxRecDepth 100000 in
theorem number_any (w : World) (v : Value) (l : List UInt8) (n : Int) (hs : Sl w v l) (hl : l.length ≤ 100000) (h0 : -9223372036854775808 ≤ n) (h1 : n ≤ 9223372036854775807) :
    Calls Tryz.prog 32 #[v, .int .i64 n] w fun e w' => ∃ v', e = .returned v' ∧ Buf w w' v' (l ++ natL (foldN n)) := by
  have hN := natural_any w v l (foldN n) hs hl (foldN_lt h0 h1)
  have HN := Lib.hid hN
  clear hN hs hl
  by_cases hn : 0 ≤ n
  · have hf : ((foldN n : Nat) : Int) = n * 2 := by unfold foldN; rw [if_pos hn]; omega
    rw [hf] at HN
    have hx := xor_zero64 (n * 2) (by omega) (by omega)
    have hd : n / 9223372036854775808 = 0 := by omega
    clear hf
    go_enter Tryz.func32, Tryz.ntmps32
    go_wp2_with fail
    refine HN.out.mono ?_
    rintro e w1 ⟨v', rfl, hb⟩
    have Hb := Lib.hid hb
    clear hb
    go_wp2_with fail
    go_ret
    exact ⟨v', rfl, Hb.out⟩
  · obtain ⟨M, hM⟩ : ∃ M : Int, M = ((foldN n : Nat) : Int) := ⟨_, rfl⟩
    have hf : M = 18446744073709551615 - (n * 2 + 18446744073709551616) := by rw [hM]; unfold foldN; rw [if_neg hn]; omega
    rw [← hM] at HN
    have hx : bits BinOp.xor .u64 (IntKind.u64.wrap (IntKind.u64.wrap n * 2)) (IntKind.u64.wrap (-1)) = M := by
      rw [show IntKind.u64.wrap (-1) = 18446744073709551615 from by decide, show IntKind.u64.wrap (IntKind.u64.wrap n * 2) = n * 2 + 18446744073709551616 from by rw [IntKind.wrap_u64, IntKind.wrap_u64]; omega, xor_ones64 _ (by omega) (by omega), hf]
    have hd : n / 9223372036854775808 = -1 := by omega
    clear hf hM
    have Hx := Lib.hid hx
    clear hx
    go_enter Tryz.func32, Tryz.ntmps32
    go_wp2_with fail
    rw [Hx.out]
    refine HN.out.mono ?_
    rintro e w1 ⟨v', rfl, hb⟩
    have Hb := Lib.hid hb
    clear hb
    go_wp2_with fail
    go_ret
    exact ⟨v', rfl, Hb.out⟩
set_option maxHeartbeats 8000000 in
set_option maxRecDepth 100000 in
theorem textP_any (w : World) (v : Value) (l : List UInt8) (s : ByteArray) (hs : Sl w v l) (hl : l.length ≤ 100000) (hz : s.size ≤ 100000) :
    Calls Tryz.prog 33 #[v, .string s] w fun e w' => ∃ v', e = .returned v' ∧ Buf w w' v' (l ++ (natL s.size ++ s.data.toList)) := by
  have HN := Lib.hid (natural_any w v l s.size hs hl (by omega))
  have Hlen : Hid ((l ++ natL s.size).length + s.size ≤ 1000000) := Lib.hid (by
    have := natF_length 9 s.size
    show (l ++ natF 9 s.size).length + s.size ≤ 1000000
    rw [List.length_append]
    omega)
  have hw : IntKind.u64.wrap (s.size : Int) = (s.size : Int) := by rw [IntKind.wrap_u64]; omega
  obtain ⟨N, hN⟩ : ∃ N, s.size = N := ⟨_, rfl⟩
  rw [hN] at HN Hlen hw
  rw [hN]
  clear hs hl hz
  go_enter Tryz.func33, Tryz.ntmps33
  go_wp2_with fail
  refine HN.out.mono ?_
  rintro e w1 ⟨v1, rfl, hb⟩
  have Hb := Lib.hid hb
  clear hb
  go_wp2_with (at_builtin; refine wpList_bufS rfl (.tmp 9) (.tmp 10) rfl w w1 _ _ s Hb.out (by rw [hN]; exact Hlen.out) (Below.refl _ _) rfl rfl ?_; intro v' w2 hb1; have Hb1 := Lib.hid hb1; clear hb1)
  go_ret
  exact ⟨v', rfl, by rw [← List.append_assoc]; exact Hb1.out⟩
/-- what an append does to a slice that is full -/
theorem step_full {ops : Array Oper} {o : Oper} {a : Act} {K : Act → World → Prop} {Q : Exit → Act → World → Prop} {E : Prop} {W : World} (hgd : o.guard = none) (s x : Operand)
    (ho : o.op = .call { callee := .builtin .append, args := #[s, x], argTypes := #[29, 29] })
    (w : World) (ao : Option Addr) (l : List UInt8) (z : UInt8) (B : Nat) (hnone : ao = none → l = []) (hold : ∀ b, ao = some b → ∀ j u, (encB l)[j]? = some u → W.cell? (b.add j) = some u) (hlen : l.length ≤ 100000)
    (hW : Below w.heap.size w W) (hX : W.cell? ⟨B, 0, none⟩ = some (.int .u8 (z.toNat : Int)))
    (hs : a.eval s = .slice ao l.length l.length) (hx : a.eval x = .slice (some ⟨B, 0, none⟩) 1 1)
    (h : ∀ v' w1, Buf w w1 v' (l ++ [z]) → K (a.put o.dst v') w1) :
    if Region.wanted o (yielded ops a.tmps) = true then Oper.wp Tryz.prog o a W K Q else E := by
  obtain ⟨i0, hi0, hz0, hz1, hz2⟩ := info_parts infoU8
  refine step_append_grows (P := Tryz.prog) hgd s x 29 ho 5 i0 (.int .u8 0) 1 1 Tryz.underlying29 hi0 hz0 hz1 hz2 rfl (by decide) ao l.length l.length (encB l) hs (fun e => by rw [hnone e]; exact ⟨rfl, rfl⟩) (enc_len l) hold
    ⟨B, 0, none⟩ 1 1 (encB [z]) hx rfl ?_ ?_ (by omega) (by unfold maxLen; omega) (by omega) ?_
  · intro j u hj
    cases j with
    | zero =>
      simp [encB] at hj
      subst hj
      exact hX
    | succ j => simp [encB] at hj
  · intro u hu
    obtain ⟨j, hj⟩ := List.getElem?_of_mem hu
    exact encB_get [z] j u hj
  · intro v' w1 h1 h2
    refine h v' w1 ⟨hW.grown h2 hW.size (fun k hk => by cases hk), ?_⟩
    rw [List.length_append, show encB (l ++ [z]) = encB l ++ encB [z] from List.map_append]
    refine ⟨h1.1, ?_⟩
    rcases h1.2 with h3 | ⟨g, cap, cur, e1, e2, e3⟩
    · exact .inl h3
    · exact .inr ⟨g, cap, cur, e1, Nat.le_trans hW.size e2, e3⟩
end Go.Proofs.YtfniehgggbobaaaGreatDoor
namespace Go.Proofs.YtfniehgggbobaaaGreatDoor
open Go.RowKit

theorem Buf.rebase {w w1 w2 : World} {v : Value} {l : List UInt8} (h : Buf w1 w2 v l) (hb : Below w.heap.size w w1) : Buf w w2 v l := by
  refine ⟨hb.trans (h.below.mono hb.size), h.own.1, ?_⟩
  rcases h.own.2 with h3 | ⟨g, cap, cur, e1, e2, e3⟩
  · exact .inl h3
  · exact .inr ⟨g, cap, cur, e1, Nat.le_trans hb.size e2, e3⟩
theorem leN_get (k : Nat) : ∀ (n j : Nat), j < k → (leN k n)[j]? = some (UInt8.ofNat (n / 256 ^ j % 256)) := by
  induction k with
  | zero => intro n j h; omega
  | succ k ih =>
    intro n j h
    cases j with
    | zero => show some _ = _; simp
    | succ j =>
      show (leN k (n / 256))[j]? = _
      rw [ih (n / 256) j (by omega), Nat.div_div_eq_div_mul, Nat.pow_succ, Nat.mul_comm 256]
theorem shift_byte (F I : Int) (f j : Nat) (hF : F = (f : Int)) (hI : I = (j : Int)) (hj : j < 8) (hf : f < 18446744073709551616) : IntKind.u8.wrap (F / 2 ^ (8 * I).toNat) = ((f / 256 ^ j % 256 : Nat) : Int) := by
  rw [IntKind.wrap_u8, hF, hI, show (8 * (j : Int)).toNat = 8 * j from by omega, show (256 : Nat) ^ j = 2 ^ (8 * j) from by rw [Nat.pow_mul]]
  rw [Int.natCast_emod, Int.natCast_ediv, Int.natCast_pow]
  rfl
set_option maxHeartbeats 16000000 in
set_option maxRecDepth 100000 in
theorem put_any (w : World) (vb : Value) (lb : List UInt8) (x : Val) (hs : Sl w vb lb) (hl : lb.length ≤ 10000) (hw : x.Wf) :
    Calls Tryz.prog 11 #[vb, x.v] w fun e w' => ∃ v', e = .returned v' ∧ Buf w w' v' (lb ++ putL (rightOf x)) := by
  have Hr : Hid (∀ W : World, Calls Tryz.prog 27 #[x.v] W fun e w' => e = .returned (rightOf x).v ∧ Below W.heap.size W w') := Lib.hid fun W => rightof_any W x
  have hy := right_wf x hw
  have hyc := rightC x
  generalize rightOf x = y at *
  obtain ⟨xk, xn, xs, xf⟩ := x
  obtain ⟨k, n, s, f⟩ := y
  have Hyc := Lib.hid hyc; have Hy := Lib.hid hy
  simp only [Val.v] at *
  have hform : ∃ (ao : Option Addr) (cp : Nat), vb = .slice ao lb.length cp ∧ lb.length ≤ cp ∧ (ao = none → lb = []) ∧ (∀ W, Below w.heap.size w W → ∀ b, ao = some b → ∀ j u, (encB lb)[j]? = some u → W.cell? (b.add j) = some u) := by
    rcases hs with ⟨rfl, rfl⟩ | ⟨a, c, rfl, hcp, hc⟩
    · exact ⟨none, 0, rfl, Nat.le_refl _, fun _ => rfl, fun W _ b e => (by cases e)⟩
    · refine ⟨some a, c, rfl, hcp, fun e => (by cases e), ?_⟩
      intro W hb b e j u hj
      obtain rfl := Option.some.inj e
      have h1 := hc j u hj
      exact (hb.cell (World.block_lt_of_cell? w _ h1)).trans h1
  obtain ⟨ao, cp, rfl, hcp, hnone, hold⟩ := hform
  have Hnone := Lib.hid hnone; have Hold := Lib.hid hold
  have Hat := Lib.hid (At.new w xk xn xs xf 25)
  have Hbw := Lib.hid (below_box1 w (.cells #[.int .i64 xk, .int .i64 xn, .string xs, .int .u64 xf] 25))
  have hcpI : (lb.length : Int) ≤ (cp : Int) := by omega
  obtain ⟨N, hN⟩ : ∃ N, lb.length = N := ⟨_, rfl⟩
  have HN := Lib.hid hN
  have HN9 : Hid (N ≤ 10000) := Lib.hid (by omega)
  rw [hN] at hcpI
  rw [hN]
  clear hs hl hw hnone hold hcp hN hyc hy
  go_enter Tryz.func11, Tryz.ntmps11
  go_upto_region 1 with fail
  generalize (w.alloc _) = W0 at Hat Hbw ⊢
  generalize hA : w.heap.size = A at *
  obtain ⟨d0, d1, d2, d3, -, -⟩ := Hat.out
  go_wp2_with fail
  refine (Hr.out W0).mono ?_
  rintro e w1 ⟨rfl, hb⟩
  have hA1 := Hat.out.below hb Hat.out.lt
  have hs1 := hA1.store ⟨k, n, s, f⟩
  have hb1 := below_store (Hbw.out.trans (hb.mono (Nat.le_of_lt Hat.out.lt))) (Nat.le_refl A) (⟨k, n, s, f⟩ : Val)
  have HA1 := Lib.hid hs1; have Hb1 := Lib.hid hb1
  have z0 := hA1.z 0; have z1 := hA1.z 1; have z2 := hA1.z 2; have z3 := hA1.z 3
  clear d0 d1 d2 d3
  obtain ⟨d0, d1, d2, d3, -, -⟩ := hA1
  clear hb hs1 hb1 Hat Hbw Hr
  go_upto_region 2 with fail
  clear z0 z1 z2 z3 d0 d1 d2 d3
  rw [show ((((w1.setCell ⟨A, 0, none⟩ (.int .i64 k)).setCell ⟨A, 1, none⟩ (.int .i64 n)).setCell ⟨A, 2, none⟩ (.string s)).setCell ⟨A, 3, none⟩ (.int .u64 f)) = storeV w1 A ⟨k, n, s, f⟩ from rfl]
  generalize storeV w1 A ⟨k, n, s, f⟩ = W2 at *
  obtain ⟨d0, d1, d2, d3, -, -⟩ := HA1.out
  have hk : 0 ≤ k ∧ k ≤ 4 := by
    rcases Hyc.out with ⟨h, -⟩ | ⟨h, -⟩ | ⟨h, -⟩ | ⟨h, -⟩ | ⟨h, -⟩ <;> simp only at h <;> omega
  obtain ⟨hk0, hk4⟩ := hk
  obtain ⟨z, hz⟩ : ∃ z, z = UInt8.ofNat k.toNat := ⟨_, rfl⟩
  have hzn : (z.toNat : Int) = k := by rw [hz, ofNat_toNat (by omega)]; omega
  have Hzn := Lib.hid hzn
  have hw8 : IntKind.u8.wrap k = k := by rw [IntKind.wrap_u8]; omega
  have HZ := Lib.hid hz
  have HX : Hid (Below A w W2) := Hb1
  have Hlb : Hid (lb.length ≤ 100000) := Lib.hid (by have := HN.out; have := HN9.out; omega)
  have Hcells : Hid (∀ W, Below W2.heap.size W2 W → ∀ b, ao = some b → ∀ j u, (encB lb)[j]? = some u → W.cell? (b.add j) = some u) := Lib.hid fun W h => Hold.out W (HX.out.trans (h.mono (Nat.le_of_lt HA1.out.lt)))
  clear hzn hz
  go_region_law (refine step_full rfl (.tmp 14) (.tmp 18) rfl W2 ao lb z W2.heap.size Hnone.out (Hcells.out _ (((Below.refl _ _).drew).alloc (by simp) _)) Hlb.out (((Below.refl _ _).drew).alloc (by simp) _) (by simp [Hzn.out]) (by rw [HN.out]; rfl) rfl ?_; intro v' w3 hb3; have Hb3 := Lib.hid hb3; clear hb3)
  clear d0 d1 d2 d3 hw8
  have HA3 := Lib.hid (HA1.out.below Hb3.out.below HA1.out.lt)
  obtain ⟨d0, d1, d2, d3, -, -⟩ := HA3.out
  have Hfin : Hid (∀ w' v'' l, Buf w3 w' v'' l → Buf w w' v'' l) := Lib.hid fun w' v'' l h => (h.rebase Hb3.out.below).rebase (by rw [hA]; exact HX.out)
  have Hfin2 : Hid (∀ w' v'' l, Buf W2 w' v'' l → Buf w w' v'' l) := Lib.hid fun w' v'' l h => h.rebase (by rw [hA]; exact HX.out)
  have Hl9 : Hid ((lb ++ [z]).length ≤ 100000) := Lib.hid (by rw [List.length_append]; have := HN.out; have := HN9.out; simp; omega)
  clear hcpI hA
  rcases Hyc.out with ⟨h1, h2, h3, h4⟩ | ⟨h1, h2, h3⟩ | ⟨h1, h2, h3, h4⟩ | ⟨h1, h2, h3, h4⟩ | ⟨h1, h2, h3, h4⟩
  · simp only at h1 h2 h3 h4
    subst h1 h2 h3 h4
    have hp : Hid (lb ++ putL ⟨0, 0, ⟨#[]⟩, 0⟩ = lb ++ [z]) := Lib.hid (by rw [HZ.out]; rfl)
    clear hk0 hk4
    go_wp2_with fail
    go_ret
    exact ⟨_, rfl, by rw [hp.out]; exact Hfin2.out _ _ _ Hb3.out⟩
  · simp only at h1 h2 h3
    subst h1 h2 h3
    have hp : Hid (lb ++ putL ⟨1, n, ⟨#[]⟩, 0⟩ = (lb ++ [z]) ++ natL (foldN n)) := Lib.hid (by rw [HZ.out, List.append_assoc]; rfl)
    have HC := Lib.hid (number_any w3 v' (lb ++ [z]) n Hb3.out.sl Hl9.out Hy.out.n0 Hy.out.n1)
    clear hk0 hk4
    go_wp2_with fail
    refine HC.out.mono ?_
    rintro e w4 ⟨v4, rfl, hb⟩
    have Hb4 := Lib.hid hb
    clear hb
    go_wp2_with fail
    go_ret
    exact ⟨_, rfl, by rw [hp.out]; exact Hfin.out _ _ _ Hb4.out⟩
  · simp only at h1 h2 h3 h4
    subst h1 h2 h3
    obtain ⟨y, hy⟩ : ∃ y, y = UInt8.ofNat n.toNat := ⟨_, rfl⟩
    have Hyn : Hid ((y.toNat : Int) = n) := Lib.hid (by rw [hy, ofNat_toNat (by omega)]; omega)
    have hp : Hid (lb ++ putL ⟨2, n, ⟨#[]⟩, 0⟩ = (lb ++ [z]) ++ [y]) := Lib.hid (by rw [HZ.out, hy, List.append_assoc]; rfl)
    have hw8 : IntKind.u8.wrap n = n := by rw [IntKind.wrap_u8]; omega
    clear hk0 hk4 h4 hy
    go_wp2_with (at_builtin; refine wpList_buf rfl (.tmp 30) (.tmp 34) rfl W2 w3 _ _ _ [y] Hb3.out (by have := Hl9.out; simp only [List.length_singleton]; omega) ((Below.refl _ _).alloc (Nat.le_refl _) _) (Buf.lit w3 y _ (by rw [Hyn.out])).sl rfl rfl ?_; intro v4 w4 hb1; have Hb4 := Lib.hid hb1; clear hb1)
    go_ret
    exact ⟨_, rfl, by rw [hp.out]; exact Hfin2.out _ _ _ Hb4.out⟩
  · simp only at h1 h2 h3 h4
    subst h1 h2 h3
    have hp : Hid (lb ++ putL ⟨3, 0, s, 0⟩ = (lb ++ [z]) ++ (natL s.size ++ s.data.toList)) := Lib.hid (by rw [HZ.out, List.append_assoc]; rfl)
    have HC := Lib.hid (textP_any w3 v' (lb ++ [z]) s Hb3.out.sl Hl9.out (by omega))
    clear hk0 hk4 h4
    go_wp2_with fail
    refine HC.out.mono ?_
    rintro e w4 ⟨v4, rfl, hb⟩
    have Hb4 := Lib.hid hb
    clear hb
    go_wp2_with fail
    go_ret
    exact ⟨_, rfl, by rw [hp.out]; exact Hfin.out _ _ _ Hb4.out⟩
  · simp only at h1 h2 h3 h4
    subst h1 h2 h3
    have hf0 := Hy.out.f0
    have hf1 := Hy.out.f1
    simp only at hf0 hf1
    obtain ⟨g, hg⟩ : ∃ g : Nat, f = (g : Int) := ⟨f.toNat, by omega⟩
    have hgt : f.toNat = g := by omega
    have hp : Hid (lb ++ putL ⟨4, 0, ⟨#[]⟩, f⟩ = (lb ++ [z]) ++ leN 8 g) := Lib.hid (by rw [HZ.out, List.append_assoc, ← hgt]; rfl)
    have Hg : Hid (f = (g : Int) ∧ g < 18446744073709551616) := Lib.hid ⟨hg, by omega⟩
    clear hk0 hk4 h4 hg hgt hf1
    go_wp2_with fail
    go_loopg [5, 44] 8 (fun mm out iv wr => ∃ (j : Nat) (I : Int), iv = .int .i64 I ∧ Hid (j + mm = 8 ∧ I = (j : Int)) ∧ Buf W2 wr out ((lb ++ [z]) ++ (leN 8 g).take j))
    case atStart => exact ⟨0, 0, rfl, Lib.hid ⟨rfl, rfl⟩, by rw [List.take_zero, List.append_nil]; exact Hb3.out⟩
    case round =>
      obtain ⟨j, I, rfl, HI, hb⟩ := hrel
      have Hb := Lib.hid hb
      clear hb d0 d1 d2 d3
      have hI0 : 0 ≤ I := by have := HI.out.2; omega
      have hI8 : I ≤ 8 := by have := HI.out.2; have := HI.out.1; omega
      by_cases hm : gk = 0
      · have hI1 : ¬ I < 8 := by have := HI.out.2; have := HI.out.1; omega
        have hall : Hid (lb ++ [z] ++ (leN 8 g).take j = lb ++ [z] ++ leN 8 g) := Lib.hid (by rw [List.take_of_length_le (by rw [leN_length]; have := HI.out.1; omega)])
        clear hm
        go_wp2_with fail
        go_ret
        exact ⟨_, rfl, by rw [hp.out, ← hall.out]; exact Hfin2.out _ _ _ Hb.out⟩
      · have hI1 : I < 8 := by have := HI.out.2; have := HI.out.1; omega
        have hj : j < 8 := by have := HI.out.1; omega
        obtain ⟨y, hy⟩ : ∃ y, y = UInt8.ofNat (g / 256 ^ j % 256) := ⟨_, rfl⟩
        have hyn : (y.toNat : Int) = ((g / 256 ^ j % 256 : Nat) : Int) := by rw [hy, ofNat_toNat (by omega)]
        have hsh := shift_byte f I g j Hg.out.1 HI.out.2 hj Hg.out.2
        rw [← hyn] at hsh
        obtain ⟨Y, hY⟩ : ∃ Y : Int, Y = (y.toNat : Int) := ⟨_, rfl⟩
        rw [← hY] at hsh
        have HY := Lib.hid hY
        have hst : Hid (lb ++ [z] ++ (leN 8 g).take j ++ [y] = lb ++ [z] ++ (leN 8 g).take (j + 1)) := Lib.hid (by
          have h := leN_get 8 g j hj
          rw [← hy] at h
          rw [take_snoc h, List.append_assoc])
        have Hal : Hid ((lb ++ [z] ++ (leN 8 g).take j).length + [y].length ≤ 1000000) := Lib.hid (by
          rw [List.length_append, List.length_take, leN_length]
          have := Hl9.out
          simp only [List.length_singleton]
          omega)
        have hA5 := HA1.out.below Hb.out.below HA1.out.lt
        obtain ⟨d0, d1, d2, d3, -, -⟩ := hA5
        have Hj := Lib.hid hj
        clear hm hj hy hyn hY
        go_wp2_with (at_builtin; refine wpList_buf rfl (.tmp 47) (.tmp 54) rfl W2 wr _ _ _ [y] Hb.out Hal.out ((Below.refl _ _).alloc (Nat.le_refl _) _) (Buf.lit wr y _ (by rw [HY.out])).sl rfl rfl ?_; intro v4 w4 hb1; have Hb4 := Lib.hid hb1; clear hb1)
        go_roundg (7 - j)
        case measure => have := HI.out.1; have := Hj.out; omega
        case rel => exact ⟨j + 1, I + 1, by go_num, Lib.hid ⟨by have := HI.out.1; have := Hj.out; omega, by have := HI.out.2; omega⟩, by rw [← hst.out]; exact Hb4.out⟩
end Go.Proofs.YtfniehgggbobaaaGreatDoor
