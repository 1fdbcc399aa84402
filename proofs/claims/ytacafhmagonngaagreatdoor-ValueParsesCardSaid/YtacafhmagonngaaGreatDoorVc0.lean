/- The texts of values: the walks of value.Print, candidate, Parse. -/
import Derived.Test.YtacafhmagonngaaGreatDoorVb1
set_option linter.unusedVariables false
set_option linter.unusedSimpArgs false
namespace Go.Proofs.YtacafhmagonngaaGreatDoor
open Go.RowKit

abbrev tTrue : List UInt8 := [116, 114, 117, 101]
abbrev tFalse : List UInt8 := [102, 97, 108, 115, 101]
abbrev tNull : List UInt8 := [110, 117, 108, 108]
/-- the text of a value that is right -/
def printVL (v : Val) : List UInt8 :=
  if v.k = 1 then Lib.itoa v.n else if v.k = 2 then (if v.n = 1 then tTrue else tFalse) else if v.k = 3 then 120 :: hexL v.s.data.toList else if v.k = 4 then printL v.f.toNat else tNull
theorem itoaFull_any (w : World) (hl : Laid w) (n : Int) (h0 : -9223372036854775808 ≤ n) (h1 : n ≤ 9223372036854775807) : Calls Tryz.prog 31 #[.int .i64 n] w fun e w' => e = .returned (.string ⟨(Lib.itoa n).toArray⟩) ∧ Below w.heap.size w w' := by
  refine (Tryz.strconv_Itoa n h0 h1 w hl.tab).mono ?_
  rintro e w' ⟨rfl, k, os, rfl⟩
  exact ⟨rfl, grow_below w k os⟩
theorem formatBool_any (w : World) (b : Bool) : Calls Tryz.prog 32 #[.bool b] w fun e w' => e = .returned (.string ⟨(if b then tTrue else tFalse).toArray⟩) ∧ w' = w := by
  have h := Tryz.strconv_FormatBool b w
  have hf : Lib.formatBool b = if b then tTrue else tFalse := by cases b <;> rfl
  rwa [hf] at h
theorem right_s (x : Val) (h : (rightOf x).k = 3) : (rightOf x).s.size ≤ 64 := by
  unfold rightOf at *
  by_cases hr : rightB x = true
  · rw [if_pos hr] at h ⊢
    unfold rightB at hr
    rw [if_neg (by omega), if_neg (by omega), if_pos h] at hr
    simp only [Bool.and_eq_true, decide_eq_true_eq] at hr
    exact hr.2
  · rw [if_neg hr] at h
    cases h
theorem right_wf (x : Val) (h : x.Wf) : (rightOf x).Wf := by
  unfold rightOf
  split
  · exact h
  · exact ⟨by decide, by decide, by decide, by decide, by decide, by decide⟩
set_option maxHeartbeats 8000000 in
set_option maxRecDepth 100000 in
theorem printV_any (w : World) (hl : Laid w) (x : Val) (hw : x.Wf) :
    Calls Tryz.prog 14 #[x.v] w fun e w' => e = .returned (.string ⟨(printVL (rightOf x)).toArray⟩) ∧ Below w.heap.size w w' := by
  have Hl := Lib.hid hl; clear hl
  have Hr : Hid (∀ W : World, Calls Tryz.prog 30 #[x.v] W fun e w' => e = .returned (rightOf x).v ∧ Below W.heap.size W w') := Lib.hid fun W => rightof_any W x
  have hw2 := right_wf x hw
  have hs3 := right_s x
  have hat := At.new w x.k x.n x.s x.f 26
  have hbw : Below w.heap.size w (w.alloc (.cells #[.int .i64 x.k, .int .i64 x.n, .string x.s, .int .u64 x.f] 26)) := (Below.refl _ _).alloc (Nat.le_refl _) _
  generalize rightOf x = y at *
  obtain ⟨xk, xn, sx, xf⟩ := x
  obtain ⟨k, n, s, f⟩ := y
  obtain ⟨-, -, n0, n1, f0, f1⟩ := hw2
  have hp : printVL ⟨k, n, s, f⟩ = if k = 1 then Lib.itoa n else if k = 2 then (if n = 1 then tTrue else tFalse) else if k = 3 then 120 :: hexL s.data.toList else if k = 4 then printL f.toNat else tNull := rfl
  have HX := Lib.hid hp
  generalize printVL ⟨k, n, s, f⟩ = Z at *
  clear hp hw
  simp only [Val.v] at *
  have Hat := Lib.hid hat; have Hbw := Lib.hid hbw
  clear hat hbw
  go_enter Tryz.func14, Tryz.ntmps14
  go_wp2_with fail
  generalize (w.alloc _) = W0 at Hat Hbw ⊢
  generalize hA : w.heap.size = A at *
  refine (Hr.out W0).mono ?_
  rintro e w1 ⟨rfl, hb⟩
  have a1 := Hat.out.below hb Hat.out.lt
  have a2 := a1.store ⟨k, n, s, f⟩
  have b2 : Below A w (storeV w1 A ⟨k, n, s, f⟩) := below_store (Hbw.out.trans (hb.mono (Nat.le_of_lt Hat.out.lt))) (Nat.le_refl _) _
  have z0 := a1.z 0; have z1 := a1.z 1; have z2 := a1.z 2; have z3 := a1.z 3
  obtain ⟨e0, e1, e2, e3, -, -⟩ := a1
  unfold storeV at a2 b2
  have Ha2 := Lib.hid a2; have Hb2 := Lib.hid b2
  clear a2 b2 hb
  go_upto_region 2 with fail
  generalize World.setCell (World.setCell (World.setCell (World.setCell _ _ _) _ _) _ _) _ _ = W2 at Ha2 Hb2 ⊢
  clear z0 z1 z2 z3 e0 e1 e2 e3 Hat Hbw Hr
  obtain ⟨e0, e1, e2, e3, -, -⟩ := Ha2.out
  have Hb3 := Hb2
  rw [← hA] at Hb3
  have HL2 := Lib.hid (Hl.out.below Hb3.out)
  clear Hb2 Ha2 hA
  by_cases h1 : k = 1
  · subst h1
    have hx := HX.out
    rw [if_pos rfl] at hx
    have HZ := Lib.hid hx
    clear hx HX
    have Hc := Lib.hid (itoaFull_any W2 HL2.out n n0 n1)
    clear hs3 n0 n1 f0 f1
    generalize Lib.itoa n = X at *
    go_wp2_with fail
    refine Hc.out.mono ?_
    rintro e w3 ⟨rfl, hb⟩
    have hbb := Hb3.out.trans (hb.mono Hb3.out.size)
    go_wp2_with fail
    go_ret
    exact ⟨by rw [HZ.out]; rfl, hbb⟩
  have k1 : (k == 1) = false := by rw [beq_eq_false_iff_ne]; exact h1
  have hx := HX.out
  rw [if_neg h1] at hx
  by_cases h2 : k = 2
  · subst h2
    rw [if_pos rfl] at hx
    by_cases hn : n = 1
    · subst hn
      rw [if_pos rfl] at hx
      have HZ := Lib.hid hx
      clear hx HX
      have Hc := Lib.hid (formatBool_any W2 true)
      clear hs3 n0 n1 f0 f1 k1 h1
      go_wp2_with fail
      refine Hc.out.mono ?_
      rintro e w3 ⟨rfl, rfl⟩
      go_wp2_with fail
      go_ret
      exact ⟨by rw [HZ.out]; rfl, Hb3.out⟩
    · rw [if_neg hn] at hx
      have HZ := Lib.hid hx
      clear hx HX
      have hn2 : (n == 1) = false := by rw [beq_eq_false_iff_ne]; exact hn
      have Hc := Lib.hid (formatBool_any W2 false)
      clear hs3 n0 n1 f0 f1 k1 h1 hn
      go_wp2_with fail
      refine Hc.out.mono ?_
      rintro e w3 ⟨rfl, rfl⟩
      go_wp2_with fail
      go_ret
      exact ⟨by rw [HZ.out]; rfl, Hb3.out⟩
  have k2 : (k == 2) = false := by rw [beq_eq_false_iff_ne]; exact h2
  rw [if_neg h2] at hx
  by_cases h3 : k = 3
  · subst h3
    rw [if_pos rfl] at hx
    have HZ := Lib.hid hx
    clear hx HX
    have hs := hs3 rfl
    have Hc := Lib.hid (hex_any W2 s (by omega))
    have hadd := add_lists [120] (hexL s.data.toList) (by rw [hexL_length, ← Lib.size_eq]; simp; omega)
    generalize hexL s.data.toList = X at *
    clear hs3 n0 n1 f0 f1 k1 h1 k2 h2 hs
    go_wp2_with fail
    refine Hc.out.mono ?_
    rintro e w3 ⟨rfl, hb⟩
    have hbb := Hb3.out.trans (hb.mono Hb3.out.size)
    go_wp2_with fail
    go_ret
    exact ⟨by rw [HZ.out]; rfl, hbb⟩
  have k3 : (k == 3) = false := by rw [beq_eq_false_iff_ne]; exact h3
  rw [if_neg h3] at hx
  by_cases h4 : k = 4
  · subst h4
    rw [if_pos rfl] at hx
    have HZ := Lib.hid hx
    clear hx HX
    have Hc := Lib.hid (print_any W2 HL2.out f f0 f1)
    generalize printL f.toNat = X at *
    clear hs3 n0 n1 f0 f1 k1 h1 k2 h2 k3 h3
    go_wp2_with fail
    refine Hc.out.mono ?_
    rintro e w3 ⟨rfl, hb⟩
    have hbb := Hb3.out.trans (hb.mono Hb3.out.size)
    go_wp2_with fail
    go_ret
    exact ⟨by rw [HZ.out]; rfl, hbb⟩
  have k4 : (k == 4) = false := by rw [beq_eq_false_iff_ne]; exact h4
  rw [if_neg h4] at hx
  have HZ := Lib.hid hx
  clear hx HX
  clear hs3 n0 n1 f0 f1
  go_wp2_with fail
  go_ret
  exact ⟨by rw [HZ.out]; rfl, Hb3.out⟩

/-! ### a text read -/
def ErrEnds (w w' : World) (e : Ending) : Prop := ∃ (n : Int) (tp : TypeId) (p : Value), e = .returned (.tuple #[.int .i64 n, .iface tp p]) ∧ Below w.heap.size w w'
theorem atoi_some (w : World) (s : ByteArray) (hs : s.size ≤ 281474976710656) (v : Int) (h : Lib.atoiAll s.data.toList = .ok v) :
    Calls Tryz.prog 58 #[.string s] w fun e w' => e = .returned (.tuple #[.int .i64 v, .nilIface]) ∧ Below w.heap.size w w' := by
  refine (Tryz.strconv_Atoi_ok s (by omega) v h w).mono ?_
  rintro e w' ⟨rfl, rfl | ⟨t, rfl⟩⟩
  · exact ⟨rfl, Below.refl _ _⟩
  · exact ⟨rfl, Lib.bytesWorld_below w 5 t⟩
theorem atoi_none (w : World) (hl : Laid w) (s : ByteArray) (hs : s.size ≤ 281474976710656) (h : ∀ v, Lib.atoiAll s.data.toList ≠ .ok v) :
    Calls Tryz.prog 58 #[.string s] w fun e w' => ErrEnds w w' e := by
  cases hh : Lib.atoiAll s.data.toList with
  | ok v => exact absurd hh (h v)
  | range =>
    obtain ⟨ev, hev, hev2⟩ := er_cell hl
    refine (Tryz.strconv_Atoi_range s hs hh ev w hev hev2).mono ?_
    rintro e w2 ⟨N, rfl, _, _, hb⟩
    exact ⟨_, _, _, rfl, hb⟩
  | _ =>
    obtain ⟨ev, hev, hev2⟩ := es_cell hl
    refine (Any.strconv_Atoi_syntax Tryz.laysC172 s hs hh ev w hev hev2).mono ?_
    rintro e w2 ⟨N, rfl, _, _, hb⟩
    exact ⟨_, _, _, rfl, hb⟩
def atoiO (l : List UInt8) : Option Int := match Lib.atoiAll l with
  | .ok v => some v
  | _ => none
theorem atoiO_some {l : List UInt8} {v : Int} (h : atoiO l = some v) : Lib.atoiAll l = .ok v := by
  unfold atoiO at h
  split at h
  · rename_i u hu
    injection h with h
    rw [hu, h]
  · cases h
theorem atoiO_none {l : List UInt8} (h : atoiO l = none) : ∀ v, Lib.atoiAll l ≠ .ok v := by
  intro v hv
  unfold atoiO at h
  rw [hv] at h
  cases h
/-- the value that a text may be -/
def candVal (l : List UInt8) : Val :=
  if l = tFalse then ⟨2, 0, ⟨#[]⟩, 0⟩ else if l = tTrue then ⟨2, 1, ⟨#[]⟩, 0⟩ else if Lib.hasPrefix l [120] then ⟨3, 0, ⟨(unhexL (Lib.trimPrefix l [120])).toArray⟩, 0⟩
  else if parseOk l then ⟨4, 0, ⟨#[]⟩, parseV l⟩ else match atoiO l with
    | some v => ⟨1, v, ⟨#[]⟩, 0⟩
    | none => zeroVal
end Go.Proofs.YtacafhmagonngaaGreatDoor
