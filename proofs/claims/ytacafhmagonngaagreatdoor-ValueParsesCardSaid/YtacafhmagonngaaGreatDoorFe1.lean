/- A text that may be a float's: the walks of ParseUint, candidate. -/
import Derived.Test.YtacafhmagonngaaGreatDoorFe0
set_option linter.unusedVariables false
set_option linter.unusedSimpArgs false
namespace Go.Proofs.YtacafhmagonngaaGreatDoor
open Go.RowKit

theorem cell_of_var {w : World} {name : String} {v : Value} {g : Nat} (hg : Program.globalNamed Tryz.prog name = some g) (h : w.var? Tryz.prog name = some #[v]) : w.cell? ⟨g, 0, none⟩ = some v := by
  unfold World.var? at h
  rw [hg] at h
  simp only [Option.bind_some] at h
  split at h
  · rename_i cs t f hh
    injection h with h
    subst h
    simp [World.cell?, hh]
  · cases h
theorem es_cell {w : World} (h : Laid w) : ∃ ev, w.cell? ⟨2, 0, none⟩ = some ev ∧ (ev = .nilIface ∨ ∃ te pe, ev = .iface te pe) := by
  obtain ⟨tp, p, e⟩ := h.es
  exact ⟨_, cell_of_var (by kernel_rfl) e, .inr ⟨_, _, rfl⟩⟩
theorem er_cell {w : World} (h : Laid w) : ∃ ev, w.cell? ⟨3, 0, none⟩ = some ev ∧ (ev = .nilIface ∨ ∃ te pe, ev = .iface te pe) := by
  obtain ⟨tp, p, e⟩ := h.er
  exact ⟨_, cell_of_var (by kernel_rfl) e, .inr ⟨_, _, rfl⟩⟩

/-- how it answers -/
def PuEnds (w w' : World) (e : Ending) (v : Int) : Prop := ∃ ev, e = .returned (.tuple #[.int .u64 v, ev]) ∧ Below w.heap.size w w'
theorem parseuint_any (w : World) (hl : Laid w) (s : ByteArray) (hs : s.size ≤ 281474976710656) :
    Calls Tryz.prog 105 #[.string s, .int .i64 16, .int .i64 64] w fun e w' => PuEnds w w' e ((pu16 0 s.data.toList).1 : Int) := by
  have Hl := Lib.hid hl; clear hl
  by_cases he : s.size = 0
  · have hse : s = ⟨#[]⟩ := ByteArray.ext (Array.eq_empty_of_size_eq_zero he)
    subst hse
    clear he
    go_enter Tryz.func105, Tryz.ntmps105
    go_wp2_with fail
    refine (Tryz.internal_strconv_ParseUint_empty 16 64 w).mono ?_
    rintro e w' ⟨rfl, rfl⟩
    go_wp2_with fail
    obtain ⟨ev, hev, hev2⟩ := es_cell Hl.out
    refine (Tryz.strconv_toError_syntax _ ⟨#[]⟩ 16 64 ev w' (by decide) hev hev2).mono ?_
    rintro e w2 ⟨N, rfl, _, _, hb⟩
    go_wp2_with fail
    go_ret2
    exact ⟨_, rfl, hb⟩
  · go_enter Tryz.func105, Tryz.ntmps105
    go_wp2_with fail
    refine (parse16 s he (by omega) w).mono ?_
    rintro e w1 ⟨rfl, hb⟩
    generalize hp : pu16 0 s.data.toList = p
    obtain ⟨v, k⟩ := p
    have Hp := Lib.hid hp
    clear hp
    have Hb := Lib.hid hb; clear hb
    unfold puErr
    by_cases hk0 : k = 0
    · rw [if_pos hk0]
      clear hk0
      go_wp2_with fail
      go_ret2
      exact ⟨_, by rw [Hp.out]; rfl, Hb.out⟩
    · rw [if_neg hk0]
      by_cases hk1 : k = 1
      · rw [if_pos hk1]
        clear hk0 hk1
        go_wp2_with fail
        obtain ⟨ev, hev, hev2⟩ := er_cell (Hl.out.below Hb.out)
        refine (Tryz.strconv_toError_range _ s 16 64 ev w1 hs hev hev2).mono ?_
        rintro e w2 ⟨N, rfl, _, _, hb⟩
        have hbb := Hb.out.trans (hb.mono Hb.out.size)
        clear hb hev hev2
        go_wp2_with fail
        go_ret2
        exact ⟨_, by rw [Hp.out]; rfl, hbb⟩
      · rw [if_neg hk1]
        clear hk0 hk1
        go_wp2_with fail
        obtain ⟨ev, hev, hev2⟩ := es_cell (Hl.out.below Hb.out)
        refine (Tryz.strconv_toError_syntax _ s 16 64 ev w1 hs hev hev2).mono ?_
        rintro e w2 ⟨N, rfl, _, _, hb⟩
        have hbb := Hb.out.trans (hb.mono Hb.out.size)
        clear hb hev hev2
        go_wp2_with fail
        go_ret2
        exact ⟨_, by rw [Hp.out]; rfl, hbb⟩
def atoiV (l : List UInt8) : Int := match Lib.atoiAll l with
  | .ok v => v
  | .range => Lib.atoiSat l
  | _ => 0
def AtEnds (w w' : World) (e : Ending) (v : Int) : Prop := ∃ ev, e = .returned (.tuple #[.int .i64 v, ev]) ∧ Below w.heap.size w w'
theorem atoi_any (w : World) (hl : Laid w) (s : ByteArray) (hs : s.size ≤ 281474976710656) :
    Calls Tryz.prog 58 #[.string s] w fun e w' => AtEnds w w' e (atoiV s.data.toList) := by
  unfold atoiV
  cases h : Lib.atoiAll s.data.toList with
  | ok v =>
    refine (Tryz.strconv_Atoi_ok s (by omega) v h w).mono ?_
    rintro e w' ⟨rfl, rfl | ⟨t, rfl⟩⟩
    · exact ⟨_, rfl, Below.refl _ _⟩
    · exact ⟨_, rfl, Lib.bytesWorld_below w 5 t⟩
  | range =>
    obtain ⟨ev, hev, hev2⟩ := er_cell hl
    refine (Tryz.strconv_Atoi_range s hs h ev w hev hev2).mono ?_
    rintro e w2 ⟨N, rfl, _, _, hb⟩
    exact ⟨_, rfl, hb⟩
  | _ =>
    obtain ⟨ev, hev, hev2⟩ := es_cell hl
    refine (Any.strconv_Atoi_syntax Tryz.laysC172 s hs h ev w hev hev2).mono ?_
    rintro e w2 ⟨N, rfl, _, _, hb⟩
    exact ⟨_, rfl, hb⟩
theorem inf_any (w : World) : (Calls Tryz.prog 104 #[.int .i64 1] w fun e w' => e = .returned (.float .f64 9218868437227405312) ∧ w = w') ∧ (Calls Tryz.prog 104 #[.int .i64 (-1)] w fun e w' => e = .returned (.float .f64 18442240474082181120) ∧ w = w') := by
  have h1 := from_bits 9218868437227405312
  have h2 := from_bits 18442240474082181120
  constructor
  · go_enter Tryz.func104, Tryz.ntmps104
    go_wp2_with fail
    go_ret
    exact ⟨rfl, rfl⟩
  · go_enter Tryz.func104, Tryz.ntmps104
    go_wp2_with fail
    go_ret
    exact ⟨rfl, rfl⟩

/-- the float that a text may be -/
def candV (l : List UInt8) : Int :=
  if l = [110, 97, 110] then 9221120237041090560 else if l = [105, 110, 102] then 9218868437227405312 else if l = [45, 105, 110, 102] then 18442240474082181120
  else if l = [45, 48, 46] then 9223372036854775808 else if Lib.hasPrefix l [48, 120] then ((pu16 0 (Lib.trimPrefix l [48, 120])).1 : Int) else fromV (atoiV (Lib.trimSuffix l [46]))
theorem bytes_ne {s : ByteArray} {l : List UInt8} (h : ¬ s.data.toList = l) : (s.toList == l) = false := by
  rw [ByteArray.toList_eq, beq_eq_false_iff_ne]
  exact h
theorem bytes_eq {s : ByteArray} {l : List UInt8} (h : s.data.toList = l) : s = ⟨l.toArray⟩ := by
  apply ByteArray.ext
  rw [← h]
theorem candidate_any (w : World) (hl : Laid w) (s : ByteArray) (hs : s.size ≤ 281474976710656) :
    Calls Tryz.prog 82 #[.string s] w fun e w' => e = .returned (.int .u64 (candV s.data.toList)) ∧ Below w.heap.size w w' := by
  have Hl := Lib.hid hl; clear hl
  have hb1 := bits_of 9218868437227405312
  have hb2 := bits_of 18442240474082181120
  by_cases h1 : s.data.toList = [110, 97, 110]
  · have hc : candV s.data.toList = 9221120237041090560 := by unfold candV; rw [if_pos h1]
    rw [hc]
    have := bytes_eq h1
    subst this
    clear h1 hc
    go_enter Tryz.func82, Tryz.ntmps82
    go_wp2_with fail
    go_ret
    exact ⟨rfl, Below.refl _ _⟩
  by_cases h2 : s.data.toList = [105, 110, 102]
  · have hc : candV s.data.toList = 9218868437227405312 := by unfold candV; rw [if_neg h1, if_pos h2]
    rw [hc]
    have := bytes_eq h2
    subst this
    clear h1 h2 hc
    go_enter Tryz.func82, Tryz.ntmps82
    go_wp2_with fail
    refine (inf_any w).1.mono ?_
    rintro e w' ⟨rfl, rfl⟩
    go_wp2_with fail
    go_ret
    exact ⟨rfl, Below.refl _ _⟩
  by_cases h3 : s.data.toList = [45, 105, 110, 102]
  · have hc : candV s.data.toList = 18442240474082181120 := by unfold candV; rw [if_neg h1, if_neg h2, if_pos h3]
    rw [hc]
    have := bytes_eq h3
    subst this
    clear h1 h2 h3 hc
    go_enter Tryz.func82, Tryz.ntmps82
    go_wp2_with fail
    refine (inf_any w).2.mono ?_
    rintro e w' ⟨rfl, rfl⟩
    go_wp2_with fail
    go_ret
    exact ⟨rfl, Below.refl _ _⟩
  by_cases h4 : s.data.toList = [45, 48, 46]
  · have hc : candV s.data.toList = 9223372036854775808 := by unfold candV; rw [if_neg h1, if_neg h2, if_neg h3, if_pos h4]
    rw [hc]
    have := bytes_eq h4
    subst this
    clear h1 h2 h3 h4 hc
    go_enter Tryz.func82, Tryz.ntmps82
    go_wp2_with fail
    go_ret
    exact ⟨rfl, Below.refl _ _⟩
  have n1 := bytes_ne h1
  have n2 := bytes_ne h2
  have n3 := bytes_ne h3
  have n4 := bytes_ne h4
  have hcv : candV s.data.toList = if Lib.hasPrefix s.data.toList [48, 120] then ((pu16 0 (Lib.trimPrefix s.data.toList [48, 120])).1 : Int) else fromV (atoiV (Lib.trimSuffix s.data.toList [46])) := by
    unfold candV; rw [if_neg h1, if_neg h2, if_neg h3, if_neg h4]
  have Hcv := Lib.hid hcv
  clear hcv h1 h2 h3 h4 hb1 hb2
  go_enter Tryz.func82, Tryz.ntmps82
  go_wp2_with fail
  refine (Tryz.strings_CutPrefix s _ w).mono ?_
  rintro e w' ⟨rfl, rfl⟩
  have hsl : s.data.toList.length ≤ 281474976710656 := by rw [← Lib.size_eq]; exact hs
  cases hpf : Lib.hasPrefix s.data.toList [48, 120] with
  | true =>
    have Hc := Lib.hid (show candV s.data.toList = ((pu16 0 (Lib.trimPrefix s.data.toList [48, 120])).1 : Int) by rw [Hcv.out, if_pos hpf])
    have hlen : (Lib.trimPrefix s.data.toList [48, 120]).length ≤ s.data.toList.length := by
      unfold Lib.trimPrefix; split <;> simp
    generalize hT : Lib.trimPrefix s.data.toList [48, 120] = T at Hc hlen
    clear hT hpf n1 n2 n3 n4 Hcv
    go_wp2_with fail
    refine (parseuint_any w' Hl.out ⟨T.toArray⟩ (by simp [ByteArray.size]; omega)).mono ?_
    rintro e w1 ⟨ev, rfl, hb⟩
    have Hb := Lib.hid hb; clear hb
    go_wp2_with fail
    go_ret
    exact ⟨by rw [Hc.out]; rfl, Hb.out⟩
  | false =>
    have Hc := Lib.hid (show candV s.data.toList = fromV (atoiV (Lib.trimSuffix s.data.toList [46])) by rw [Hcv.out, if_neg (by simp [hpf])])
    have hlen : (Lib.trimSuffix s.data.toList [46]).length ≤ s.data.toList.length := by
      unfold Lib.trimSuffix; split <;> simp
    generalize hT : Lib.trimSuffix s.data.toList [46] = T at Hc hlen
    have HT := Lib.hid hT
    generalize Lib.trimPrefix s.data.toList [48, 120] = T0
    clear hT hpf n1 n2 n3 n4 Hcv
    go_wp2_with fail
    refine (Tryz.strings_TrimSuffix s _ w' (by omega)).mono ?_
    rintro e w1 ⟨rfl, rfl⟩
    generalize hT' : Lib.trimSuffix s.data.toList [46] = T'
    obtain rfl : T = T' := by rw [← hT', HT.out]
    clear hT'
    go_wp2_with fail
    refine (atoi_any w1 Hl.out ⟨T.toArray⟩ (by simp [ByteArray.size]; omega)).mono ?_
    rintro e w2 ⟨ev, rfl, hb⟩
    have Hb := Lib.hid hb; clear hb
    go_wp2_with fail
    refine (fromint_any w2 _).mono ?_
    rintro e w3 ⟨rfl, rfl⟩
    go_wp2_with fail
    go_ret
    exact ⟨by rw [Hc.out]; rfl, Hb.out⟩
end Go.Proofs.YtacafhmagonngaaGreatDoor
