/- The walks of the cache's exported functions: hold, release, drop, has, counts. -/
import Derived.Test.YtdblpcfkiiliiaaC3
set_option linter.unusedVariables false
set_option linter.unusedSimpArgs false
namespace Go.Proofs.Ytdblpcfkiiliiaa
open Go.RowKit

/-- there is no such tenant -/
structure Seek (w : World) (c : Nat) (t page : Int) : Prop where
  part' : ∀ W : World, Below w.heap.size w W → Calls Try.prog 21 #[.pointer (some ⟨c, 0, none⟩), .int .i64 t] W fun e w' => e = .returned (.pointer none) ∧ W = w'
theorem Seek.part {w : World} {c : Nat} {t page : Int} (h : Seek w c t page) : Calls Try.prog 21 #[.pointer (some ⟨c, 0, none⟩), .int .i64 t] w fun e w' => e = .returned (.pointer none) ∧ w = w' := h.part' w (Below.refl _ _)
theorem seek_out {w : World} {c a cap : Nat} {pb fb : Nat → Nat} {ps : List Pt} (h : CaAt w c a cap pb fb ps) (t page : Int) (ht : t < 0 ∨ (ps.length : Int) ≤ t) : Seek w c t page :=
  ⟨fun W hb => by
    by_cases h0 : t < 0
    · exact part_neg c t W h0
    · exact part_out c a cap pb fb ps t W (h.below hb) (by omega) (by omega)⟩

theorem hold_no (w : World) (c : Nat) (t page : Int) (h : Seek w c t page) : Calls Try.prog 13 #[.pointer (some ⟨c, 0, none⟩), .int .i64 t, .int .i64 page] w fun e w' => e = .returned (.bool false) ∧ Below w.heap.size w w' := by
  have H := Lib.hid h; clear h
  go_enter Try.func13, Try.ntmps13
  go_wp2_with fail
  refine H.out.part.mono ?_
  rintro e w' ⟨rfl, rfl⟩
  go_wp2_with fail
  refine (find_nil page w).mono ?_
  rintro e w' ⟨rfl, hb⟩
  go_wp2_with fail
  go_ret
  exact ⟨rfl, hb⟩
theorem release_no (w : World) (c : Nat) (t page : Int) (h : Seek w c t page) : Calls Try.prog 14 #[.pointer (some ⟨c, 0, none⟩), .int .i64 t, .int .i64 page] w fun e w' => e = .returned (.bool false) ∧ Below w.heap.size w w' := by
  have H := Lib.hid h; clear h
  go_enter Try.func14, Try.ntmps14
  go_wp2_with fail
  refine H.out.part.mono ?_
  rintro e w' ⟨rfl, rfl⟩
  go_wp2_with fail
  refine (find_nil page w).mono ?_
  rintro e w' ⟨rfl, hb⟩
  go_wp2_with fail
  go_ret
  exact ⟨rfl, hb⟩
theorem drop_no (w : World) (c : Nat) (t page : Int) (h : Seek w c t page) : Calls Try.prog 15 #[.pointer (some ⟨c, 0, none⟩), .int .i64 t, .int .i64 page] w fun e w' => e = .returned (.bool false) ∧ Below w.heap.size w w' := by
  have H := Lib.hid h; clear h
  go_enter Try.func15, Try.ntmps15
  go_wp2_with fail
  refine H.out.part.mono ?_
  rintro e w' ⟨rfl, rfl⟩
  go_wp2_with fail
  refine (find_nil page w).mono ?_
  rintro e w' ⟨rfl, hb⟩
  go_wp2_with fail
  go_ret
  exact ⟨rfl, hb⟩
theorem has_no (w : World) (c : Nat) (t page : Int) (h : Seek w c t page) : Calls Try.prog 16 #[.pointer (some ⟨c, 0, none⟩), .int .i64 t, .int .i64 page] w fun e w' => e = .returned (.bool false) ∧ Below w.heap.size w w' := by
  have H := Lib.hid h; clear h
  go_enter Try.func16, Try.ntmps16
  go_wp2_with fail
  refine H.out.part.mono ?_
  rintro e w' ⟨rfl, rfl⟩
  go_wp2_with fail
  refine (find_nil page w).mono ?_
  rintro e w' ⟨rfl, hb⟩
  go_wp2_with fail
  go_ret
  exact ⟨rfl, hb⟩
theorem touch_arg (w : World) (c : Nat) (t page : Int) (h : Seek w c t page) : Calls Try.prog 10 #[.pointer (some ⟨c, 0, none⟩), .int .i64 t, .int .i64 page] w fun e w' => e = .returned (.tuple #[.bool false, .int .i64 2]) ∧ Below w.heap.size w w' := by
  have H := Lib.hid h; clear h
  go_enter Try.func10, Try.ntmps10
  go_wp2_with fail
  refine H.out.part.mono ?_
  rintro e w' ⟨rfl, rfl⟩
  go_wp2_with fail
  go_ret2
  exact ⟨rfl, Below.refl _ _⟩
theorem counts_no (w : World) (c : Nat) (t : Int) (h : Seek w c t 0) : Calls Try.prog 11 #[.pointer (some ⟨c, 0, none⟩), .int .i64 t] w fun e w' => e = .returned (.agg #[.int .i64 0, .int .i64 0, .int .i64 0, .int .i64 0]) ∧ Below w.heap.size w w' := by
  have hp := h.part' (w.alloc (.cells #[.int .i64 0, .int .i64 0, .int .i64 0, .int .i64 0] 32)) ((Below.refl _ _).alloc (Nat.le_refl _) _)
  have Hp := Lib.hid hp; clear hp
  clear h
  go_enter Try.func11, Try.ntmps11
  go_wp2_with fail
  refine Hp.out.mono ?_
  rintro e w' ⟨rfl, rfl⟩
  go_wp2_with fail
  exact bodyPost_ret (v := .agg #[.int .i64 0, .int .i64 0, .int .i64 0, .int .i64 0]) (by simp [results, Try.results11, go_sem]) rfl ⟨rfl, (Below.refl _ _).alloc (Nat.le_refl _) _⟩

theorem hold_none (w : World) (c a cap : Nat) (pb fb : Nat → Nat) (ps : List Pt) (h : CaAt w c a cap pb fb ps) (t : Nat) (ht : t < ps.length) (page : Int) (hf : firstOf (isPage page) ps[t].frames = none) :
    Calls Try.prog 13 #[.pointer (some ⟨c, 0, none⟩), .int .i64 t, .int .i64 page] w fun e w' => e = .returned (.bool false) ∧ Below w.heap.size w w' := by
  have hp := h.pt t ht
  have H := Lib.hid h; clear h
  have Hp := Lib.hid hp; clear hp
  have Hf := Lib.hid hf; clear hf
  go_enter Try.func13, Try.ntmps13
  go_wp2_with fail
  refine (part_in c a cap pb fb ps t w H.out ht).mono ?_
  rintro e w' ⟨rfl, rfl⟩
  go_wp2_with fail
  refine (find_any w (pb t) (fb t) ps[t] Hp.out page).mono ?_
  rintro e w' ⟨rfl, hb⟩
  rw [Hf.out]
  simp only [ptrTo, Option.map_none]
  go_wp2_with fail
  go_ret
  exact ⟨rfl, hb⟩
theorem hold_some (w : World) (c a cap : Nat) (pb fb : Nat → Nat) (ps : List Pt) (h : CaAt w c a cap pb fb ps) (t : Nat) (ht : t < ps.length) (page : Int) (i : Nat) (hf : firstOf (isPage page) ps[t].frames = some i)
    (hi : i < ps[t].frames.length) (b0 : 0 ≤ ps[t].frames[i].held) (b1 : ps[t].frames[i].held ≤ 1000000) :
    Calls Try.prog 13 #[.pointer (some ⟨c, 0, none⟩), .int .i64 t, .int .i64 page] w fun e w' => e = .returned (.bool true) ∧
      PtAt w' (pb t) (fb t) { ps[t] with frames := ps[t].frames.set i { ps[t].frames[i] with held := ps[t].frames[i].held + 1 } } ∧ Upd (Of (pb t) (fb t)) w w' := by
  have hp := h.pt t ht
  have H := Lib.hid h; clear h
  have Hp := Lib.hid hp; clear hp
  have Hf := Lib.hid hf; clear hf
  go_enter Try.func13, Try.ntmps13
  go_wp2_with fail
  refine (part_in c a cap pb fb ps t w H.out ht).mono ?_
  rintro e w' ⟨rfl, rfl⟩
  go_wp2_with fail
  refine (find_any w (pb t) (fb t) ps[t] Hp.out page).mono ?_
  rintro e w' ⟨rfl, hb⟩
  rw [Hf.out]
  have hp2 := Hp.out.below hb
  have fr := hp2.fr.four i hi
  have z2 := hp2.z2 (i * 4 + 3)
  have Hp2 := Lib.hid hp2; clear hp2
  have hu : Upd (Of (pb t) (fb t)) w w' := Upd.of_below hb
  clear hb
  obtain ⟨f0, f1, f2, f3⟩ := fr
  simp only [ptrTo, Option.map_some]
  go_wp2_with fail
  go_ret
  refine ⟨rfl, ?_, hu.setCell (.inr rfl) _⟩
  exact Hp2.out.setFrame i hi 3 (by omega) { ps[t].frames[i] with held := ps[t].frames[i].held + 1 } (fun j hj hne => by match j, hj with | 0, _ => rfl | 1, _ => rfl | 2, _ => rfl | 3, _ => exact absurd rfl hne)

theorem release_none (w : World) (c a cap : Nat) (pb fb : Nat → Nat) (ps : List Pt) (h : CaAt w c a cap pb fb ps) (t : Nat) (ht : t < ps.length) (page : Int) (hf : firstOf (isPage page) ps[t].frames = none) :
    Calls Try.prog 14 #[.pointer (some ⟨c, 0, none⟩), .int .i64 t, .int .i64 page] w fun e w' => e = .returned (.bool false) ∧ Below w.heap.size w w' := by
  have hp := h.pt t ht
  have H := Lib.hid h; clear h
  have Hp := Lib.hid hp; clear hp
  have Hf := Lib.hid hf; clear hf
  go_enter Try.func14, Try.ntmps14
  go_wp2_with fail
  refine (part_in c a cap pb fb ps t w H.out ht).mono ?_
  rintro e w' ⟨rfl, rfl⟩
  go_wp2_with fail
  refine (find_any w (pb t) (fb t) ps[t] Hp.out page).mono ?_
  rintro e w' ⟨rfl, hb⟩
  rw [Hf.out]
  simp only [ptrTo, Option.map_none]
  go_wp2_with fail
  go_ret
  exact ⟨rfl, hb⟩
theorem release_loose (w : World) (c a cap : Nat) (pb fb : Nat → Nat) (ps : List Pt) (h : CaAt w c a cap pb fb ps) (t : Nat) (ht : t < ps.length) (page : Int) (i : Nat) (hf : firstOf (isPage page) ps[t].frames = some i)
    (hi : i < ps[t].frames.length) (b0 : ps[t].frames[i].held = 0) :
    Calls Try.prog 14 #[.pointer (some ⟨c, 0, none⟩), .int .i64 t, .int .i64 page] w fun e w' => e = .returned (.bool false) ∧ Below w.heap.size w w' := by
  have hp := h.pt t ht
  have H := Lib.hid h; clear h
  have Hp := Lib.hid hp; clear hp
  have Hf := Lib.hid hf; clear hf
  have B0 := Lib.hid b0; clear b0
  go_enter Try.func14, Try.ntmps14
  go_wp2_with fail
  refine (part_in c a cap pb fb ps t w H.out ht).mono ?_
  rintro e w' ⟨rfl, rfl⟩
  go_wp2_with fail
  refine (find_any w (pb t) (fb t) ps[t] Hp.out page).mono ?_
  rintro e w' ⟨rfl, hb⟩
  rw [Hf.out]
  have hp2 := Hp.out.below hb
  have fr := hp2.fr.four i hi
  clear hp2
  obtain ⟨f0, f1, f2, f3⟩ := fr
  rw [B0.out] at f3
  simp only [ptrTo, Option.map_some]
  go_wp2_with fail
  go_ret
  exact ⟨rfl, hb⟩
theorem release_some (w : World) (c a cap : Nat) (pb fb : Nat → Nat) (ps : List Pt) (h : CaAt w c a cap pb fb ps) (t : Nat) (ht : t < ps.length) (page : Int) (i : Nat) (hf : firstOf (isPage page) ps[t].frames = some i)
    (hi : i < ps[t].frames.length) (b0 : 0 < ps[t].frames[i].held) (b1 : ps[t].frames[i].held ≤ 1000000) :
    Calls Try.prog 14 #[.pointer (some ⟨c, 0, none⟩), .int .i64 t, .int .i64 page] w fun e w' => e = .returned (.bool true) ∧
      PtAt w' (pb t) (fb t) { ps[t] with frames := ps[t].frames.set i { ps[t].frames[i] with held := ps[t].frames[i].held - 1 } } ∧ Upd (Of (pb t) (fb t)) w w' := by
  have hp := h.pt t ht
  have b2 : (ps[t].frames[i].held == 0) = false := by rw [beq_eq_false_iff_ne]; omega
  have H := Lib.hid h; clear h
  have Hp := Lib.hid hp; clear hp
  have Hf := Lib.hid hf; clear hf
  go_enter Try.func14, Try.ntmps14
  go_wp2_with fail
  refine (part_in c a cap pb fb ps t w H.out ht).mono ?_
  rintro e w' ⟨rfl, rfl⟩
  go_wp2_with fail
  refine (find_any w (pb t) (fb t) ps[t] Hp.out page).mono ?_
  rintro e w' ⟨rfl, hb⟩
  rw [Hf.out]
  have hp2 := Hp.out.below hb
  have fr := hp2.fr.four i hi
  have z2 := hp2.z2 (i * 4 + 3)
  have Hp2 := Lib.hid hp2; clear hp2
  have hu : Upd (Of (pb t) (fb t)) w w' := Upd.of_below hb
  clear hb
  obtain ⟨f0, f1, f2, f3⟩ := fr
  simp only [ptrTo, Option.map_some]
  go_wp2_with fail
  go_ret
  refine ⟨rfl, ?_, hu.setCell (.inr rfl) _⟩
  exact Hp2.out.setFrame i hi 3 (by omega) { ps[t].frames[i] with held := ps[t].frames[i].held - 1 } (fun j hj hne => by match j, hj with | 0, _ => rfl | 1, _ => rfl | 2, _ => rfl | 3, _ => exact absurd rfl hne)

theorem drop_none (w : World) (c a cap : Nat) (pb fb : Nat → Nat) (ps : List Pt) (h : CaAt w c a cap pb fb ps) (t : Nat) (ht : t < ps.length) (page : Int) (hf : firstOf (isPage page) ps[t].frames = none) :
    Calls Try.prog 15 #[.pointer (some ⟨c, 0, none⟩), .int .i64 t, .int .i64 page] w fun e w' => e = .returned (.bool false) ∧ Below w.heap.size w w' := by
  have hp := h.pt t ht
  have H := Lib.hid h; clear h
  have Hp := Lib.hid hp; clear hp
  have Hf := Lib.hid hf; clear hf
  go_enter Try.func15, Try.ntmps15
  go_wp2_with fail
  refine (part_in c a cap pb fb ps t w H.out ht).mono ?_
  rintro e w' ⟨rfl, rfl⟩
  go_wp2_with fail
  refine (find_any w (pb t) (fb t) ps[t] Hp.out page).mono ?_
  rintro e w' ⟨rfl, hb⟩
  rw [Hf.out]
  simp only [ptrTo, Option.map_none]
  go_wp2_with fail
  go_ret
  exact ⟨rfl, hb⟩
theorem drop_held (w : World) (c a cap : Nat) (pb fb : Nat → Nat) (ps : List Pt) (h : CaAt w c a cap pb fb ps) (t : Nat) (ht : t < ps.length) (page : Int) (i : Nat) (hf : firstOf (isPage page) ps[t].frames = some i)
    (hi : i < ps[t].frames.length) (b0 : 0 < ps[t].frames[i].held) :
    Calls Try.prog 15 #[.pointer (some ⟨c, 0, none⟩), .int .i64 t, .int .i64 page] w fun e w' => e = .returned (.bool false) ∧ Below w.heap.size w w' := by
  have hp := h.pt t ht
  have H := Lib.hid h; clear h
  have Hp := Lib.hid hp; clear hp
  have Hf := Lib.hid hf; clear hf
  go_enter Try.func15, Try.ntmps15
  go_wp2_with fail
  refine (part_in c a cap pb fb ps t w H.out ht).mono ?_
  rintro e w' ⟨rfl, rfl⟩
  go_wp2_with fail
  refine (find_any w (pb t) (fb t) ps[t] Hp.out page).mono ?_
  rintro e w' ⟨rfl, hb⟩
  rw [Hf.out]
  have hp2 := Hp.out.below hb
  have fr := hp2.fr.four i hi
  clear hp2
  obtain ⟨f0, f1, f2, f3⟩ := fr
  simp only [ptrTo, Option.map_some]
  go_wp2_with fail
  go_ret
  exact ⟨rfl, hb⟩
theorem drop_some (w : World) (c a cap : Nat) (pb fb : Nat → Nat) (ps : List Pt) (h : CaAt w c a cap pb fb ps) (t : Nat) (ht : t < ps.length) (page : Int) (i : Nat) (hf : firstOf (isPage page) ps[t].frames = some i)
    (hi : i < ps[t].frames.length) (b0 : ¬ 0 < ps[t].frames[i].held) :
    Calls Try.prog 15 #[.pointer (some ⟨c, 0, none⟩), .int .i64 t, .int .i64 page] w fun e w' => e = .returned (.bool true) ∧
      PtAt w' (pb t) (fb t) { ps[t] with frames := ps[t].frames.set i Fr.zero } ∧ Upd (Of (pb t) (fb t)) w w' := by
  have hp := h.pt t ht
  have H := Lib.hid h; clear h
  have Hp := Lib.hid hp; clear hp
  have Hf := Lib.hid hf; clear hf
  go_enter Try.func15, Try.ntmps15
  go_wp2_with fail
  refine (part_in c a cap pb fb ps t w H.out ht).mono ?_
  rintro e w' ⟨rfl, rfl⟩
  go_wp2_with fail
  refine (find_any w (pb t) (fb t) ps[t] Hp.out page).mono ?_
  rintro e w' ⟨rfl, hb⟩
  rw [Hf.out]
  have hp2 := Hp.out.below hb
  have fr := hp2.fr.four i hi
  have z2 := hp2.z2 (i * 4)
  have z3 := hp2.z2 (i * 4 + 1)
  have z4 := hp2.z2 (i * 4 + 2)
  have z5 := hp2.z2 (i * 4 + 3)
  have Hp2 := Lib.hid hp2; clear hp2
  have hu : Upd (Of (pb t) (fb t)) w w' := Upd.of_below hb
  clear hb
  obtain ⟨f0, f1, f2, f3⟩ := fr
  simp only [ptrTo, Option.map_some]
  go_wp2_with fail
  go_ret
  refine ⟨rfl, ?_, (((hu.setCell (.inr rfl) _).setCell (.inr rfl) _).setCell (.inr rfl) _).setCell (.inr rfl) _⟩
  exact Hp2.out.setAll i hi Fr.zero

theorem has_any (w : World) (c a cap : Nat) (pb fb : Nat → Nat) (ps : List Pt) (h : CaAt w c a cap pb fb ps) (t : Nat) (ht : t < ps.length) (page : Int) :
    Calls Try.prog 16 #[.pointer (some ⟨c, 0, none⟩), .int .i64 t, .int .i64 page] w fun e w' => e = .returned (.bool (firstOf (isPage page) ps[t].frames).isSome) ∧ Below w.heap.size w w' := by
  have hp := h.pt t ht
  have H := Lib.hid h; clear h
  have Hp := Lib.hid hp; clear hp
  cases hf : firstOf (isPage page) ps[t].frames with
  | none =>
    have Hf := Lib.hid hf; clear hf
    go_enter Try.func16, Try.ntmps16
    go_wp2_with fail
    refine (part_in c a cap pb fb ps t w H.out ht).mono ?_
    rintro e w' ⟨rfl, rfl⟩
    go_wp2_with fail
    refine (find_any w (pb t) (fb t) ps[t] Hp.out page).mono ?_
    rintro e w' ⟨rfl, hb⟩
    rw [Hf.out]
    simp only [ptrTo, Option.map_none]
    go_wp2_with fail
    go_ret
    exact ⟨rfl, hb⟩
  | some i =>
    have Hf := Lib.hid hf; clear hf
    go_enter Try.func16, Try.ntmps16
    go_wp2_with fail
    refine (part_in c a cap pb fb ps t w H.out ht).mono ?_
    rintro e w' ⟨rfl, rfl⟩
    go_wp2_with fail
    refine (find_any w (pb t) (fb t) ps[t] Hp.out page).mono ?_
    rintro e w' ⟨rfl, hb⟩
    rw [Hf.out]
    simp only [ptrTo, Option.map_some]
    go_wp2_with fail
    go_ret
    exact ⟨rfl, hb⟩

/-! ### a nil cache -/
theorem hold_nil (w : World) (t page : Int) : Calls Try.prog 13 #[.pointer none, .int .i64 t, .int .i64 page] w fun e w' => e = .returned (.bool false) ∧ Below w.heap.size w w' := by
  go_enter Try.func13, Try.ntmps13
  go_wp2_with fail
  refine (part_nil t w).mono ?_
  rintro e w' ⟨rfl, rfl⟩
  go_wp2_with fail
  refine (find_nil page w).mono ?_
  rintro e w' ⟨rfl, hb⟩
  go_wp2_with fail
  go_ret
  exact ⟨rfl, hb⟩
theorem release_nil (w : World) (t page : Int) : Calls Try.prog 14 #[.pointer none, .int .i64 t, .int .i64 page] w fun e w' => e = .returned (.bool false) ∧ Below w.heap.size w w' := by
  go_enter Try.func14, Try.ntmps14
  go_wp2_with fail
  refine (part_nil t w).mono ?_
  rintro e w' ⟨rfl, rfl⟩
  go_wp2_with fail
  refine (find_nil page w).mono ?_
  rintro e w' ⟨rfl, hb⟩
  go_wp2_with fail
  go_ret
  exact ⟨rfl, hb⟩
theorem drop_nil (w : World) (t page : Int) : Calls Try.prog 15 #[.pointer none, .int .i64 t, .int .i64 page] w fun e w' => e = .returned (.bool false) ∧ Below w.heap.size w w' := by
  go_enter Try.func15, Try.ntmps15
  go_wp2_with fail
  refine (part_nil t w).mono ?_
  rintro e w' ⟨rfl, rfl⟩
  go_wp2_with fail
  refine (find_nil page w).mono ?_
  rintro e w' ⟨rfl, hb⟩
  go_wp2_with fail
  go_ret
  exact ⟨rfl, hb⟩
theorem has_nil (w : World) (t page : Int) : Calls Try.prog 16 #[.pointer none, .int .i64 t, .int .i64 page] w fun e w' => e = .returned (.bool false) ∧ Below w.heap.size w w' := by
  go_enter Try.func16, Try.ntmps16
  go_wp2_with fail
  refine (part_nil t w).mono ?_
  rintro e w' ⟨rfl, rfl⟩
  go_wp2_with fail
  refine (find_nil page w).mono ?_
  rintro e w' ⟨rfl, hb⟩
  go_wp2_with fail
  go_ret
  exact ⟨rfl, hb⟩
theorem touch_nil (w : World) (t page : Int) : Calls Try.prog 10 #[.pointer none, .int .i64 t, .int .i64 page] w fun e w' => e = .returned (.tuple #[.bool false, .int .i64 1]) ∧ Below w.heap.size w w' := by
  go_enter Try.func10, Try.ntmps10
  go_wp2_with fail
  refine (part_nil t w).mono ?_
  rintro e w' ⟨rfl, rfl⟩
  go_wp2_with fail
  go_ret2
  exact ⟨rfl, Below.refl _ _⟩
theorem counts_nil (w : World) (t : Int) : Calls Try.prog 11 #[.pointer none, .int .i64 t] w fun e w' => e = .returned (.agg #[.int .i64 0, .int .i64 0, .int .i64 0, .int .i64 0]) ∧ Below w.heap.size w w' := by
  go_enter Try.func11, Try.ntmps11
  go_wp2_with fail
  refine (part_nil t _).mono ?_
  rintro e w' ⟨rfl, rfl⟩
  go_wp2_with fail
  exact bodyPost_ret (v := .agg #[.int .i64 0, .int .i64 0, .int .i64 0, .int .i64 0]) (by simp [results, Try.results11, go_sem]) rfl ⟨rfl, (Below.refl _ _).alloc (Nat.le_refl _) _⟩

/-! ### counts -/
def fulls : List Fr → Nat
  | [] => 0
  | x :: xs => (if x.full then 1 else 0) + fulls xs
def pins : List Fr → Nat
  | [] => 0
  | x :: xs => (if 0 < x.held then 1 else 0) + pins xs
theorem fulls_le (xs : List Fr) : fulls xs ≤ xs.length := by induction xs with | nil => simp [fulls] | cons x xs ih => simp only [fulls, List.length_cons]; split <;> omega
theorem pins_le (xs : List Fr) : pins xs ≤ xs.length := by induction xs with | nil => simp [pins] | cons x xs ih => simp only [pins, List.length_cons]; split <;> omega
theorem fulls_append (xs ys : List Fr) : fulls (xs ++ ys) = fulls xs + fulls ys := by induction xs with | nil => simp [fulls] | cons x xs ih => simp only [List.cons_append, fulls, ih]; omega
theorem pins_append (xs ys : List Fr) : pins (xs ++ ys) = pins xs + pins ys := by induction xs with | nil => simp [pins] | cons x xs ih => simp only [List.cons_append, pins, ih]; omega
theorem fulls_take (xs : List Fr) (k : Nat) (h : k < xs.length) : fulls (xs.take (k + 1)) = fulls (xs.take k) + if xs[k].full then 1 else 0 := by
  rw [List.take_succ_eq_append_getElem h, fulls_append]; simp [fulls]
theorem pins_take (xs : List Fr) (k : Nat) (h : k < xs.length) : pins (xs.take (k + 1)) = pins (xs.take k) + if 0 < xs[k].held then 1 else 0 := by
  rw [List.take_succ_eq_append_getElem h, pins_append]; simp [pins]

/-- the two boxes of Counts -/
structure Cn (w wr : World) (h m f p : Int) : Prop where
  below : Below w.heap.size w wr
  size : w.heap.size + 1 < wr.heap.size
  r : ∀ o, o < 4 → wr.cell? ⟨w.heap.size, o, none⟩ = some (.int .i64 0)
  n0 : wr.cell? ⟨w.heap.size + 1, 0, none⟩ = some (.int .i64 h)
  n1 : wr.cell? ⟨w.heap.size + 1, 1, none⟩ = some (.int .i64 m)
  n2 : wr.cell? ⟨w.heap.size + 1, 2, none⟩ = some (.int .i64 f)
  n3 : wr.cell? ⟨w.heap.size + 1, 3, none⟩ = some (.int .i64 p)
  z0 : ∀ o, wr.frozen? ⟨w.heap.size, o, none⟩ = false
  z1 : ∀ o, wr.frozen? ⟨w.heap.size + 1, o, none⟩ = false
theorem Cn.alloc {w wr : World} {h m f p : Int} (k : Cn w wr h m f p) (c : Array Value) (t : TypeId) : Cn w (wr.alloc (.cells c t)) h m f p := by
  have s1 := k.size
  have hc : ∀ b o, b < wr.heap.size → (wr.alloc (.cells c t)).cell? ⟨b, o, none⟩ = wr.cell? ⟨b, o, none⟩ := fun b o hb => World.cell?_alloc_lt _ _ _ hb
  have hz : ∀ b o, b < wr.heap.size → (wr.alloc (.cells c t)).frozen? ⟨b, o, none⟩ = wr.frozen? ⟨b, o, none⟩ := fun b o hb => World.frozen?_alloc_past _ _ _ hb
  exact ⟨k.below.alloc (by omega) _, by simp; omega, fun o ho => by rw [hc _ _ (by omega)]; exact k.r o ho, by rw [hc _ _ s1]; exact k.n0, by rw [hc _ _ s1]; exact k.n1, by rw [hc _ _ s1]; exact k.n2, by rw [hc _ _ s1]; exact k.n3,
    fun o => by rw [hz _ _ (by omega)]; exact k.z0 o, fun o => by rw [hz _ _ s1]; exact k.z1 o⟩
theorem Cn.setF {w wr : World} {h m f p : Int} (k : Cn w wr h m f p) (v : Int) : Cn w (wr.setCell ⟨w.heap.size + 1, 2, none⟩ (.int .i64 v)) h m v p := by
  have s1 := k.size
  have hc : ∀ b o x, wr.cell? ⟨b, o, none⟩ = some x → (wr.setCell ⟨w.heap.size + 1, 2, none⟩ (.int .i64 v)).cell? ⟨b, o, none⟩ = some (if b = w.heap.size + 1 ∧ o = 2 then .int .i64 v else x) := fun b o x hx => by
    rw [cell_set hx]
    by_cases e : b = w.heap.size + 1 ∧ o = 2
    · rw [if_pos e, if_pos (by rw [e.1, e.2])]
    · rw [if_neg e, if_neg (by intro e2; injection e2 with e3 e4; exact e ⟨e3.symm, e4.symm⟩)]
  exact ⟨k.below.setCell (by simp) _, by simpa [World.setCell] using s1, fun o ho => by rw [hc _ _ _ (k.r o ho), if_neg (by omega)], by simpa using hc _ _ _ k.n0, by simpa using hc _ _ _ k.n1, by simpa using hc _ _ _ k.n2, by simpa using hc _ _ _ k.n3,
    fun o => by rw [World.frozen?_setCell]; exact k.z0 o, fun o => by rw [World.frozen?_setCell]; exact k.z1 o⟩
theorem Cn.setP {w wr : World} {h m f p : Int} (k : Cn w wr h m f p) (v : Int) : Cn w (wr.setCell ⟨w.heap.size + 1, 3, none⟩ (.int .i64 v)) h m f v := by
  have s1 := k.size
  have hc : ∀ b o x, wr.cell? ⟨b, o, none⟩ = some x → (wr.setCell ⟨w.heap.size + 1, 3, none⟩ (.int .i64 v)).cell? ⟨b, o, none⟩ = some (if b = w.heap.size + 1 ∧ o = 3 then .int .i64 v else x) := fun b o x hx => by
    rw [cell_set hx]
    by_cases e : b = w.heap.size + 1 ∧ o = 3
    · rw [if_pos e, if_pos (by rw [e.1, e.2])]
    · rw [if_neg e, if_neg (by intro e2; injection e2 with e3 e4; exact e ⟨e3.symm, e4.symm⟩)]
  exact ⟨k.below.setCell (by simp) _, by simpa [World.setCell] using s1, fun o ho => by rw [hc _ _ _ (k.r o ho), if_neg (by omega)], by simpa using hc _ _ _ k.n0, by simpa using hc _ _ _ k.n1, by simpa using hc _ _ _ k.n2, by simpa using hc _ _ _ k.n3,
    fun o => by rw [World.frozen?_setCell]; exact k.z0 o, fun o => by rw [World.frozen?_setCell]; exact k.z1 o⟩

theorem counts_any (w : World) (c a cap : Nat) (pb fb : Nat → Nat) (ps : List Pt) (h : CaAt w c a cap pb fb ps) (t : Nat) (ht : t < ps.length) :
    Calls Try.prog 11 #[.pointer (some ⟨c, 0, none⟩), .int .i64 t] w fun e w' => e = .returned (.agg #[.int .i64 ps[t].hits, .int .i64 ps[t].misses, .int .i64 (fulls ps[t].frames), .int .i64 (pins ps[t].frames)]) ∧ Below w.heap.size w w' := by
  have hp := h.pt t ht
  have h64 := hp.n64
  have hb1 := hp.b1
  have hb2 := hp.b2
  have hp2 := hp.below (w' := w.alloc (.cells #[.int .i64 0, .int .i64 0, .int .i64 0, .int .i64 0] 32)) ((Below.refl _ _).alloc (Nat.le_refl _) _)
  have H := Lib.hid (h.below (w' := w.alloc (.cells #[.int .i64 0, .int .i64 0, .int .i64 0, .int .i64 0] 32)) ((Below.refl _ _).alloc (Nat.le_refl _) _)); clear h
  have c0 := hp.c0
  have c2 := hp.c2
  have c3 := hp.c3
  have c4 := hp.c4
  have c5 := hp.c5
  have Hp := Lib.hid hp; clear hp
  have Hp2 := Lib.hid hp2; clear hp2
  generalize hN : ps[t].frames.length = N at c0 h64
  have HN := Lib.hid hN; clear hN
  go_enter Try.func11, Try.ntmps11
  go_wp2_with fail
  refine (part_in c a cap pb fb ps t _ H.out ht).mono ?_
  rintro e w' ⟨rfl, rfl⟩
  go_wp2_with fail
  go_loopg [24] N (fun k i wr => ∃ j : Nat, j ≤ N ∧ k = N - j ∧ i = .int .i64 j ∧ Cn w wr ps[t].hits ps[t].misses (fulls (ps[t].frames.take j)) (pins (ps[t].frames.take j)))
  case atStart =>
    refine ⟨0, by omega, by omega, rfl, ?_⟩
    refine ⟨((Below.refl _ _).alloc (Nat.le_refl _) _).alloc (by simp) _, by simp, fun o ho => ?_, by simp [go_sem], by simp [go_sem], by simp [go_sem, fulls], by simp [go_sem, pins], fun o => by simp [go_sem], fun o => by simp [go_sem]⟩
    match o, ho with
    | 0, _ => simp [go_sem]
    | 1, _ => simp [go_sem]
    | 2, _ => simp [go_sem]
    | 3, _ => simp [go_sem]
  case round =>
    obtain ⟨j, hj, hgk, rfl, hcn⟩ := hrel
    clear c0 c2 c3 c4 c5
    by_cases hlt : j < N
    · have hl : j < ps[t].frames.length := by rw [HN.out]; exact hlt
      have fr := Hp.out.fr.four j hl
      obtain ⟨f0, f1, f2, f3⟩ := fr
      have e0 := (hcn.below.cell (p := ⟨fb t, j * 4, none⟩) hb2).trans f0
      have e1 := (hcn.below.cell (p := ⟨fb t, j * 4 + 1, none⟩) hb2).trans f1
      have e2 := (hcn.below.cell (p := ⟨fb t, j * 4 + 2, none⟩) hb2).trans f2
      have e3 := (hcn.below.cell (p := ⟨fb t, j * 4 + 3, none⟩) hb2).trans f3
      clear f0 f1 f2 f3
      have g2 := hcn.n2
      have g3 := hcn.n3
      have g4 := hcn.z1 2
      have g5 := hcn.z1 3
      have g6 := hcn.size
      have tf := fulls_take ps[t].frames j hl
      have tp := pins_take ps[t].frames j hl
      have lf := fulls_le (ps[t].frames.take j)
      have lp := pins_le (ps[t].frames.take j)
      have ll : (ps[t].frames.take j).length ≤ j := List.length_take_le _ _
      have lf' : fulls (ps[t].frames.take j) ≤ 64 := by omega
      have lp' : pins (ps[t].frames.take j) ≤ 64 := by omega
      clear lf lp ll
      have Tf := Lib.hid tf; clear tf
      have Tp := Lib.hid tp; clear tp
      have Hcn := Lib.hid hcn; clear hcn
      have Hgk := Lib.hid hgk; clear hgk
      generalize hF : fulls (ps[t].frames.take j) = F at g2 lf'
      generalize hP : pins (ps[t].frames.take j) = Q at g3 lp'
      have HF := Lib.hid hF; clear hF
      have HP := Lib.hid hP; clear hP
      cases hful : ps[t].frames[j].full with
      | false =>
        have Hful := Lib.hid hful
        rw [hful] at e1; clear hful
        by_cases hh : 0 < ps[t].frames[j].held
        · have hc1 := Hcn.out
          rw [HF.out, HP.out] at hc1
          have h0 := ((hc1.setP ((Q : Int) + 1)).alloc #[.int .i64 ps[t].frames[j].page, .bool false, .bool ps[t].frames[j].touched, .int .i64 ps[t].frames[j].held] 69)
          have H0 := Lib.hid h0; clear h0 hc1
          go_wp2_with fail
          go_roundg (N - (j + 1))
          case measure => have := Hgk.out; omega
          case rel =>
            refine ⟨j + 1, by omega, rfl, by go_num, ?_⟩
            rw [Tf.out, Tp.out, Hful.out, HF.out, HP.out, if_pos hh]
            simpa using H0.out
        · have hc1 := Hcn.out
          rw [HF.out, HP.out] at hc1
          have h0 := ((hc1).alloc #[.int .i64 ps[t].frames[j].page, .bool false, .bool ps[t].frames[j].touched, .int .i64 ps[t].frames[j].held] 69)
          have H0 := Lib.hid h0; clear h0 hc1
          go_wp2_with fail
          go_roundg (N - (j + 1))
          case measure => have := Hgk.out; omega
          case rel =>
            refine ⟨j + 1, by omega, rfl, by go_num, ?_⟩
            rw [Tf.out, Tp.out, Hful.out, HF.out, HP.out, if_neg (show ¬ 0 < ps[t].frames[j].held by omega)]
            simpa using H0.out
      | true =>
        have Hful := Lib.hid hful
        rw [hful] at e1; clear hful
        by_cases hh : 0 < ps[t].frames[j].held
        · have hc1 := Hcn.out
          rw [HF.out, HP.out] at hc1
          have h0 := (((hc1.setF ((F : Int) + 1)).setP ((Q : Int) + 1)).alloc #[.int .i64 ps[t].frames[j].page, .bool true, .bool ps[t].frames[j].touched, .int .i64 ps[t].frames[j].held] 69)
          have H0 := Lib.hid h0; clear h0 hc1
          go_wp2_with fail
          go_roundg (N - (j + 1))
          case measure => have := Hgk.out; omega
          case rel =>
            refine ⟨j + 1, by omega, rfl, by go_num, ?_⟩
            rw [Tf.out, Tp.out, Hful.out, HF.out, HP.out, if_pos hh]
            simpa using H0.out
        · have hc1 := Hcn.out
          rw [HF.out, HP.out] at hc1
          have h0 := ((hc1.setF ((F : Int) + 1)).alloc #[.int .i64 ps[t].frames[j].page, .bool true, .bool ps[t].frames[j].touched, .int .i64 ps[t].frames[j].held] 69)
          have H0 := Lib.hid h0; clear h0 hc1
          go_wp2_with fail
          go_roundg (N - (j + 1))
          case measure => have := Hgk.out; omega
          case rel =>
            refine ⟨j + 1, by omega, rfl, by go_num, ?_⟩
            rw [Tf.out, Tp.out, Hful.out, HF.out, HP.out, if_neg (show ¬ 0 < ps[t].frames[j].held by omega)]
            simpa using H0.out
    · have hjn : j = N := by omega
      have ht : ps[t].frames.take j = ps[t].frames := List.take_of_length_le (by have := HN.out; omega)
      have Ht := Lib.hid ht; clear ht hjn
      rw [Ht.out] at hcn
      have g0 := hcn.n0
      have g1 := hcn.n1
      have g2 := hcn.n2
      have g3 := hcn.n3
      have r0 := hcn.r 0 (by omega)
      have r1 := hcn.r 1 (by omega)
      have r2 := hcn.r 2 (by omega)
      have r3 := hcn.r 3 (by omega)
      have z0 := hcn.z0 0
      have z1 := hcn.z0 1
      have z2 := hcn.z0 2
      have z3 := hcn.z0 3
      have hbl := hcn.below
      clear hcn hgk
      go_wp2_with fail
      exact bodyPost_ret (v := .agg #[.int .i64 ps[t].hits, .int .i64 ps[t].misses, .int .i64 (fulls ps[t].frames), .int .i64 (pins ps[t].frames)]) (by simp [results, Try.results11, go_sem, r0, r1, r2, r3]) rfl ⟨rfl, (((hbl.setCell (by simp) _).setCell (by simp) _).setCell (by simp) _).setCell (by simp) _⟩
end Go.Proofs.Ytdblpcfkiiliiaa
