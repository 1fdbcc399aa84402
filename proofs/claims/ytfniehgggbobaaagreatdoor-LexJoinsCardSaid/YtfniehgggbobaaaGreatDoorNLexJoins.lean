/- The walk of LexJoins. -/
import Derived.Test.YtfniehgggbobaaaGreatDoorGL
set_option linter.unusedVariables false
set_option linter.unusedSimpArgs false
namespace Go.Proofs.YtfniehgggbobaaaGreatDoor
open Go.RowKit

theorem join_list (a b : ByteArray) : (a ++ (⟨#[32]⟩ : ByteArray) ++ b).data.toList = a.data.toList ++ 32 :: b.data.toList := by
  rw [ByteArray.data_append, Array.toList_append, ByteArray.data_append, Array.toList_append, List.append_assoc]; rfl
theorem join_size (a b : ByteArray) : (a ++ (⟨#[32]⟩ : ByteArray) ++ b).size = a.size + 1 + b.size := by
  rw [ByteArray.size_append, ByteArray.size_append]; rfl
theorem lexE_zero {r : Option (List Tk) × Nat} (h : r.1 = none) : lexE r = 160 := if_pos h
theorem lexE_some {r : Option (List Tk) × Nat} (h : ¬ r.1 = none) : lexE r = 0 := if_neg h
/-- the list of the first i tokens moved on by d -/
def halfway (d i : Nat) (y : List Tk) (wx : World) (B : Nat) : Prop := ∀ k t, y[k]? = some t → RAt wx B k (if k < i then t.put (t.pos + d) else t)
theorem halfway_step {d i : Nat} {y : List Tk} {wx : World} {B : Nat} {t : Tk} (h : halfway d i y wx B) (ht : y[i]? = some t) : halfway d (i + 1) y (wx.setCell ⟨B, i * 8 + 1, none⟩ (.int .i64 ((t.pos + d : Nat) : Int))) B := by
  intro k t' hk
  by_cases e : k = i
  · subst e
    rw [ht] at hk
    cases hk
    have := h k t ht
    rw [if_neg (Nat.lt_irrefl _)] at this
    rw [if_pos (Nat.lt_succ_self _)]
    exact this.turn _
  · have := (h k t' hk).other (i := i) (.int .i64 ((t.pos + d : Nat) : Int)) (fun h => e h.symm)
    by_cases hki : k < i
    · rw [if_pos hki] at this; rw [if_pos (by omega)]; exact this
    · rw [if_neg hki] at this; rw [if_neg (by omega)]; exact this
theorem halfway_end {d : Nat} {y : List Tk} {wx : World} {B : Nat} (h : halfway d y.length y wx B) : ∀ k t, (shiftL d y)[k]? = some t → RAt wx B k t := by
  intro k t hk
  unfold shiftL at hk
  rw [List.getElem?_map] at hk
  cases hy : y[k]? with
  | none => rw [hy] at hk; cases hk
  | some t' =>
    rw [hy] at hk
    cases hk
    have := h k t' hy
    rwa [if_pos (List.getElem?_eq_some_iff.1 hy).1] at this
set_option maxHeartbeats 8000000 in
set_option maxRecDepth 100000 in
theorem lexJoins_walk (w : World) (hl : Laid w) (hs : Spc w) (a b : ByteArray) :
    Calls Tryz.prog 6 #[.string a, .string b] w fun e w' => e = .returned (.bool true) ∧ Below w.heap.size w w' := by
  have Hl := Lib.hid hl; have Hs := Lib.hid hs
  have Hf := Lib.hid (first16_any w hl hs)
  clear hl hs
  by_cases hn : 900 < max (a.size : Int) (b.size : Int)
  · go_enter Tryz.func6, Tryz.ntmps6
    go_wp2_with fail
    refine Hf.out.mono ?_
    rintro e w1 ⟨rfl, hb1⟩
    have Hb1 := Lib.hid hb1
    clear hb1
    go_wp2_with fail
    go_ret
    exact ⟨rfl, Hb1.out⟩
  · have han : a.size ≤ 900 := by omega
    have hbn : b.size ≤ 900 := by omega
    have Han := Lib.hid han; have Hbn := Lib.hid hbn
    have hal : a.data.toList.length = a.size := (Lib.size_eq a).symm
    have hbl : b.data.toList.length = b.size := (Lib.size_eq b).symm
    obtain ⟨S, hS⟩ : ∃ S, a ++ (⟨#[32]⟩ : ByteArray) ++ b = S := ⟨_, rfl⟩
    have hSl : S.data.toList = a.data.toList ++ 32 :: b.data.toList := by rw [← hS, join_list]
    have hSs : S.size ≤ 100000 := by rw [← hS, join_size]; omega
    have A1 : Hid (∀ W : World, Laid W → Spc W → Calls Tryz.prog 14 #[.string a] W fun e w' => LexAns W w' (lexL a.data.toList) e) := Lib.hid fun W h1 h2 => lex_any W h1 h2 a (by omega)
    have B1 : Hid (∀ W : World, Laid W → Spc W → Calls Tryz.prog 14 #[.string b] W fun e w' => LexAns W w' (lexL b.data.toList) e) := Lib.hid fun W h1 h2 => lex_any W h1 h2 b (by omega)
    have C1 : Hid (∀ W : World, Laid W → Spc W → Calls Tryz.prog 14 #[.string S] W fun e w' => LexAns W w' (lexL (a.data.toList ++ 32 :: b.data.toList)) e) := Lib.hid fun W h1 h2 => by
      have := lex_any W h1 h2 S hSs
      rwa [hSl] at this
    have hj : ∀ x y, lexL a.data.toList = (some x, 0) → lexL b.data.toList = (some y, 0) → lexL (a.data.toList ++ 32 :: b.data.toList) = (some (x ++ shiftL (a.size + 1) y), 0) ∧ x.length ≤ a.size ∧ y.length ≤ b.size ∧ ∀ t ∈ y, t.pos ≤ b.size := fun x y h1 h2 => by
      have := lexL_join h1 h2 (by omega)
      rw [hal] at this
      exact ⟨this, by rw [← hal]; exact (lexL_length h1).1, by rw [← hbl]; exact (lexL_length h2).1, fun t ht => by have := ((lexL_stand h2).1 t ht).high; rw [← hbl]; omega⟩
    have hz1 : ∀ x p, lexL a.data.toList = (some x, p) → p = 0 := fun x p h => (lexL_length h).2.2
    have hz2 : ∀ x p, lexL b.data.toList = (some x, p) → p = 0 := fun x p h => (lexL_length h).2.2
    have Hj := Lib.hid hj; have Hz1 := Lib.hid hz1; have Hz2 := Lib.hid hz2
    have hai : (a.size : Int) ≤ 900 := by omega
    clear hj hz1 hz2 hal hbl hSl hSs han hbn
    generalize lexL a.data.toList = ra at *
    generalize lexL b.data.toList = rb at *
    generalize lexL (a.data.toList ++ 32 :: b.data.toList) = rc at *
    go_enter Tryz.func6, Tryz.ntmps6
    go_wp2_with fail
    refine Hf.out.mono ?_
    rintro e w1 ⟨rfl, hb1⟩
    have Hb1 := Lib.hid hb1
    clear hb1
    go_wp2_with fail
    refine (A1.out _ (Hl.out.below Hb1.out) (Hs.out.below Hb1.out)).mono ?_
    rintro e w2 ⟨v2, rfl, hx⟩
    have hb2 := Hb1.out.trans (hx.below.mono Hb1.out.size)
    have Hb2 := Lib.hid hb2; have Hx := Lib.hid hx
    clear hx hb2
    go_wp2_with fail
    refine (B1.out _ (Hl.out.below Hb2.out) (Hs.out.below Hb2.out)).mono ?_
    rintro e w3 ⟨v3, rfl, hy⟩
    have hb3 := Hb2.out.trans (hy.below.mono Hb2.out.size)
    have Hb3 := Lib.hid hb3; have Hy := Lib.hid hy
    clear hy hb3
    go_wp2_with fail
    refine (C1.out _ (Hl.out.below Hb3.out) (Hs.out.below Hb3.out)).mono ?_
    rintro e w4 ⟨v4, rfl, hz⟩
    have hb4 := Hb3.out.trans (hz.below.mono Hb3.out.size)
    have Hb4 := Lib.hid hb4; have Hz := Lib.hid hz
    have hb24 : Below w2.heap.size w2 w4 := Hy.out.below.trans (Hz.out.below.mono Hy.out.below.size)
    have Hx4 := Lib.hid (Hx.out.later hb24)
    have Hy4 := Lib.hid (Hy.out.later Hz.out.below)
    have Hsz : Hid (w1.heap.size ≤ w2.heap.size ∧ w2.heap.size ≤ w3.heap.size ∧ w3.heap.size ≤ w4.heap.size ∧ w.heap.size ≤ w1.heap.size) := Lib.hid ⟨Hx.out.below.size, Hy.out.below.size, Hz.out.below.size, Hb1.out.size⟩
    clear hz hb4 hb24
    obtain ⟨xo, pa⟩ := ra
    obtain ⟨yo, pb⟩ := rb
    cases xo with
    | none =>
      rw [lexE_zero (r := (none, pa)) rfl]
      generalize lexE rc = ec at *
      generalize lexE (yo, pb) = eb at *
      go_wp2_with fail
      go_ret
      exact ⟨rfl, Hb4.out⟩
    | some x =>
    rw [lexE_some (r := (some x, pa)) (fun h => by cases h)]
    cases yo with
    | none =>
      rw [lexE_zero (r := (none, pb)) rfl]
      generalize lexE rc = ec at *
      go_wp2_with fail
      go_ret
      exact ⟨rfl, Hb4.out⟩
    | some y =>
    rw [lexE_some (r := (some y, pb)) (fun h => by cases h)]
    obtain rfl := Hz1.out x pa rfl
    obtain rfl := Hz2.out y pb rfl
    obtain ⟨hrc, hxl, hyl, hyp⟩ := Hj.out x y rfl rfl
    have Hyp := Lib.hid hyp
    clear hyp
    subst hrc
    rw [lexE_some (r := (some (x ++ shiftL (a.size + 1) y), 0)) (fun h => by cases h)]
    have Hxl := Lib.hid hxl; have Hyl := Lib.hid hyl
    have hx4 : TBuf w1 w4 v2 x := Hx4.out
    have HX2 : Hid (TBuf w1 w2 v2 x) := Hx
    have HY3 : Hid (TBuf w2 w3 v3 y) := Hy
    have hy4 : TBuf w2 w4 v3 y := Hy4.out
    have hz4 : TBuf w3 w4 v4 (x ++ shiftL (a.size + 1) y) := Hz.out
    have hzl : (x ++ shiftL (a.size + 1) y).length = x.length + y.length := by rw [List.length_append]; unfold shiftL; rw [List.length_map]
    have hsl : (shiftL (a.size + 1) y).length = y.length := by unfold shiftL; rw [List.length_map]
    have HX := Lib.hid hx4; have HY := Lib.hid hy4; have HZ := Lib.hid hz4
    obtain ⟨ax, cx, ex⟩ := hx4.row.form
    obtain ⟨az, cz, ez⟩ := hz4.row.form
    rw [hzl] at ez
    have Hex := Lib.hid ex; have Hez := Lib.hid ez
    have hxi : (x.length : Int) ≤ 900 := by have := Han.out; omega
    have hyi : (y.length : Int) ≤ 900 := by have := Hbn.out; omega
    have Hzl := Lib.hid hzl; have Hsl := Lib.hid hsl
    -- the row of y
    have hyr := hy4.rats
    rcases hyr with ⟨ey, hy0⟩ | ⟨B, cy, ey, hcy, hB1, hB2, hob, hr⟩
    · subst hy0
      rw [ex, ez, ey]
      have HT : Hid (TSl w4 (.slice none 0 0) (shiftL (a.size + 1) [])) := Lib.hid (.inl ⟨rfl, rfl⟩)
      have hlen : x.length + (shiftL (a.size + 1) ([] : List Tk)).length ≤ 100000 := by rw [Hsl.out]; have := Hxl.out; have := Han.out; simp only [List.length_nil]; omega
      have Hlen := Lib.hid hlen
      have hbs : w1.heap.size ≤ w4.heap.size := by have := Hsz.out; omega
      have Hbs := Lib.hid hbs
      have HZr : Hid (∀ w5 : World, w4.grownBy w5 v2.ownBlock → TRow w5 v4 (x ++ shiftL (a.size + 1) [])) := Lib.hid (by
        rcases HZ.out.rats with ⟨h1, h2⟩ | ⟨bz, c, h1, h2, h3, h4, h5, h6⟩
        · exact fun _ _ => .inl ⟨h1, h2⟩
        · rw [h1]
          refine fun w5 hg5 => TRow.of h2 fun k t hk => (h6 k t hk).grown hg5 fun e => ?_
          have := (HX2.out.own.lt bz e.symm).2
          have := Hsz.out
          omega)
      have HB5 : Hid (∀ w5 : World, w4.grownBy w5 v2.ownBlock → Below w.heap.size w w5) := Lib.hid fun w5 hg5 => Hb4.out.grown hg5 Hb4.out.size (fun k hk => by have := (HX2.out.own.lt k hk).1; have := Hsz.out; omega)
      clear hx4 hy4 hz4 hzl hsl ex ez ey hxl hyl Hx Hy Hz Hx4 Hy4 hlen hbs
      go_wp2_with fail
      go_loopg [64] 0 (fun g i wx => i = .int .i64 0 ∧ wx = w4)
      case atStart => exact ⟨rfl, rfl⟩
      case round =>
        obtain ⟨rfl, rfl⟩ := hrel
        go_wp2_with (at_builtin; refine wpList_tbuf2 rfl (.tmp 80) (.tmp 81) rfl w1 _ _ x (shiftL (a.size + 1) []) Hbs.out (by rw [← Hex.out]; exact HX.out.own) Hlen.out HT.out rfl rfl ?_; intro v5 w5 h5 hg5; rw [← Hex.out] at hg5; have H5 := Lib.hid h5; have Hg5 := Lib.hid hg5; clear h5 hg5)
        rw [show (Value.slice az x.length cz) = v4 from Hez.out.symm]
        refine (same_any _ v4 v5 (x ++ shiftL (a.size + 1) []) (HZr.out _ Hg5.out) H5.out (by rw [Hzl.out]; have := Hlen.out; rw [Hsl.out] at this; exact this)).mono ?_
        rintro e w6 ⟨rfl, hb6⟩
        have Hb6 := Lib.hid ((HB5.out _ Hg5.out).trans (hb6.mono (HB5.out _ Hg5.out).size))
        clear hb6
        go_wp2_with fail
        go_ret
        exact ⟨rfl, Hb6.out⟩
    · have Hbd : Hid (w2.heap.size ≤ B ∧ B < w3.heap.size) := Lib.hid ⟨hB1, (HY3.out.own.lt B hob).2⟩
      have Hth : Hid (∀ o, w4.frozen? ⟨B, o, none⟩ = false) := Lib.hid fun o => hy4.thaw hob o
      have Hr : Hid (halfway (a.size + 1) 0 y w4 B) := Lib.hid fun k t hk => by rw [if_neg (by omega)]; exact hr k t hk
      rw [ex, ez, ey]
      have Hey := Lib.hid ey; have Hcy := Lib.hid hcy
      clear hx4 hy4 hz4 hzl hsl ex ez ey hxl hyl Hx Hy Hz Hx4 Hy4 hob hr hcy
      go_wp2_with fail
      go_loopg [64] y.length (fun g i wx => ∃ (j : Nat) (I : Int), i = .int .i64 I ∧ Hid (I = (j : Int) ∧ j + g = y.length) ∧ Hid (w4.grownBy wx (some B) ∧ halfway (a.size + 1) j y wx B ∧ ∀ o, wx.frozen? ⟨B, o, none⟩ = false))
      case atStart => exact ⟨0, 0, rfl, Lib.hid ⟨rfl, by omega⟩, Lib.hid ⟨grown_refl _ _, Hr.out, Hth.out⟩⟩
      case round =>
        obtain ⟨j, I, rfl, HI, HG⟩ := hrel
        have hI0 : 0 ≤ I := by have := HI.out; omega
        by_cases hm : gk = 0
        · have hI1 : ¬ I < (y.length : Int) := by have := HI.out; omega
          have hj : j = y.length := by have := HI.out; omega
          subst hj
          have hend := halfway_end HG.out.2.1
          have hgr := HG.out.1
          have hsz4 : w4.heap.size ≤ wr.heap.size := hgr.size
          have hxne : v2.ownBlock = none ∨ v2.ownBlock ≠ some B := by
            cases hk : v2.ownBlock with
            | none => exact .inl rfl
            | some k => exact .inr fun e => by cases e; have := (HX2.out.own.lt B hk).2; have := Hbd.out.1; omega
          have HO := Lib.hid (HX.out.own.kept hgr hxne)
          have HT : Hid (TSl wr (.slice (some ⟨B, 0, none⟩) y.length cy) (shiftL (a.size + 1) y)) := Lib.hid (by
            have := TSl.of (w := wr) (b := B) (c := cy) (l := shiftL (a.size + 1) y) (by rw [Hsl.out]; exact Hcy.out) hend
            rwa [Hsl.out] at this)
          have hlen : x.length + (shiftL (a.size + 1) y).length ≤ 100000 := by rw [Hsl.out]; have := Hxl.out; have := Hyl.out; have := Han.out; have := Hbn.out; omega
          have Hlen := Lib.hid hlen
          have hbs : w1.heap.size ≤ wr.heap.size := by have := Hsz.out; omega
          have Hbs := Lib.hid hbs
          have HZr : Hid (TRow wr v4 (x ++ shiftL (a.size + 1) y) ∧ ∀ w5 : World, wr.grownBy w5 v2.ownBlock → TRow w5 v4 (x ++ shiftL (a.size + 1) y)) := Lib.hid (by
            rcases HZ.out.rats with ⟨h1, h2⟩ | ⟨bz, c, h1, h2, h3, h4, h5, h6⟩
            · exact ⟨.inl ⟨h1, h2⟩, fun _ _ => .inl ⟨h1, h2⟩⟩
            · have hb : some bz ≠ some B := fun e => by cases e; have := Hbd.out.2; omega
              have h7 : ∀ k t, (x ++ shiftL (a.size + 1) y)[k]? = some t → RAt wr bz k t := fun k t hk => (h6 k t hk).grown hgr hb
              rw [h1]
              refine ⟨TRow.of h2 h7, fun w5 hg5 => TRow.of h2 fun k t hk => (h7 k t hk).grown hg5 fun e => ?_⟩
              have := (HX2.out.own.lt bz e.symm).2
              have := Hsz.out
              omega)
          have HB5 : Hid (∀ w5 : World, wr.grownBy w5 v2.ownBlock → Below w.heap.size w w5) := Lib.hid fun w5 hg5 => by
            have hbr : Below w.heap.size w wr := Hb4.out.grown hgr Hb4.out.size (fun k hk => by cases hk; have := Hbd.out.1; have := Hsz.out; omega)
            exact hbr.grown hg5 hbr.size (fun k hk => by have := (HX2.out.own.lt k hk).1; have := Hsz.out; omega)
          clear hend hgr hsz4 hxne hlen hbs hm
          go_wp2_with (at_builtin; refine wpList_tbuf2 rfl (.tmp 80) (.tmp 81) rfl w1 _ _ x (shiftL (a.size + 1) y) Hbs.out (by rw [← Hex.out]; exact HO.out) Hlen.out HT.out rfl rfl ?_; intro v5 w5 h5 hg5; rw [← Hex.out] at hg5; have H5 := Lib.hid h5; have Hg5 := Lib.hid hg5; clear h5 hg5)
          rw [← Hez.out]
          refine (same_any _ v4 v5 (x ++ shiftL (a.size + 1) y) (HZr.out.2 _ Hg5.out) H5.out (by rw [Hzl.out]; have := Hlen.out; rw [Hsl.out] at this; exact this)).mono ?_
          rintro e w6 ⟨rfl, hb6⟩
          have Hb6 := Lib.hid ((HB5.out _ Hg5.out).trans (hb6.mono (HB5.out _ Hg5.out).size))
          clear hb6
          go_wp2_with fail
          go_ret
          exact ⟨rfl, Hb6.out⟩
        · have hI1 : I < (y.length : Int) := by have := HI.out; omega
          have hIj : I.toNat = j := by have := HI.out; omega
          have hjl : j < y.length := by have := HI.out; omega
          have ht := List.getElem?_eq_getElem hjl
          obtain ⟨t, htt⟩ : ∃ t, y[j] = t := ⟨_, rfl⟩
          rw [htt] at ht
          have h1 := (HG.out.2.1 j t ht).c1
          rw [if_neg (Nat.lt_irrefl _)] at h1
          have z1 := HG.out.2.2 (j * 8 + 1)
          have hS := halfway_step HG.out.2.1 ht
          have hpos : t.pos ≤ 900 := by have := Hyp.out t (List.mem_of_getElem? ht); have := Hbn.out; omega
          have hpi : (t.pos : Int) ≤ 900 := by omega
          rw [show ((t.pos + (a.size + 1) : Nat) : Int) = (t.pos : Int) + ((a.size : Int) + 1) from by omega] at hS
          have HS := Lib.hid hS
          have HG2 := Lib.hid (grown_set HG.out.1 (j * 8 + 1) (.int .i64 ((t.pos : Int) + ((a.size : Int) + 1))))
          have Hm := Lib.hid hm
          have hp0 : 0 ≤ (t.pos : Int) := by omega
          have ha0 : 0 ≤ (a.size : Int) := by omega
          clear ht htt hm hjl hS hpos
          go_wp2_with fail
          go_roundg (gk - 1)
          case measure => have := Hm.out; omega
          case rel => exact ⟨j + 1, I + 1, rfl, Lib.hid (by have := HI.out; have := Hm.out; omega), Lib.hid ⟨HG2.out, HS.out, fun o => by rw [World.frozen?_setCell]; exact HG.out.2.2 o⟩⟩
end Go.Proofs.YtfniehgggbobaaaGreatDoor
