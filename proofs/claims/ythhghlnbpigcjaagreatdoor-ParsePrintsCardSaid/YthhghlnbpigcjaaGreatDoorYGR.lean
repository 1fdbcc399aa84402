/- Joined texts: Lq9. -/
import Derived.Test.YthhghlnbpigcjaaGreatDoorYGP
import Derived.Test.YthhghlnbpigcjaaGreatDoorYGQ
set_option linter.unusedVariables false
set_option linter.unusedSimpArgs false
namespace Go.Proofs.YthhghlnbpigcjaaGreatDoor
open Go.RowKit

set_option maxHeartbeats 32000000 in
set_option maxRecDepth 100000 in
theorem lexR_any (w : World) (hl : Laid w) (s : ByteArray) (hn : s.size ≤ 100000) :
    Calls Tryz.prog 25 #[.string s] w fun e w' => RefAns w w' (lexL s.data.toList) e := by
  have Hl := Lib.hid hl; have Hn := Lib.hid hn
  have hlen : s.data.toList.length = s.size := (Lib.size_eq s).symm
  have hni : (s.size : Int) ≤ 100000 := by omega
  by_cases h2 : 2000 < s.size
  · have hr : lexL s.data.toList = (none, 2000) := by unfold lexL; rw [hlen, if_pos h2]
    have Hr := Lib.hid hr
    have h2i : 2000 < (s.size : Int) := by omega
    generalize lexL s.data.toList = r at *
    clear hr hlen hl hn h2
    go_enter Tryz.func25, Tryz.ntmps25
    go_wp2_with fail
    exact bodyPost_ret (v := .tuple #[.slice none 0 0, .int .i64 2000, .bool false]) (by simp [results, Tryz.results25, go_sem]) rfl (refAns_none Hr.out rfl (Below.refl _ _))
  · have hr : lexAt s.data.toList [] 0 = lexL s.data.toList := lexAt_zero _ (by rw [hlen]; omega)
    have Hr := Lib.hid hr
    have h2i : ¬ 2000 < (s.size : Int) := by omega
    have H2 := Lib.hid h2
    have Hlen := Lib.hid hlen
    generalize lexL s.data.toList = r at *
    clear hr hlen hl hn h2
    go_enter Tryz.func25, Tryz.ntmps25
    go_wp2_with fail
    go_loopg [5, 6] s.size (fun g v i wr => ∃ (p : Nat) (I : Int) (o : List Tk), Hid (AtR s r g p I o) ∧ i = .int .i64 I ∧ TBuf w wr v o)
    case atStart => exact ⟨0, 0, [], Lib.hid ⟨by omega, rfl, Hr.out, Nat.le_refl _⟩, rfl, TBuf.start w⟩
    case round =>
      obtain ⟨p, I, o, HI, rfl, hb⟩ := hrel
      have Hb := Lib.hid hb; clear hb
      have hI0 : 0 ≤ I := by have := HI.out.int; omega
      by_cases hm : gk = 0
      · have hI1 : ¬ I < (s.size : Int) := by have := HI.out.sum; have := HI.out.int; omega
        subst hm
        have He := Lib.hid HI.out.fin
        go_wp2_with fail
        exact bodyPost_ret (v := .tuple #[_, .int .i64 0, .bool true]) (by simp [results, Tryz.results25, go_sem]) rfl (refAns_some He.out Hb.out)
      · have hI1 : I < (s.size : Int) := by have := HI.out.sum; have := HI.out.int; omega
        have hIj : I.toNat = p := by have := HI.out.int; omega
        have hps : p < s.size := by have := HI.out.sum; omega
        obtain ⟨c, hc⟩ : ∃ c, s[p] = c := ⟨_, rfl⟩
        have hlc := byte_at s p hps
        rw [hc] at hlc
        have Hm : Hid (0 < gk) := Lib.hid (by omega)
        have hd := drop_at hlc
        have Hd := Lib.hid hd.1; have Hlc := Lib.hid hlc
        have hat0 := TAt.new wr (Tk.zero.put p) 75
        have hbw0 : Below wr.heap.size wr (wr.alloc (.cells (Tk.cells (Tk.zero.put p)) 75)) := (Below.refl _ _).alloc (Nat.le_refl _) _
        simp only [Tk.cells, Tk.put, Tk.zero, zeroVal] at hat0 hbw0
        rw [← HI.out.int] at hat0 hbw0
        have Hat0 := Lib.hid hat0; have Hbw0 := Lib.hid hbw0
        -- the byte behind
        have hnx : (I + 1 < (s.size : Int) ∧ (I + 1).toNat = p + 1 ∧ ∃ h : p + 1 < s.size, ∃ d : UInt8, s[p + 1] = d ∧ (s.data.toList.drop (p + 1)).head? = some d) ∨ (¬ I + 1 < (s.size : Int) ∧ (s.data.toList.drop (p + 1)).head? = none) := by
          have hi := HI.out.int
          by_cases h : p + 1 < s.size
          · refine .inl ⟨by omega, by omega, h, _, rfl, ?_⟩
            have := byte_at s (p + 1) h
            rw [List.head?_drop, this]
          · refine .inr ⟨by omega, ?_⟩
            rw [List.head?_drop, List.getElem?_eq_none (by rw [Hlen.out]; omega)]
        have htok := tokL_cons c (s.data.toList.drop (p + 1))
        rw [← Hd.out] at htok
        clear hlc hd hat0 hbw0 hm
        have hol : o.length + 1 ≤ 100000 := by have := HI.out.len; have := Hn.out; omega
        have Hol := Lib.hid hol
        have hni3 : I + 1 ≤ 100000 := by omega
        clear hol
        go_upto_if 30 with fail
        go_cut [9] from 17 to 188 (fun nx wx => ∃ N : Int, nx = .int .u8 N ∧ Hid (N = 61 ↔ (s.data.toList.drop (p + 1)).head? = some 61) ∧ wr = wx)
        case first =>
          rcases hnx with ⟨g1, g2, g3, d, g4, g5⟩ | ⟨g1, g2⟩
          · have H5 := Lib.hid g5
            clear g5 htok
            go_wp2_with fail
            go_meet
            exact ⟨_, rfl, Lib.hid (by
              rw [H5.out]
              have e : (d.toNat : Int) = 61 ↔ d = 61 := ⟨fun e => UInt8.toNat_inj.1 (by have h9 : UInt8.toNat 61 = 61 := rfl; omega), fun e => by rw [e]; rfl⟩
              rw [e, Option.some.injEq]), rfl⟩
          · have H5 := Lib.hid g2
            clear g2 htok
            go_wp2_with fail
            go_meet
            exact ⟨0, rfl, Lib.hid (by rw [H5.out]; simp), rfl⟩
        case rest =>
        clear hnx
        obtain ⟨N, rfl, HN, rfl⟩ := hcut
        by_cases h32 : c = 32
        · have hcn : (c.toNat : Int) = 32 := by rw [h32]; rfl
          have hst := HI.out.blank (by rw [Hlc.out, h32]) Hm.out
          have Hst := Lib.hid hst
          clear hst h32 htok
          go_wp2_with fail
          go_roundg (s.size - (p + 1))
          case measure => exact Hst.out.2
          case rel => exact ⟨p + 1, I + 1, o, Lib.hid Hst.out.1, rfl, Hb.out.later Hbw0.out⟩
        have hq32 : ((c.toNat : Int) == 32) = false := byte_not h32
        have H32 := Lib.hid h32
        go_upto_block 2 with fail
        generalize (wr.alloc _) = W2 at Hat0 Hbw0 ⊢
        have HLaid : Hid (∀ W, Below wr.heap.size wr W → Laid W) := Lib.hid fun W h => Hl.out.below (below_own Hb.out h)
        go_cut [6] from 17 to 188 (fun i wx => ∃ (tk : Tk) (n : Nat) (J : Int), i = .int .i64 J ∧ Hid (tokL (s.data.toList.drop p) = some (tk, n) ∧ J = I + (n : Int)) ∧ TAt wx wr.heap.size (tk.put p) ∧ Below wr.heap.size wr wx)
        case rest =>
          obtain ⟨⟨tk, tp, tx, op, ⟨vk, vn, vs, vf⟩⟩, n, J, rfl, HJ, hat1, hbw1⟩ := hcut
          have Hst := Lib.hid (HI.out.next Hlc.out H32.out HJ.out.1)
          have Hbw1 := Lib.hid hbw1
          obtain ⟨c0, c1, c2, c3, c4, c5, c6, c7, -, -⟩ := hat1
          simp only [Tk.put] at c0 c1 c2 c3 c4 c5 c6 c7
          clear hbw1 htok h32 Hat0 Hbw0
          go_wp2_with (at_builtin; refine wpList_tbuf rfl (.tmp 185) (.tmp 187) rfl w wr _ _ o [Tk.put ⟨tk, tp, tx, op, ⟨vk, vn, vs, vf⟩⟩ p] Hb.out Hol.out (Hbw1.out.alloc Hbw1.out.size _) ((TAt.new _ (Tk.put ⟨tk, tp, tx, op, ⟨vk, vn, vs, vf⟩⟩ p) 75).sl (Nat.le_refl _)) rfl rfl ?_; intro v4 w4 hb4; have Hb4 := Lib.hid hb4; clear hb4)
          go_roundg (s.size - (p + n))
          case measure => exact Hst.out.2.2
          case rel => exact ⟨p + n, J, o ++ [Tk.put ⟨tk, tp, tx, op, ⟨vk, vn, vs, vf⟩⟩ p], Lib.hid (by rw [HJ.out.2]; exact Hst.out.1), rfl, Hb4.out⟩
        case first =>
        by_cases h40 : c = 40
        · refine sw40 s p I N c wr.heap.size wr W2 _ _ _ _ _ _ _ _ _ _ _ _ _ _ _ _ _ _ _ _ _ _ _ _ _ _ _ _ _ _ _ _ _ _ _ _ _ _ _ _ _ _ _ _ _ _ _ _ _ _ _ _ _ _ _ _ _ _ _ _ _ _ _ _ _ _ _ _ _ _ _ _ _ _ _ _ _ _ _ _ _ _ _ _ _ _ _ _ _ _ _ _ _ _ _ _ _ _ _ _ _ _ _ _ _ _ _ _ _ _ _ _ _ _ _ _ _ _ _ _ _ _ _ _ _ _ _ _ _ _ _ _ _ _ _ _ _ _ _ _ _ _ _ _ _ _ _ _ _ _ _ _ _ _ _ _ _ _ _ _ _ _ _ _ _ _ _ _ _ _ _ _ _ _ _ _ _ _ _ _ _ _ _ _ _ ?_ ?_ HLaid hni HI.out.int hps HN h32 Hlc.out Hat0 Hbw0 (Nat.le_refl _) h40
          · intro i y2 y3 y4 y11 y12 y13 y17 y18 y19 y20 y21 y22 y23 y24 y25 y26 y27 y28 y29 y30 y31 y32 y33 y34 y35 y36 y37 y38 y39 y40 y41 y42 y43 y44 y45 y46 y47 y48 y49 y50 y51 y52 y53 y54 y55 y56 y57 y58 y59 y60 y61 y62 y63 y64 y65 y66 y67 y68 y69 y70 y71 y72 y73 y74 y75 y76 y77 y78 y79 y80 y81 y82 y83 y84 y85 y86 y87 y88 y89 y90 y91 y92 y93 y94 y95 y96 y97 y98 y99 y100 y101 y102 y103 y104 y105 y106 y107 y108 y109 y110 y111 y112 y113 y114 y115 y116 y117 y118 y119 y120 y121 y122 y123 y124 y125 y126 y127 y128 y129 y130 y131 y132 y133 y134 y135 y136 y137 y138 y139 y140 y141 y142 y143 y144 y145 y146 y147 y148 y149 y150 y151 y152 y153 y154 y155 y156 y157 y158 y159 y160 y161 y162 y163 y164 y165 y166 y167 y168 y169 y170 y171 y172 y173 y174 y175 y176 y177 y178 y179 y180 y181 y182 y183 y184 y185 y186 y187 y188 wx h
            obtain ⟨tk, n, J, rfl, h1, h2, h3⟩ := h
            dsimp only
            go_wp2_with fail
            go_meet
            exact ⟨tk, n, J, rfl, Lib.hid h1, h2, h3⟩
          · intro z6 z7 z8 z9 z10 z11 z12 z13 z17 z18 z19 z20 z21 z22 z23 z24 z25 z26 z27 z28 z29 z30 z31 z32 z33 z34 z35 z36 z37 z38 z39 z40 z41 z42 z43 z44 z45 z46 z47 z48 z49 z50 z51 z52 z53 z54 z55 z56 z57 z58 z59 z60 z61 z62 z63 z64 z65 z66 z67 z68 z69 z70 z71 z72 z73 z74 z75 z76 z77 z78 z79 z80 z81 z82 z83 z84 z85 z86 z87 z88 z89 z90 z91 z92 z93 z94 z95 z96 z97 z98 z99 z100 z101 z102 z103 z104 z105 z106 z107 z108 z109 z110 z111 z112 z113 z114 z115 z116 z117 z118 z119 z120 z121 z122 z123 z124 z125 z126 z127 z128 z129 z130 z131 z132 z133 z134 z135 z136 z137 z138 z139 z140 z141 z142 z143 z144 z145 z146 z147 z148 z149 z150 z151 z152 z153 z154 z155 z156 z157 z158 z159 z160 z161 z162 z163 z164 z165 z166 z167 z168 z169 z170 z171 z172 z173 z174 z175 z176 z177 z178 z179 z180 z181 z182 z183 z184 z185 z186 z187 z188 wx h1 h2
            dsimp only
            go_wp2_with fail
            exact bodyPost_ret (v := .tuple #[.slice none 0 0, .int .i64 I, .bool false]) (by simp [results, Tryz.results25, go_sem]) rfl (refAns_none (HI.out.bad Hlc.out h32 h1) HI.out.int (below_own Hb.out h2))
        by_cases h41 : c = 41
        · refine sw41 s p I N c wr.heap.size wr W2 _ _ _ _ _ _ _ _ _ _ _ _ _ _ _ _ _ _ _ _ _ _ _ _ _ _ _ _ _ _ _ _ _ _ _ _ _ _ _ _ _ _ _ _ _ _ _ _ _ _ _ _ _ _ _ _ _ _ _ _ _ _ _ _ _ _ _ _ _ _ _ _ _ _ _ _ _ _ _ _ _ _ _ _ _ _ _ _ _ _ _ _ _ _ _ _ _ _ _ _ _ _ _ _ _ _ _ _ _ _ _ _ _ _ _ _ _ _ _ _ _ _ _ _ _ _ _ _ _ _ _ _ _ _ _ _ _ _ _ _ _ _ _ _ _ _ _ _ _ _ _ _ _ _ _ _ _ _ _ _ _ _ _ _ _ _ _ _ _ _ _ _ _ _ _ _ _ _ _ _ _ _ _ _ _ ?_ ?_ HLaid hni HI.out.int hps HN h32 Hlc.out Hat0 Hbw0 (Nat.le_refl _) h41
          · intro i y2 y3 y4 y11 y12 y13 y17 y18 y19 y20 y21 y22 y23 y24 y25 y26 y27 y28 y29 y30 y31 y32 y33 y34 y35 y36 y37 y38 y39 y40 y41 y42 y43 y44 y45 y46 y47 y48 y49 y50 y51 y52 y53 y54 y55 y56 y57 y58 y59 y60 y61 y62 y63 y64 y65 y66 y67 y68 y69 y70 y71 y72 y73 y74 y75 y76 y77 y78 y79 y80 y81 y82 y83 y84 y85 y86 y87 y88 y89 y90 y91 y92 y93 y94 y95 y96 y97 y98 y99 y100 y101 y102 y103 y104 y105 y106 y107 y108 y109 y110 y111 y112 y113 y114 y115 y116 y117 y118 y119 y120 y121 y122 y123 y124 y125 y126 y127 y128 y129 y130 y131 y132 y133 y134 y135 y136 y137 y138 y139 y140 y141 y142 y143 y144 y145 y146 y147 y148 y149 y150 y151 y152 y153 y154 y155 y156 y157 y158 y159 y160 y161 y162 y163 y164 y165 y166 y167 y168 y169 y170 y171 y172 y173 y174 y175 y176 y177 y178 y179 y180 y181 y182 y183 y184 y185 y186 y187 y188 wx h
            obtain ⟨tk, n, J, rfl, h1, h2, h3⟩ := h
            dsimp only
            go_wp2_with fail
            go_meet
            exact ⟨tk, n, J, rfl, Lib.hid h1, h2, h3⟩
          · intro z6 z7 z8 z9 z10 z11 z12 z13 z17 z18 z19 z20 z21 z22 z23 z24 z25 z26 z27 z28 z29 z30 z31 z32 z33 z34 z35 z36 z37 z38 z39 z40 z41 z42 z43 z44 z45 z46 z47 z48 z49 z50 z51 z52 z53 z54 z55 z56 z57 z58 z59 z60 z61 z62 z63 z64 z65 z66 z67 z68 z69 z70 z71 z72 z73 z74 z75 z76 z77 z78 z79 z80 z81 z82 z83 z84 z85 z86 z87 z88 z89 z90 z91 z92 z93 z94 z95 z96 z97 z98 z99 z100 z101 z102 z103 z104 z105 z106 z107 z108 z109 z110 z111 z112 z113 z114 z115 z116 z117 z118 z119 z120 z121 z122 z123 z124 z125 z126 z127 z128 z129 z130 z131 z132 z133 z134 z135 z136 z137 z138 z139 z140 z141 z142 z143 z144 z145 z146 z147 z148 z149 z150 z151 z152 z153 z154 z155 z156 z157 z158 z159 z160 z161 z162 z163 z164 z165 z166 z167 z168 z169 z170 z171 z172 z173 z174 z175 z176 z177 z178 z179 z180 z181 z182 z183 z184 z185 z186 z187 z188 wx h1 h2
            dsimp only
            go_wp2_with fail
            exact bodyPost_ret (v := .tuple #[.slice none 0 0, .int .i64 I, .bool false]) (by simp [results, Tryz.results25, go_sem]) rfl (refAns_none (HI.out.bad Hlc.out h32 h1) HI.out.int (below_own Hb.out h2))
        by_cases h61 : c = 61
        · refine sw61 s p I N c wr.heap.size wr W2 _ _ _ _ _ _ _ _ _ _ _ _ _ _ _ _ _ _ _ _ _ _ _ _ _ _ _ _ _ _ _ _ _ _ _ _ _ _ _ _ _ _ _ _ _ _ _ _ _ _ _ _ _ _ _ _ _ _ _ _ _ _ _ _ _ _ _ _ _ _ _ _ _ _ _ _ _ _ _ _ _ _ _ _ _ _ _ _ _ _ _ _ _ _ _ _ _ _ _ _ _ _ _ _ _ _ _ _ _ _ _ _ _ _ _ _ _ _ _ _ _ _ _ _ _ _ _ _ _ _ _ _ _ _ _ _ _ _ _ _ _ _ _ _ _ _ _ _ _ _ _ _ _ _ _ _ _ _ _ _ _ _ _ _ _ _ _ _ _ _ _ _ _ _ _ _ _ _ _ _ _ _ _ _ _ ?_ ?_ HLaid hni HI.out.int hps HN h32 Hlc.out Hat0 Hbw0 (Nat.le_refl _) h61
          · intro i y2 y3 y4 y11 y12 y13 y17 y18 y19 y20 y21 y22 y23 y24 y25 y26 y27 y28 y29 y30 y31 y32 y33 y34 y35 y36 y37 y38 y39 y40 y41 y42 y43 y44 y45 y46 y47 y48 y49 y50 y51 y52 y53 y54 y55 y56 y57 y58 y59 y60 y61 y62 y63 y64 y65 y66 y67 y68 y69 y70 y71 y72 y73 y74 y75 y76 y77 y78 y79 y80 y81 y82 y83 y84 y85 y86 y87 y88 y89 y90 y91 y92 y93 y94 y95 y96 y97 y98 y99 y100 y101 y102 y103 y104 y105 y106 y107 y108 y109 y110 y111 y112 y113 y114 y115 y116 y117 y118 y119 y120 y121 y122 y123 y124 y125 y126 y127 y128 y129 y130 y131 y132 y133 y134 y135 y136 y137 y138 y139 y140 y141 y142 y143 y144 y145 y146 y147 y148 y149 y150 y151 y152 y153 y154 y155 y156 y157 y158 y159 y160 y161 y162 y163 y164 y165 y166 y167 y168 y169 y170 y171 y172 y173 y174 y175 y176 y177 y178 y179 y180 y181 y182 y183 y184 y185 y186 y187 y188 wx h
            obtain ⟨tk, n, J, rfl, h1, h2, h3⟩ := h
            dsimp only
            go_wp2_with fail
            go_meet
            exact ⟨tk, n, J, rfl, Lib.hid h1, h2, h3⟩
          · intro z6 z7 z8 z9 z10 z11 z12 z13 z17 z18 z19 z20 z21 z22 z23 z24 z25 z26 z27 z28 z29 z30 z31 z32 z33 z34 z35 z36 z37 z38 z39 z40 z41 z42 z43 z44 z45 z46 z47 z48 z49 z50 z51 z52 z53 z54 z55 z56 z57 z58 z59 z60 z61 z62 z63 z64 z65 z66 z67 z68 z69 z70 z71 z72 z73 z74 z75 z76 z77 z78 z79 z80 z81 z82 z83 z84 z85 z86 z87 z88 z89 z90 z91 z92 z93 z94 z95 z96 z97 z98 z99 z100 z101 z102 z103 z104 z105 z106 z107 z108 z109 z110 z111 z112 z113 z114 z115 z116 z117 z118 z119 z120 z121 z122 z123 z124 z125 z126 z127 z128 z129 z130 z131 z132 z133 z134 z135 z136 z137 z138 z139 z140 z141 z142 z143 z144 z145 z146 z147 z148 z149 z150 z151 z152 z153 z154 z155 z156 z157 z158 z159 z160 z161 z162 z163 z164 z165 z166 z167 z168 z169 z170 z171 z172 z173 z174 z175 z176 z177 z178 z179 z180 z181 z182 z183 z184 z185 z186 z187 z188 wx h1 h2
            dsimp only
            go_wp2_with fail
            exact bodyPost_ret (v := .tuple #[.slice none 0 0, .int .i64 I, .bool false]) (by simp [results, Tryz.results25, go_sem]) rfl (refAns_none (HI.out.bad Hlc.out h32 h1) HI.out.int (below_own Hb.out h2))
        by_cases h33 : c = 33
        · refine sw33 s p I N c wr.heap.size wr W2 _ _ _ _ _ _ _ _ _ _ _ _ _ _ _ _ _ _ _ _ _ _ _ _ _ _ _ _ _ _ _ _ _ _ _ _ _ _ _ _ _ _ _ _ _ _ _ _ _ _ _ _ _ _ _ _ _ _ _ _ _ _ _ _ _ _ _ _ _ _ _ _ _ _ _ _ _ _ _ _ _ _ _ _ _ _ _ _ _ _ _ _ _ _ _ _ _ _ _ _ _ _ _ _ _ _ _ _ _ _ _ _ _ _ _ _ _ _ _ _ _ _ _ _ _ _ _ _ _ _ _ _ _ _ _ _ _ _ _ _ _ _ _ _ _ _ _ _ _ _ _ _ _ _ _ _ _ _ _ _ _ _ _ _ _ _ _ _ _ _ _ _ _ _ _ _ _ _ _ _ _ _ _ _ _ ?_ ?_ HLaid hni HI.out.int hps HN h32 Hlc.out Hat0 Hbw0 (Nat.le_refl _) h33
          · intro i y2 y3 y4 y11 y12 y13 y17 y18 y19 y20 y21 y22 y23 y24 y25 y26 y27 y28 y29 y30 y31 y32 y33 y34 y35 y36 y37 y38 y39 y40 y41 y42 y43 y44 y45 y46 y47 y48 y49 y50 y51 y52 y53 y54 y55 y56 y57 y58 y59 y60 y61 y62 y63 y64 y65 y66 y67 y68 y69 y70 y71 y72 y73 y74 y75 y76 y77 y78 y79 y80 y81 y82 y83 y84 y85 y86 y87 y88 y89 y90 y91 y92 y93 y94 y95 y96 y97 y98 y99 y100 y101 y102 y103 y104 y105 y106 y107 y108 y109 y110 y111 y112 y113 y114 y115 y116 y117 y118 y119 y120 y121 y122 y123 y124 y125 y126 y127 y128 y129 y130 y131 y132 y133 y134 y135 y136 y137 y138 y139 y140 y141 y142 y143 y144 y145 y146 y147 y148 y149 y150 y151 y152 y153 y154 y155 y156 y157 y158 y159 y160 y161 y162 y163 y164 y165 y166 y167 y168 y169 y170 y171 y172 y173 y174 y175 y176 y177 y178 y179 y180 y181 y182 y183 y184 y185 y186 y187 y188 wx h
            obtain ⟨tk, n, J, rfl, h1, h2, h3⟩ := h
            dsimp only
            go_wp2_with fail
            go_meet
            exact ⟨tk, n, J, rfl, Lib.hid h1, h2, h3⟩
          · intro z6 z7 z8 z9 z10 z11 z12 z13 z17 z18 z19 z20 z21 z22 z23 z24 z25 z26 z27 z28 z29 z30 z31 z32 z33 z34 z35 z36 z37 z38 z39 z40 z41 z42 z43 z44 z45 z46 z47 z48 z49 z50 z51 z52 z53 z54 z55 z56 z57 z58 z59 z60 z61 z62 z63 z64 z65 z66 z67 z68 z69 z70 z71 z72 z73 z74 z75 z76 z77 z78 z79 z80 z81 z82 z83 z84 z85 z86 z87 z88 z89 z90 z91 z92 z93 z94 z95 z96 z97 z98 z99 z100 z101 z102 z103 z104 z105 z106 z107 z108 z109 z110 z111 z112 z113 z114 z115 z116 z117 z118 z119 z120 z121 z122 z123 z124 z125 z126 z127 z128 z129 z130 z131 z132 z133 z134 z135 z136 z137 z138 z139 z140 z141 z142 z143 z144 z145 z146 z147 z148 z149 z150 z151 z152 z153 z154 z155 z156 z157 z158 z159 z160 z161 z162 z163 z164 z165 z166 z167 z168 z169 z170 z171 z172 z173 z174 z175 z176 z177 z178 z179 z180 z181 z182 z183 z184 z185 z186 z187 z188 wx h1 h2
            dsimp only
            go_wp2_with fail
            exact bodyPost_ret (v := .tuple #[.slice none 0 0, .int .i64 I, .bool false]) (by simp [results, Tryz.results25, go_sem]) rfl (refAns_none (HI.out.bad Hlc.out h32 h1) HI.out.int (below_own Hb.out h2))
        by_cases h60 : c = 60
        · refine sw60 s p I N c wr.heap.size wr W2 _ _ _ _ _ _ _ _ _ _ _ _ _ _ _ _ _ _ _ _ _ _ _ _ _ _ _ _ _ _ _ _ _ _ _ _ _ _ _ _ _ _ _ _ _ _ _ _ _ _ _ _ _ _ _ _ _ _ _ _ _ _ _ _ _ _ _ _ _ _ _ _ _ _ _ _ _ _ _ _ _ _ _ _ _ _ _ _ _ _ _ _ _ _ _ _ _ _ _ _ _ _ _ _ _ _ _ _ _ _ _ _ _ _ _ _ _ _ _ _ _ _ _ _ _ _ _ _ _ _ _ _ _ _ _ _ _ _ _ _ _ _ _ _ _ _ _ _ _ _ _ _ _ _ _ _ _ _ _ _ _ _ _ _ _ _ _ _ _ _ _ _ _ _ _ _ _ _ _ _ _ _ _ _ _ ?_ ?_ HLaid hni HI.out.int hps HN h32 Hlc.out Hat0 Hbw0 (Nat.le_refl _) h60
          · intro i y2 y3 y4 y11 y12 y13 y17 y18 y19 y20 y21 y22 y23 y24 y25 y26 y27 y28 y29 y30 y31 y32 y33 y34 y35 y36 y37 y38 y39 y40 y41 y42 y43 y44 y45 y46 y47 y48 y49 y50 y51 y52 y53 y54 y55 y56 y57 y58 y59 y60 y61 y62 y63 y64 y65 y66 y67 y68 y69 y70 y71 y72 y73 y74 y75 y76 y77 y78 y79 y80 y81 y82 y83 y84 y85 y86 y87 y88 y89 y90 y91 y92 y93 y94 y95 y96 y97 y98 y99 y100 y101 y102 y103 y104 y105 y106 y107 y108 y109 y110 y111 y112 y113 y114 y115 y116 y117 y118 y119 y120 y121 y122 y123 y124 y125 y126 y127 y128 y129 y130 y131 y132 y133 y134 y135 y136 y137 y138 y139 y140 y141 y142 y143 y144 y145 y146 y147 y148 y149 y150 y151 y152 y153 y154 y155 y156 y157 y158 y159 y160 y161 y162 y163 y164 y165 y166 y167 y168 y169 y170 y171 y172 y173 y174 y175 y176 y177 y178 y179 y180 y181 y182 y183 y184 y185 y186 y187 y188 wx h
            obtain ⟨tk, n, J, rfl, h1, h2, h3⟩ := h
            dsimp only
            go_wp2_with fail
            go_meet
            exact ⟨tk, n, J, rfl, Lib.hid h1, h2, h3⟩
          · intro z6 z7 z8 z9 z10 z11 z12 z13 z17 z18 z19 z20 z21 z22 z23 z24 z25 z26 z27 z28 z29 z30 z31 z32 z33 z34 z35 z36 z37 z38 z39 z40 z41 z42 z43 z44 z45 z46 z47 z48 z49 z50 z51 z52 z53 z54 z55 z56 z57 z58 z59 z60 z61 z62 z63 z64 z65 z66 z67 z68 z69 z70 z71 z72 z73 z74 z75 z76 z77 z78 z79 z80 z81 z82 z83 z84 z85 z86 z87 z88 z89 z90 z91 z92 z93 z94 z95 z96 z97 z98 z99 z100 z101 z102 z103 z104 z105 z106 z107 z108 z109 z110 z111 z112 z113 z114 z115 z116 z117 z118 z119 z120 z121 z122 z123 z124 z125 z126 z127 z128 z129 z130 z131 z132 z133 z134 z135 z136 z137 z138 z139 z140 z141 z142 z143 z144 z145 z146 z147 z148 z149 z150 z151 z152 z153 z154 z155 z156 z157 z158 z159 z160 z161 z162 z163 z164 z165 z166 z167 z168 z169 z170 z171 z172 z173 z174 z175 z176 z177 z178 z179 z180 z181 z182 z183 z184 z185 z186 z187 z188 wx h1 h2
            dsimp only
            go_wp2_with fail
            exact bodyPost_ret (v := .tuple #[.slice none 0 0, .int .i64 I, .bool false]) (by simp [results, Tryz.results25, go_sem]) rfl (refAns_none (HI.out.bad Hlc.out h32 h1) HI.out.int (below_own Hb.out h2))
        by_cases h62 : c = 62
        · refine sw62 s p I N c wr.heap.size wr W2 _ _ _ _ _ _ _ _ _ _ _ _ _ _ _ _ _ _ _ _ _ _ _ _ _ _ _ _ _ _ _ _ _ _ _ _ _ _ _ _ _ _ _ _ _ _ _ _ _ _ _ _ _ _ _ _ _ _ _ _ _ _ _ _ _ _ _ _ _ _ _ _ _ _ _ _ _ _ _ _ _ _ _ _ _ _ _ _ _ _ _ _ _ _ _ _ _ _ _ _ _ _ _ _ _ _ _ _ _ _ _ _ _ _ _ _ _ _ _ _ _ _ _ _ _ _ _ _ _ _ _ _ _ _ _ _ _ _ _ _ _ _ _ _ _ _ _ _ _ _ _ _ _ _ _ _ _ _ _ _ _ _ _ _ _ _ _ _ _ _ _ _ _ _ _ _ _ _ _ _ _ _ _ _ _ ?_ ?_ HLaid hni HI.out.int hps HN h32 Hlc.out Hat0 Hbw0 (Nat.le_refl _) h62
          · intro i y2 y3 y4 y11 y12 y13 y17 y18 y19 y20 y21 y22 y23 y24 y25 y26 y27 y28 y29 y30 y31 y32 y33 y34 y35 y36 y37 y38 y39 y40 y41 y42 y43 y44 y45 y46 y47 y48 y49 y50 y51 y52 y53 y54 y55 y56 y57 y58 y59 y60 y61 y62 y63 y64 y65 y66 y67 y68 y69 y70 y71 y72 y73 y74 y75 y76 y77 y78 y79 y80 y81 y82 y83 y84 y85 y86 y87 y88 y89 y90 y91 y92 y93 y94 y95 y96 y97 y98 y99 y100 y101 y102 y103 y104 y105 y106 y107 y108 y109 y110 y111 y112 y113 y114 y115 y116 y117 y118 y119 y120 y121 y122 y123 y124 y125 y126 y127 y128 y129 y130 y131 y132 y133 y134 y135 y136 y137 y138 y139 y140 y141 y142 y143 y144 y145 y146 y147 y148 y149 y150 y151 y152 y153 y154 y155 y156 y157 y158 y159 y160 y161 y162 y163 y164 y165 y166 y167 y168 y169 y170 y171 y172 y173 y174 y175 y176 y177 y178 y179 y180 y181 y182 y183 y184 y185 y186 y187 y188 wx h
            obtain ⟨tk, n, J, rfl, h1, h2, h3⟩ := h
            dsimp only
            go_wp2_with fail
            go_meet
            exact ⟨tk, n, J, rfl, Lib.hid h1, h2, h3⟩
          · intro z6 z7 z8 z9 z10 z11 z12 z13 z17 z18 z19 z20 z21 z22 z23 z24 z25 z26 z27 z28 z29 z30 z31 z32 z33 z34 z35 z36 z37 z38 z39 z40 z41 z42 z43 z44 z45 z46 z47 z48 z49 z50 z51 z52 z53 z54 z55 z56 z57 z58 z59 z60 z61 z62 z63 z64 z65 z66 z67 z68 z69 z70 z71 z72 z73 z74 z75 z76 z77 z78 z79 z80 z81 z82 z83 z84 z85 z86 z87 z88 z89 z90 z91 z92 z93 z94 z95 z96 z97 z98 z99 z100 z101 z102 z103 z104 z105 z106 z107 z108 z109 z110 z111 z112 z113 z114 z115 z116 z117 z118 z119 z120 z121 z122 z123 z124 z125 z126 z127 z128 z129 z130 z131 z132 z133 z134 z135 z136 z137 z138 z139 z140 z141 z142 z143 z144 z145 z146 z147 z148 z149 z150 z151 z152 z153 z154 z155 z156 z157 z158 z159 z160 z161 z162 z163 z164 z165 z166 z167 z168 z169 z170 z171 z172 z173 z174 z175 z176 z177 z178 z179 z180 z181 z182 z183 z184 z185 z186 z187 z188 wx h1 h2
            dsimp only
            go_wp2_with fail
            exact bodyPost_ret (v := .tuple #[.slice none 0 0, .int .i64 I, .bool false]) (by simp [results, Tryz.results25, go_sem]) rfl (refAns_none (HI.out.bad Hlc.out h32 h1) HI.out.int (below_own Hb.out h2))
        by_cases h36 : c = 36
        · refine sw36 s p I N c wr.heap.size wr W2 _ _ _ _ _ _ _ _ _ _ _ _ _ _ _ _ _ _ _ _ _ _ _ _ _ _ _ _ _ _ _ _ _ _ _ _ _ _ _ _ _ _ _ _ _ _ _ _ _ _ _ _ _ _ _ _ _ _ _ _ _ _ _ _ _ _ _ _ _ _ _ _ _ _ _ _ _ _ _ _ _ _ _ _ _ _ _ _ _ _ _ _ _ _ _ _ _ _ _ _ _ _ _ _ _ _ _ _ _ _ _ _ _ _ _ _ _ _ _ _ _ _ _ _ _ _ _ _ _ _ _ _ _ _ _ _ _ _ _ _ _ _ _ _ _ _ _ _ _ _ _ _ _ _ _ _ _ _ _ _ _ _ _ _ _ _ _ _ _ _ _ _ _ _ _ _ _ _ _ _ _ _ _ _ _ ?_ ?_ HLaid hni HI.out.int hps HN h32 Hlc.out Hat0 Hbw0 (Nat.le_refl _) h36
          · intro i y2 y3 y4 y11 y12 y13 y17 y18 y19 y20 y21 y22 y23 y24 y25 y26 y27 y28 y29 y30 y31 y32 y33 y34 y35 y36 y37 y38 y39 y40 y41 y42 y43 y44 y45 y46 y47 y48 y49 y50 y51 y52 y53 y54 y55 y56 y57 y58 y59 y60 y61 y62 y63 y64 y65 y66 y67 y68 y69 y70 y71 y72 y73 y74 y75 y76 y77 y78 y79 y80 y81 y82 y83 y84 y85 y86 y87 y88 y89 y90 y91 y92 y93 y94 y95 y96 y97 y98 y99 y100 y101 y102 y103 y104 y105 y106 y107 y108 y109 y110 y111 y112 y113 y114 y115 y116 y117 y118 y119 y120 y121 y122 y123 y124 y125 y126 y127 y128 y129 y130 y131 y132 y133 y134 y135 y136 y137 y138 y139 y140 y141 y142 y143 y144 y145 y146 y147 y148 y149 y150 y151 y152 y153 y154 y155 y156 y157 y158 y159 y160 y161 y162 y163 y164 y165 y166 y167 y168 y169 y170 y171 y172 y173 y174 y175 y176 y177 y178 y179 y180 y181 y182 y183 y184 y185 y186 y187 y188 wx h
            obtain ⟨tk, n, J, rfl, h1, h2, h3⟩ := h
            dsimp only
            go_wp2_with fail
            go_meet
            exact ⟨tk, n, J, rfl, Lib.hid h1, h2, h3⟩
          · intro z6 z7 z8 z9 z10 z11 z12 z13 z17 z18 z19 z20 z21 z22 z23 z24 z25 z26 z27 z28 z29 z30 z31 z32 z33 z34 z35 z36 z37 z38 z39 z40 z41 z42 z43 z44 z45 z46 z47 z48 z49 z50 z51 z52 z53 z54 z55 z56 z57 z58 z59 z60 z61 z62 z63 z64 z65 z66 z67 z68 z69 z70 z71 z72 z73 z74 z75 z76 z77 z78 z79 z80 z81 z82 z83 z84 z85 z86 z87 z88 z89 z90 z91 z92 z93 z94 z95 z96 z97 z98 z99 z100 z101 z102 z103 z104 z105 z106 z107 z108 z109 z110 z111 z112 z113 z114 z115 z116 z117 z118 z119 z120 z121 z122 z123 z124 z125 z126 z127 z128 z129 z130 z131 z132 z133 z134 z135 z136 z137 z138 z139 z140 z141 z142 z143 z144 z145 z146 z147 z148 z149 z150 z151 z152 z153 z154 z155 z156 z157 z158 z159 z160 z161 z162 z163 z164 z165 z166 z167 z168 z169 z170 z171 z172 z173 z174 z175 z176 z177 z178 z179 z180 z181 z182 z183 z184 z185 z186 z187 z188 wx h1 h2
            dsimp only
            go_wp2_with fail
            exact bodyPost_ret (v := .tuple #[.slice none 0 0, .int .i64 I, .bool false]) (by simp [results, Tryz.results25, go_sem]) rfl (refAns_none (HI.out.bad Hlc.out h32 h1) HI.out.int (below_own Hb.out h2))
        refine swW s p I N c wr.heap.size wr W2 _ _ _ _ _ _ _ _ _ _ _ _ _ _ _ _ _ _ _ _ _ _ _ _ _ _ _ _ _ _ _ _ _ _ _ _ _ _ _ _ _ _ _ _ _ _ _ _ _ _ _ _ _ _ _ _ _ _ _ _ _ _ _ _ _ _ _ _ _ _ _ _ _ _ _ _ _ _ _ _ _ _ _ _ _ _ _ _ _ _ _ _ _ _ _ _ _ _ _ _ _ _ _ _ _ _ _ _ _ _ _ _ _ _ _ _ _ _ _ _ _ _ _ _ _ _ _ _ _ _ _ _ _ _ _ _ _ _ _ _ _ _ _ _ _ _ _ _ _ _ _ _ _ _ _ _ _ _ _ _ _ _ _ _ _ _ _ _ _ _ _ _ _ _ _ _ _ _ _ _ _ _ _ _ _ ?_ ?_ HLaid hni HI.out.int hps HN h32 Hlc.out Hat0 Hbw0 (Nat.le_refl _) h40 h41 h61 h33 h60 h62 h36
        · intro i y2 y3 y4 y11 y12 y13 y17 y18 y19 y20 y21 y22 y23 y24 y25 y26 y27 y28 y29 y30 y31 y32 y33 y34 y35 y36 y37 y38 y39 y40 y41 y42 y43 y44 y45 y46 y47 y48 y49 y50 y51 y52 y53 y54 y55 y56 y57 y58 y59 y60 y61 y62 y63 y64 y65 y66 y67 y68 y69 y70 y71 y72 y73 y74 y75 y76 y77 y78 y79 y80 y81 y82 y83 y84 y85 y86 y87 y88 y89 y90 y91 y92 y93 y94 y95 y96 y97 y98 y99 y100 y101 y102 y103 y104 y105 y106 y107 y108 y109 y110 y111 y112 y113 y114 y115 y116 y117 y118 y119 y120 y121 y122 y123 y124 y125 y126 y127 y128 y129 y130 y131 y132 y133 y134 y135 y136 y137 y138 y139 y140 y141 y142 y143 y144 y145 y146 y147 y148 y149 y150 y151 y152 y153 y154 y155 y156 y157 y158 y159 y160 y161 y162 y163 y164 y165 y166 y167 y168 y169 y170 y171 y172 y173 y174 y175 y176 y177 y178 y179 y180 y181 y182 y183 y184 y185 y186 y187 y188 wx h
          obtain ⟨tk, n, J, rfl, h1, h2, h3⟩ := h
          dsimp only
          go_wp2_with fail
          go_meet
          exact ⟨tk, n, J, rfl, Lib.hid h1, h2, h3⟩
        · intro z6 z7 z8 z9 z10 z11 z12 z13 z17 z18 z19 z20 z21 z22 z23 z24 z25 z26 z27 z28 z29 z30 z31 z32 z33 z34 z35 z36 z37 z38 z39 z40 z41 z42 z43 z44 z45 z46 z47 z48 z49 z50 z51 z52 z53 z54 z55 z56 z57 z58 z59 z60 z61 z62 z63 z64 z65 z66 z67 z68 z69 z70 z71 z72 z73 z74 z75 z76 z77 z78 z79 z80 z81 z82 z83 z84 z85 z86 z87 z88 z89 z90 z91 z92 z93 z94 z95 z96 z97 z98 z99 z100 z101 z102 z103 z104 z105 z106 z107 z108 z109 z110 z111 z112 z113 z114 z115 z116 z117 z118 z119 z120 z121 z122 z123 z124 z125 z126 z127 z128 z129 z130 z131 z132 z133 z134 z135 z136 z137 z138 z139 z140 z141 z142 z143 z144 z145 z146 z147 z148 z149 z150 z151 z152 z153 z154 z155 z156 z157 z158 z159 z160 z161 z162 z163 z164 z165 z166 z167 z168 z169 z170 z171 z172 z173 z174 z175 z176 z177 z178 z179 z180 z181 z182 z183 z184 z185 z186 z187 z188 wx h1 h2
          dsimp only
          go_wp2_with fail
          exact bodyPost_ret (v := .tuple #[.slice none 0 0, .int .i64 I, .bool false]) (by simp [results, Tryz.results25, go_sem]) rfl (refAns_none (HI.out.bad Hlc.out h32 h1) HI.out.int (below_own Hb.out h2))
end Go.Proofs.YthhghlnbpigcjaaGreatDoor
