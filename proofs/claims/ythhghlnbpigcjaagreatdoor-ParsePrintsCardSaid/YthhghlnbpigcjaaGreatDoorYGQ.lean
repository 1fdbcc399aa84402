/- Joined texts: Lq6. -/
import Derived.Test.YthhghlnbpigcjaaGreatDoorYGP
set_option linter.unusedVariables false
set_option linter.unusedSimpArgs false
namespace Go.Proofs.YthhghlnbpigcjaaGreatDoor
open Go.RowKit

set_option maxHeartbeats 32000000 in
set_option maxRecDepth 1000000 in
theorem swW (s : ByteArray) (p : Nat) (I N : Int) (c : UInt8) (b : Nat) (w0 W2 : World) (x1 x2 x3 x4 x5 x11 x12 x13 x14 x15 x16 x17 x18 x19 x20 x21 x22 x23 x24 x25 x26 x27 x28 x29 x30 x31 x32 x33 x34 x35 x37 x38 x39 x40 x41 x42 x43 x44 x45 x46 x47 x48 x49 x50 x51 x52 x53 x54 x55 x56 x57 x58 x59 x60 x61 x62 x63 x64 x65 x66 x67 x68 x69 x70 x71 x72 x73 x74 x75 x76 x77 x78 x79 x80 x81 x82 x83 x84 x85 x86 x87 x88 x89 x90 x91 x92 x93 x94 x95 x96 x97 x98 x99 x100 x101 x102 x103 x104 x105 x106 x107 x108 x109 x110 x111 x112 x113 x114 x115 x116 x117 x118 x119 x120 x121 x122 x123 x124 x125 x126 x127 x128 x129 x130 x131 x132 x133 x134 x135 x136 x137 x138 x139 x140 x141 x142 x143 x144 x145 x146 x147 x148 x149 x150 x151 x152 x153 x154 x155 x156 x157 x158 x159 x160 x161 x162 x163 x164 x165 x166 x167 x168 x169 x170 x171 x172 x173 x174 x175 x176 x177 x178 x179 x180 x181 x182 x183 x184 x185 x186 x187 x188 x189 : Value) (K : Act → World → Prop) (Q : Exit → Act → World → Prop)
    (hK : ∀ (i y2 y3 y4 y11 y12 y13 y17 y18 y19 y20 y21 y22 y23 y24 y25 y26 y27 y28 y29 y30 y31 y32 y33 y34 y35 y36 y37 y38 y39 y40 y41 y42 y43 y44 y45 y46 y47 y48 y49 y50 y51 y52 y53 y54 y55 y56 y57 y58 y59 y60 y61 y62 y63 y64 y65 y66 y67 y68 y69 y70 y71 y72 y73 y74 y75 y76 y77 y78 y79 y80 y81 y82 y83 y84 y85 y86 y87 y88 y89 y90 y91 y92 y93 y94 y95 y96 y97 y98 y99 y100 y101 y102 y103 y104 y105 y106 y107 y108 y109 y110 y111 y112 y113 y114 y115 y116 y117 y118 y119 y120 y121 y122 y123 y124 y125 y126 y127 y128 y129 y130 y131 y132 y133 y134 y135 y136 y137 y138 y139 y140 y141 y142 y143 y144 y145 y146 y147 y148 y149 y150 y151 y152 y153 y154 y155 y156 y157 y158 y159 y160 y161 y162 y163 y164 y165 y166 y167 y168 y169 y170 y171 y172 y173 y174 y175 y176 y177 y178 y179 y180 y181 y182 y183 y184 y185 y186 y187 y188 : Value) (wx : World), SwR s p I b w0 i wx → K ⟨#[.string s, x1, y2, y3, y4, x5, i, .int .u8 (c.toNat : Int), .int .i64 I, .int .u8 N, .pointer (some ⟨b, 0, none⟩), y11, y12, y13, x14, x15, x16, y17, y18, y19, y20, y21, y22, y23, y24, y25, y26, y27, y28, y29, y30, y31, y32, y33, y34, y35, y36, y37, y38, y39, y40, y41, y42, y43, y44, y45, y46, y47, y48, y49, y50, y51, y52, y53, y54, y55, y56, y57, y58, y59, y60, y61, y62, y63, y64, y65, y66, y67, y68, y69, y70, y71, y72, y73, y74, y75, y76, y77, y78, y79, y80, y81, y82, y83, y84, y85, y86, y87, y88, y89, y90, y91, y92, y93, y94, y95, y96, y97, y98, y99, y100, y101, y102, y103, y104, y105, y106, y107, y108, y109, y110, y111, y112, y113, y114, y115, y116, y117, y118, y119, y120, y121, y122, y123, y124, y125, y126, y127, y128, y129, y130, y131, y132, y133, y134, y135, y136, y137, y138, y139, y140, y141, y142, y143, y144, y145, y146, y147, y148, y149, y150, y151, y152, y153, y154, y155, y156, y157, y158, y159, y160, y161, y162, y163, y164, y165, y166, y167, y168, y169, y170, y171, y172, y173, y174, y175, y176, y177, y178, y179, y180, y181, y182, y183, y184, y185, y186, y187, y188, x189], []⟩ wx)
    (hret : ∀ (z6 z7 z8 z9 z10 z11 z12 z13 z17 z18 z19 z20 z21 z22 z23 z24 z25 z26 z27 z28 z29 z30 z31 z32 z33 z34 z35 z36 z37 z38 z39 z40 z41 z42 z43 z44 z45 z46 z47 z48 z49 z50 z51 z52 z53 z54 z55 z56 z57 z58 z59 z60 z61 z62 z63 z64 z65 z66 z67 z68 z69 z70 z71 z72 z73 z74 z75 z76 z77 z78 z79 z80 z81 z82 z83 z84 z85 z86 z87 z88 z89 z90 z91 z92 z93 z94 z95 z96 z97 z98 z99 z100 z101 z102 z103 z104 z105 z106 z107 z108 z109 z110 z111 z112 z113 z114 z115 z116 z117 z118 z119 z120 z121 z122 z123 z124 z125 z126 z127 z128 z129 z130 z131 z132 z133 z134 z135 z136 z137 z138 z139 z140 z141 z142 z143 z144 z145 z146 z147 z148 z149 z150 z151 z152 z153 z154 z155 z156 z157 z158 z159 z160 z161 z162 z163 z164 z165 z166 z167 z168 z169 z170 z171 z172 z173 z174 z175 z176 z177 z178 z179 z180 z181 z182 z183 z184 z185 z186 z187 z188 : Value) (wx : World), tokL (s.data.toList.drop p) = none → Below w0.heap.size w0 wx → Q .ret ⟨#[.string s, x1, .slice none 0 0, .int .i64 I, .bool false, x5, z6, z7, z8, z9, z10, z11, z12, z13, x14, x15, x16, z17, z18, z19, z20, z21, z22, z23, z24, z25, z26, z27, z28, z29, z30, z31, z32, z33, z34, z35, z36, z37, z38, z39, z40, z41, z42, z43, z44, z45, z46, z47, z48, z49, z50, z51, z52, z53, z54, z55, z56, z57, z58, z59, z60, z61, z62, z63, z64, z65, z66, z67, z68, z69, z70, z71, z72, z73, z74, z75, z76, z77, z78, z79, z80, z81, z82, z83, z84, z85, z86, z87, z88, z89, z90, z91, z92, z93, z94, z95, z96, z97, z98, z99, z100, z101, z102, z103, z104, z105, z106, z107, z108, z109, z110, z111, z112, z113, z114, z115, z116, z117, z118, z119, z120, z121, z122, z123, z124, z125, z126, z127, z128, z129, z130, z131, z132, z133, z134, z135, z136, z137, z138, z139, z140, z141, z142, z143, z144, z145, z146, z147, z148, z149, z150, z151, z152, z153, z154, z155, z156, z157, z158, z159, z160, z161, z162, z163, z164, z165, z166, z167, z168, z169, z170, z171, z172, z173, z174, z175, z176, z177, z178, z179, z180, z181, z182, z183, z184, z185, z186, z187, z188, x189], []⟩ wx)
    (Hl : Hid (∀ W, Below w0.heap.size w0 W → Laid W)) (hni : (s.size : Int) ≤ 100000) (hI : I = (p : Int)) (hps : p < s.size) (HN : Hid (N = 61 ↔ (s.data.toList.drop (p + 1)).head? = some 61)) (h32 : ¬ c = 32)
    (hlc : s.data.toList[p]? = some c) (Hat0 : Hid (TAt W2 b ⟨0, p, [], 0, ⟨0, 0, ⟨#[]⟩, 0⟩⟩)) (Hbw0 : Hid (Below w0.heap.size w0 W2)) (hb0 : w0.heap.size ≤ b) (h40 : ¬ c = 40) (h41 : ¬ c = 41) (h61 : ¬ c = 61) (h33 : ¬ c = 33) (h60 : ¬ c = 60) (h62 : ¬ c = 62) (h36 : ¬ c = 36) :
    Code.wp Tryz.prog swCode (Exit.then K Q) ⟨#[.string s, x1, x2, x3, x4, x5, .int .i64 (I + 1), .int .u8 (c.toNat : Int), .int .i64 I, .int .u8 N, .pointer (some ⟨b, 0, none⟩), x11, x12, x13, x14, x15, x16, x17, x18, x19, x20, x21, x22, x23, x24, x25, x26, x27, x28, x29, x30, x31, x32, x33, x34, x35, .int .u8 (c.toNat : Int), x37, x38, x39, x40, x41, x42, x43, x44, x45, x46, x47, x48, x49, x50, x51, x52, x53, x54, x55, x56, x57, x58, x59, x60, x61, x62, x63, x64, x65, x66, x67, x68, x69, x70, x71, x72, x73, x74, x75, x76, x77, x78, x79, x80, x81, x82, x83, x84, x85, x86, x87, x88, x89, x90, x91, x92, x93, x94, x95, x96, x97, x98, x99, x100, x101, x102, x103, x104, x105, x106, x107, x108, x109, x110, x111, x112, x113, x114, x115, x116, x117, x118, x119, x120, x121, x122, x123, x124, x125, x126, x127, x128, x129, x130, x131, x132, x133, x134, x135, x136, x137, x138, x139, x140, x141, x142, x143, x144, x145, x146, x147, x148, x149, x150, x151, x152, x153, x154, x155, x156, x157, x158, x159, x160, x161, x162, x163, x164, x165, x166, x167, x168, x169, x170, x171, x172, x173, x174, x175, x176, x177, x178, x179, x180, x181, x182, x183, x184, x185, x186, x187, x188, x189], []⟩ W2 := by
  have Hlen : Hid (s.data.toList.length = s.size) := Lib.hid (Lib.size_eq s).symm
  have hInt := Lib.hid hI; have Hlc := Lib.hid hlc; have Hb0 := Lib.hid hb0
  have HK := Lib.hid hK; have Hret := Lib.hid hret
  have hI0 : 0 ≤ I := by omega
  have hI1 : I < (s.size : Int) := by omega
  have hni3 : I + 1 ≤ 100000 := by omega
  have hIj : I.toNat = p := by omega
  have htok := tokL_cons c (s.data.toList.drop (p + 1))
  rw [← (drop_at hlc).1] at htok
  have hz0 := Hat0.out.z 0; have hz2 := Hat0.out.z 2; have hz3 := Hat0.out.z 3
  have hc0 := Hat0.out.c0; have hc2 := Hat0.out.c2; have hc3 := Hat0.out.c3
  simp only at hc0 hc2 hc3
  clear hK hret hI hlc hb0
  have hq32 : ((c.toNat : Int) == 32) = false := byte_not h32
  have hq40 : ((c.toNat : Int) == 40) = false := byte_not h40
  have hq41 : ((c.toNat : Int) == 41) = false := byte_not h41
  have hq61 : ((c.toNat : Int) == 61) = false := byte_not h61
  have hq33 : ((c.toNat : Int) == 33) = false := byte_not h33
  have hq60 : ((c.toNat : Int) == 60) = false := byte_not h60
  have hq62 : ((c.toNat : Int) == 62) = false := byte_not h62
  have hq36 : ((c.toNat : Int) == 36) = false := byte_not h36
  have Htk : Hid (tokL (s.data.toList.drop p) = if (s.data.toList.drop p).takeWhile wordB = [] then none else if kwB ((s.data.toList.drop p).takeWhile wordB) then some (⟨3, 0, (s.data.toList.drop p).takeWhile wordB, 0, zeroVal⟩, ((s.data.toList.drop p).takeWhile wordB).length) else if okV ((s.data.toList.drop p).takeWhile wordB) then some (⟨1, 0, [], 0, parseVal ((s.data.toList.drop p).takeWhile wordB)⟩, ((s.data.toList.drop p).takeWhile wordB).length) else none) := Lib.hid (by rw [htok, if_neg h61, if_neg h33, if_neg h60, if_neg h62, if_neg h40, if_neg h41, if_neg h36])
  have hpl : p ≤ s.size := Nat.le_of_lt hps
  clear h32 htok h40 h41 h61 h33 h60 h62 h36
  conv => arg 2; whnf
  go_upto_block 3 with fail
  go_cut [6] from 17 to 188 (fun i wx => ∃ (q : Nat) (J : Int), i = .int .i64 J ∧ Hid (J = (q : Int) ∧ p ≤ q ∧ q ≤ s.size ∧ (s.data.toList.drop (p)).takeWhile wordB = (s.data.toList.drop (p)).take (q - (p))) ∧ W2 = wx)
  case first => 
    go_wp2_with fail
    go_loopg [6] (s.size - (p)) (fun gj i wx => ∃ (q : Nat) (J : Int), i = .int .i64 J ∧ Hid (J = (q : Int) ∧ q + gj = s.size ∧ p ≤ q ∧ ∀ i d, i < q - (p) → (s.data.toList.drop (p))[i]? = some d → wordB d = true) ∧ W2 = wx)
    case atStart => exact ⟨p, _, rfl, Lib.hid ⟨by have := hInt.out; omega, by omega, Nat.le_refl _, fun i d hi => by omega⟩, rfl⟩
    case round =>
      obtain ⟨q, J, rfl, HQ, rfl⟩ := hrel
      have hJ0 : 0 ≤ J := by have := HQ.out.1; omega
      by_cases hj : J < (s.size : Int)
      · have hJq : J.toNat = q := by have := HQ.out.1; omega
        have hqs : q < s.size := by have := HQ.out.1; omega
        obtain ⟨d, hd⟩ : ∃ d, s[q] = d := ⟨_, rfl⟩
        have hdl : (s.data.toList.drop (p))[q - (p)]? = some d := by rw [List.getElem?_drop, show p + (q - (p)) = q from by have := HQ.out.2.2.1; omega, byte_at s q hqs, hd]
        have hsm := wordB_iff d
        obtain ⟨D, hD⟩ : ∃ D : Int, D = (d.toNat : Int) := ⟨_, rfl⟩
        rw [← hD] at hsm
        have hcc : (d.toNat : Int) = D := hD.symm
        clear hD
        simp only [lowD, upD, digD] at hsm
        cases hb : wordB d with
        | true =>
          have HQ2 : Hid (∀ i e, i < q + 1 - (p) → (s.data.toList.drop (p))[i]? = some e → wordB e = true) := Lib.hid fun i e hi he => by
            rcases Nat.lt_or_ge i (q - (p)) with h | h
            · exact HQ.out.2.2.2 i e h he
            · obtain rfl : i = q - (p) := by have := HQ.out.2.2.1; omega
              rw [hdl] at he
              cases he
              exact hb
          have h3 := hsm.1 hb
          have h4 : ((97 ≤ D ∧ D ≤ 122)) ∨ (¬ (97 ≤ D ∧ D ≤ 122) ∧ (65 ≤ D ∧ D ≤ 90)) ∨ (¬ (97 ≤ D ∧ D ≤ 122) ∧ ¬ (65 ≤ D ∧ D ≤ 90) ∧ (48 ≤ D ∧ D ≤ 57)) ∨ (¬ (97 ≤ D ∧ D ≤ 122) ∧ ¬ (65 ≤ D ∧ D ≤ 90) ∧ ¬ (48 ≤ D ∧ D ≤ 57) ∧ D = 45) ∨ (¬ (97 ≤ D ∧ D ≤ 122) ∧ ¬ (65 ≤ D ∧ D ≤ 90) ∧ ¬ (48 ≤ D ∧ D ≤ 57) ∧ ¬ D = 45 ∧ D = 46) := by omega
          clear h3 hsm hdl hb
          rcases h4 with k0 | ⟨k0, k1⟩ | ⟨k0, k1, k2⟩ | ⟨k0, k1, k2, k3⟩ | ⟨k0, k1, k2, k3, k4⟩
          · have Hc0 := Lib.hid fun W => in_case W D 97 122 k0
            clear k0
            go_wp2_with fail
            refine (Hc0.out _).mono ?_
            rintro e W ⟨rfl, rfl⟩
            go_wp2_with fail
            go_roundg (s.size - (q + 1))
            case measure => have := HQ.out.2.1; omega
            case rel => exact ⟨q + 1, J + 1, rfl, Lib.hid ⟨by have := HQ.out.1; omega, by have := HQ.out.2.1; omega, by have := HQ.out.2.2.1; omega, HQ2.out⟩, rfl⟩
          · have Hc0 := Lib.hid fun W => out_case W D 97 122 k0
            have Hc1 := Lib.hid fun W => in_case W D 65 90 k1
            clear k0 k1
            go_wp2_with fail
            refine (Hc0.out _).mono ?_
            rintro e W ⟨rfl, rfl⟩
            go_wp2_with fail
            refine (Hc1.out _).mono ?_
            rintro e W ⟨rfl, rfl⟩
            go_wp2_with fail
            go_roundg (s.size - (q + 1))
            case measure => have := HQ.out.2.1; omega
            case rel => exact ⟨q + 1, J + 1, rfl, Lib.hid ⟨by have := HQ.out.1; omega, by have := HQ.out.2.1; omega, by have := HQ.out.2.2.1; omega, HQ2.out⟩, rfl⟩
          · have Hc0 := Lib.hid fun W => out_case W D 97 122 k0
            have Hc1 := Lib.hid fun W => out_case W D 65 90 k1
            have Hc2 := Lib.hid fun W => in_case W D 48 57 k2
            clear k0 k1 k2
            go_wp2_with fail
            refine (Hc0.out _).mono ?_
            rintro e W ⟨rfl, rfl⟩
            go_wp2_with fail
            refine (Hc1.out _).mono ?_
            rintro e W ⟨rfl, rfl⟩
            go_wp2_with fail
            refine (Hc2.out _).mono ?_
            rintro e W ⟨rfl, rfl⟩
            go_wp2_with fail
            go_roundg (s.size - (q + 1))
            case measure => have := HQ.out.2.1; omega
            case rel => exact ⟨q + 1, J + 1, rfl, Lib.hid ⟨by have := HQ.out.1; omega, by have := HQ.out.2.1; omega, by have := HQ.out.2.2.1; omega, HQ2.out⟩, rfl⟩
          · have Hc0 := Lib.hid fun W => out_case W D 97 122 k0
            have Hc1 := Lib.hid fun W => out_case W D 65 90 k1
            have Hc2 := Lib.hid fun W => out_case W D 48 57 k2
            clear k0 k1 k2
            subst k3
            go_wp2_with fail
            refine (Hc0.out _).mono ?_
            rintro e W ⟨rfl, rfl⟩
            go_wp2_with fail
            refine (Hc1.out _).mono ?_
            rintro e W ⟨rfl, rfl⟩
            go_wp2_with fail
            refine (Hc2.out _).mono ?_
            rintro e W ⟨rfl, rfl⟩
            go_wp2_with fail
            go_roundg (s.size - (q + 1))
            case measure => have := HQ.out.2.1; omega
            case rel => exact ⟨q + 1, J + 1, rfl, Lib.hid ⟨by have := HQ.out.1; omega, by have := HQ.out.2.1; omega, by have := HQ.out.2.2.1; omega, HQ2.out⟩, rfl⟩
          · have Hc0 := Lib.hid fun W => out_case W D 97 122 k0
            have Hc1 := Lib.hid fun W => out_case W D 65 90 k1
            have Hc2 := Lib.hid fun W => out_case W D 48 57 k2
            clear k0 k1 k2 k3
            subst k4
            go_wp2_with fail
            refine (Hc0.out _).mono ?_
            rintro e W ⟨rfl, rfl⟩
            go_wp2_with fail
            refine (Hc1.out _).mono ?_
            rintro e W ⟨rfl, rfl⟩
            go_wp2_with fail
            refine (Hc2.out _).mono ?_
            rintro e W ⟨rfl, rfl⟩
            go_wp2_with fail
            go_roundg (s.size - (q + 1))
            case measure => have := HQ.out.2.1; omega
            case rel => exact ⟨q + 1, J + 1, rfl, Lib.hid ⟨by have := HQ.out.1; omega, by have := HQ.out.2.1; omega, by have := HQ.out.2.2.1; omega, HQ2.out⟩, rfl⟩
        | false =>
          have hF := takeWhile_at wordB (s.data.toList.drop (p)) (q - (p)) HQ.out.2.2.2 (.inr ⟨d, hdl, hb⟩)
          have HF := Lib.hid hF
          rw [hb] at hsm
          simp only [Bool.false_eq_true, false_iff] at hsm
          have Hc0 := Lib.hid fun W => out_case W D 97 122 (by omega)
          have Hc1 := Lib.hid fun W => out_case W D 65 90 (by omega)
          have Hc2 := Lib.hid fun W => out_case W D 48 57 (by omega)
          have n0 : (D == 45) = false := beq_eq_false_iff_ne.2 (by omega)
          have n1 : (D == 46) = false := beq_eq_false_iff_ne.2 (by omega)
          clear hsm hdl hb hF
          go_wp2_with fail
          refine (Hc0.out _).mono ?_
          rintro e W ⟨rfl, rfl⟩
          go_wp2_with fail
          refine (Hc1.out _).mono ?_
          rintro e W ⟨rfl, rfl⟩
          go_wp2_with fail
          refine (Hc2.out _).mono ?_
          rintro e W ⟨rfl, rfl⟩
          go_wp2_with fail
          go_meet
          exact ⟨q, J, rfl, Lib.hid ⟨HQ.out.1, HQ.out.2.2.1, by have := HQ.out.2.1; omega, HF.out⟩, rfl⟩
      · have hF := takeWhile_at wordB (s.data.toList.drop (p)) (q - (p)) HQ.out.2.2.2 (.inl (List.getElem?_eq_none (by rw [List.length_drop, Hlen.out]; have := HQ.out; omega)))
        have HF := Lib.hid hF
        clear hF
        go_wp2_with fail
        go_meet
        exact ⟨q, J, rfl, Lib.hid ⟨HQ.out.1, HQ.out.2.2.1, by have := HQ.out.2.1; omega, HF.out⟩, rfl⟩
  case rest =>
    obtain ⟨q, J, rfl, HQ, rfl⟩ := hcut
    obtain ⟨X, hX⟩ : ∃ X : ByteArray, s.extract (p) q = X := ⟨_, rfl⟩
    obtain ⟨tw, htw⟩ : ∃ tw, tw = (s.data.toList.drop (p)).takeWhile wordB := ⟨_, rfl⟩
    have hXl : X.data.toList = tw := by rw [← hX, Lib.extract_eq, htw, HQ.out.2.2.2]
    have hXs : X.size = tw.length := by rw [Lib.size_eq, hXl]
    have hXn : tw.length = q - (p) := by rw [htw, HQ.out.2.2.2, List.length_take, List.length_drop, Hlen.out]; have := HQ.out.2.2.1; omega
    have hXb : X.size ≤ 100000 := by have := hni; have := HQ.out.2.2.1; omega
    have hXi : (X.size : Int) ≤ 100000 := by omega
    have hJ1 : J.toNat = q := by have := HQ.out.1; omega
    have hJ2 : J ≤ (s.size : Int) := by have := HQ.out; omega
    have hJ0 : 0 ≤ J := by have := HQ.out.1; omega
    rw [← htw] at Htk
    have hIJ : I ≤ J := by have := HQ.out; have := hInt.out; omega
    have HJn : Hid (J = I + ((tw.length : Nat) : Int)) := Lib.hid (by have := HQ.out; have := hInt.out; omega)
    have hXt : (⟨tw.toArray⟩ : ByteArray) = X := by rw [← hXl]
    have hXL : X.toList = tw := by rw [ByteArray.toList_eq, hXl]
    have Hp : Hid (∀ W : World, Laid W → Calls Tryz.prog 38 #[.string X] W fun e w' => e = .returned (.tuple #[(parseVal tw).v, .bool (okV tw)]) ∧ Below W.heap.size W w') := Lib.hid fun W h => by
      have := parseVR_any W X hXb
      rwa [hXl] at this
    have hkw : kwB tw = ((X.toList == kAnd) || (X.toList == kOr) || (X.toList == kNot) || (X.toList == kIs)) := by rw [hXL]; rfl
    have hem : tw = [] ↔ (X.toList == []) = true := by rw [hXL, beq_iff_eq]
    have HXt := Lib.hid hXt; have Hem := Lib.hid hem; have Hkw := Lib.hid hkw
    clear hXl hXs hXn hXb hXL hem hkw hXt htw
    go_upto_region 18 with fail
    go_cut [91] from 17 to 188 (fun t wx => t = .bool (kwB tw) ∧ W2 = wx)
    case first => 
      have hkw := Hkw.out
      cases b1 : (X.toList == kAnd) with
      | true =>
        rw [b1] at hkw; have Hk := Lib.hid hkw; clear hkw
        go_wp2_with fail
        go_meet
        exact ⟨congrArg Value.bool Hk.out.symm, rfl⟩
      | false =>
      cases b2 : (X.toList == kOr) with
      | true =>
        rw [b1, b2] at hkw; have Hk := Lib.hid hkw; clear hkw
        go_wp2_with fail
        go_meet
        exact ⟨congrArg Value.bool Hk.out.symm, rfl⟩
      | false =>
      cases b3 : (X.toList == kNot) with
      | true =>
        rw [b1, b2, b3] at hkw; have Hk := Lib.hid hkw; clear hkw
        go_wp2_with fail
        go_meet
        exact ⟨congrArg Value.bool Hk.out.symm, rfl⟩
      | false =>
      cases b4 : (X.toList == kIs) with
      | true =>
        rw [b1, b2, b3, b4] at hkw; have Hk := Lib.hid hkw; clear hkw
        go_wp2_with fail
        go_meet
        exact ⟨congrArg Value.bool Hk.out.symm, rfl⟩
      | false =>
        rw [b1, b2, b3, b4] at hkw; have Hk := Lib.hid hkw; clear hkw
        go_wp2_with fail
        go_meet
        exact ⟨congrArg Value.bool Hk.out.symm, rfl⟩
    case rest =>
    obtain ⟨rfl, rfl⟩ := hcut
    cases hk : kwB tw with
    | true =>
      have hne : ¬ tw = [] := fun e => by rw [e] at hk; cases hk
      have Ht := Lib.hid (show tokL (s.data.toList.drop p) = some (⟨3, 0, tw, 0, zeroVal⟩, tw.length) from by rw [Htk.out, if_neg hne, hk]; rfl)
      have hat1 := (Hat0.out.kind 3).word X
      have hbw1 : Below w0.heap.size w0 ((W2.setCell ⟨b, 0, none⟩ (.int .i64 3)).setCell ⟨b, 2, none⟩ (.string X)) := (Hbw0.out.setCell Hb0.out _).setCell Hb0.out _
      have hXl : X.data.toList = tw := by rw [← HXt.out]
      rw [hXl] at hat1
      have Hat1 := Lib.hid hat1; have Hbw1 := Lib.hid hbw1
      clear hk hne hat1 hbw1 hXl
      go_wp2_with fail
      exact HK.out _ _ _ _ _ _ _ _ _ _ _ _ _ _ _ _ _ _ _ _ _ _ _ _ _ _ _ _ _ _ _ _ _ _ _ _ _ _ _ _ _ _ _ _ _ _ _ _ _ _ _ _ _ _ _ _ _ _ _ _ _ _ _ _ _ _ _ _ _ _ _ _ _ _ _ _ _ _ _ _ _ _ _ _ _ _ _ _ _ _ _ _ _ _ _ _ _ _ _ _ _ _ _ _ _ _ _ _ _ _ _ _ _ _ _ _ _ _ _ _ _ _ _ _ _ _ _ _ _ _ _ _ _ _ _ _ _ _ _ _ _ _ _ _ _ _ _ _ _ _ _ _ _ _ _ _ _ _ _ _ _ _ _ _ _ _ _ _ _ _ _ _ _ _ _ _ _ _ _ _ ⟨⟨3, 0, tw, 0, zeroVal⟩, tw.length, J, rfl, ⟨Ht.out, HJn.out⟩, Hat1.out, Hbw1.out⟩
    | false =>
      have Htk2 := Lib.hid (show tokL (s.data.toList.drop p) = if tw = [] then none else if okV tw then some (⟨1, 0, [], 0, parseVal tw⟩, tw.length) else none from by rw [Htk.out, hk]; rfl)
      generalize hpv : parseVal tw = pv at *
      obtain ⟨vk, vn, vs, vf⟩ := pv
      simp only [Val.v] at Hp
      cases hok : okV tw with
      | false =>
        have He := Lib.hid (show tokL (s.data.toList.drop p) = none from by rw [Htk2.out, hok]; by_cases h : tw = [] <;> simp [h])
        rw [hok] at Hp
        clear hk hok hpv
        go_wp2_with fail
        refine (Hp.out _ (Hl.out _ Hbw0.out)).mono ?_
        rintro e w3 ⟨rfl, hb3⟩
        have Hb3 := Lib.hid (Hbw0.out.trans (hb3.mono Hbw0.out.size))
        clear hb3
        go_wp2_with fail
        exact Hret.out _ _ _ _ _ _ _ _ _ _ _ _ _ _ _ _ _ _ _ _ _ _ _ _ _ _ _ _ _ _ _ _ _ _ _ _ _ _ _ _ _ _ _ _ _ _ _ _ _ _ _ _ _ _ _ _ _ _ _ _ _ _ _ _ _ _ _ _ _ _ _ _ _ _ _ _ _ _ _ _ _ _ _ _ _ _ _ _ _ _ _ _ _ _ _ _ _ _ _ _ _ _ _ _ _ _ _ _ _ _ _ _ _ _ _ _ _ _ _ _ _ _ _ _ _ _ _ _ _ _ _ _ _ _ _ _ _ _ _ _ _ _ _ _ _ _ _ _ _ _ _ _ _ _ _ _ _ _ _ _ _ _ _ _ _ _ _ _ _ _ _ _ _ _ _ _ _ _ _ _ _ He.out (Hb3.out.alloc Hb3.out.size _)
      | true =>
        rw [hok] at Hp
        cases hx : (X.toList == []) with
        | true =>
          have He := Lib.hid (show tokL (s.data.toList.drop p) = none from by rw [Htk2.out, if_pos (Hem.out.2 hx)])
          clear hk hok hpv
          go_wp2_with fail
          refine (Hp.out _ (Hl.out _ Hbw0.out)).mono ?_
          rintro e w3 ⟨rfl, hb3⟩
          have Hb3 := Lib.hid (Hbw0.out.trans (hb3.mono Hbw0.out.size))
          clear hb3
          go_wp2_with fail
          exact Hret.out _ _ _ _ _ _ _ _ _ _ _ _ _ _ _ _ _ _ _ _ _ _ _ _ _ _ _ _ _ _ _ _ _ _ _ _ _ _ _ _ _ _ _ _ _ _ _ _ _ _ _ _ _ _ _ _ _ _ _ _ _ _ _ _ _ _ _ _ _ _ _ _ _ _ _ _ _ _ _ _ _ _ _ _ _ _ _ _ _ _ _ _ _ _ _ _ _ _ _ _ _ _ _ _ _ _ _ _ _ _ _ _ _ _ _ _ _ _ _ _ _ _ _ _ _ _ _ _ _ _ _ _ _ _ _ _ _ _ _ _ _ _ _ _ _ _ _ _ _ _ _ _ _ _ _ _ _ _ _ _ _ _ _ _ _ _ _ _ _ _ _ _ _ _ _ _ _ _ _ _ _ He.out (Hb3.out.alloc Hb3.out.size _)
        | false =>
          have hne : ¬ tw = [] := fun e => by have := Hem.out.1 e; rw [hx] at this; cases this
          have Ht := Lib.hid (show tokL (s.data.toList.drop p) = some (⟨1, 0, [], 0, ⟨vk, vn, vs, vf⟩⟩, tw.length) from by rw [Htk2.out, if_neg hne, hok]; rfl)
          clear hk hok hpv hne
          go_wp2_with fail
          refine (Hp.out _ (Hl.out _ Hbw0.out)).mono ?_
          rintro e w3 ⟨rfl, hb3⟩
          have hbw3 := Hbw0.out.trans (hb3.mono Hbw0.out.size)
          have hat3 := Hat0.out.below hb3 Hat0.out.lt
          have hav := At.new w3 vk vn vs vf 27
          have hat4 := hat3.below ((Below.refl w3.heap.size w3).alloc (Nat.le_refl _) (.cells #[.int .i64 vk, .int .i64 vn, .string vs, .int .u64 vf] 27)) hat3.lt
          have hbw4 : Below w0.heap.size w0 (w3.alloc (.cells #[.int .i64 vk, .int .i64 vn, .string vs, .int .u64 vf] 27)) := hbw3.alloc hbw3.size _
          have hne4 : ¬ b = w3.heap.size := Nat.ne_of_lt hat3.lt
          have Hav := Lib.hid hav; have Hat4 := Lib.hid hat4; have Hbw4 := Lib.hid hbw4; have Hne := Lib.hid hne4
          clear hb3 hbw3 hat3 hav hat4 hbw4 hne4 hz0 hz2 hz3 hc0 hc2 hc3
          go_upto_region 22 with fail
          generalize (w3.alloc _) = W4 at Hav Hat4 Hbw4 ⊢
          have hz0 := Hat4.out.z 0; have hc0 := Hat4.out.c0
          simp only at hc0
          have hat5 := Hat4.out.kind 1
          have hav5 := Hav.out.apart (.int .i64 1) 0 Hne.out
          have hbw5 : Below w0.heap.size w0 (W4.setCell ⟨b, 0, none⟩ (.int .i64 1)) := Hbw4.out.setCell Hb0.out _
          have Hat5 := Lib.hid hat5; have Hav5 := Lib.hid hav5; have Hbw5 := Lib.hid hbw5
          clear hat5 hav5 hbw5
          go_upto_region 25 with fail
          generalize (W4.setCell _ _) = W5 at Hat5 Hav5 Hbw5 ⊢
          obtain ⟨v0, v1, v2, v3, -, -⟩ := Hav5.out
          obtain ⟨-, -, -, -, t4, t5, t6, t7, dz, -⟩ := Hat5.out
          have z4 := dz 4; have z5 := dz 5; have z6 := dz 6; have z7 := dz 7
          simp only at t4 t5 t6 t7
          clear dz hz0 hc0
          go_wp2_with fail
          exact HK.out _ _ _ _ _ _ _ _ _ _ _ _ _ _ _ _ _ _ _ _ _ _ _ _ _ _ _ _ _ _ _ _ _ _ _ _ _ _ _ _ _ _ _ _ _ _ _ _ _ _ _ _ _ _ _ _ _ _ _ _ _ _ _ _ _ _ _ _ _ _ _ _ _ _ _ _ _ _ _ _ _ _ _ _ _ _ _ _ _ _ _ _ _ _ _ _ _ _ _ _ _ _ _ _ _ _ _ _ _ _ _ _ _ _ _ _ _ _ _ _ _ _ _ _ _ _ _ _ _ _ _ _ _ _ _ _ _ _ _ _ _ _ _ _ _ _ _ _ _ _ _ _ _ _ _ _ _ _ _ _ _ _ _ _ _ _ _ _ _ _ _ _ _ _ _ _ _ _ _ _ ⟨⟨1, 0, [], 0, ⟨vk, vn, vs, vf⟩⟩, tw.length, J, rfl, ⟨Ht.out, HJn.out⟩, Hat5.out.lit ⟨vk, vn, vs, vf⟩, (((Hbw5.out.setCell Hb0.out _).setCell Hb0.out _).setCell Hb0.out _).setCell Hb0.out _⟩
end Go.Proofs.YthhghlnbpigcjaaGreatDoor
