/- The document's part of a cache is touched: the page isn't there. -/
import Derived.Test.YtdblpcfkiiliiaaR1
set_option linter.unusedVariables false
set_option linter.unusedSimpArgs false
namespace Go.Proofs.Ytdblpcfkiiliiaa
open Go.RowKit

/-- how a miss ends: p is the part, the miss counted -/
def MissEnds (w w' : World) (e : Ending) (pb fb cap : Nat) (p : Pt) (page : Int) : Prop :=
  (skips isRoom p.frames < p.frames.length ∧ e = .returned (.tuple #[.bool false, .int .i64 0]) ∧ ∃ g c, RpAt w' pb g c { p with frames := p.frames.set (skips isRoom p.frames) (fresh page) } ∧ Upd (Of pb fb) w w' ∧ w.heap.size ≤ g) ∨
  (¬ skips isRoom p.frames < p.frames.length ∧ (∃ q i, spin (2 * p.frames.length) p = some (q, i) ∧ e = .returned (.tuple #[.bool false, .int .i64 0]) ∧ ∃ g c, RpAt w' pb g c { q with frames := q.frames.set i (fresh page) } ∧ Upd (Of pb fb) w w' ∧ w.heap.size ≤ g)) ∨
  (¬ skips isRoom p.frames < p.frames.length ∧ spin (2 * p.frames.length) p = none ∧ e = .returned (.tuple #[.bool false, .int .i64 210]) ∧ RpAt w' pb fb cap p ∧ Upd (Of pb fb) w w')

/-- the frames are copied -/
theorem wpList_copy_frames {ops : Array Oper} {rest : List Oper} {o : Oper} {a : Act} {Q : Exit → Act → World → Prop} {W : World} (hgd : o.guard = none)
    (ho : o.op = .call { callee := .builtin .append, args := #[.tmp 57, .tmp 61], argTypes := #[49, 49] }) (hdst : o.dst = some 62)
    (wr : World) (pb fb cap : Nat) (p : Pt) (N : Nat) (hp : RpAt wr pb fb cap p) (hN : N = p.frames.length) (hW : W = wr.alloc (.cells #[] 53))
    (hs : a.eval (.tmp 57) = .slice (some ⟨wr.heap.size, 0, none⟩) 0 0) (hx : a.eval (.tmp 61) = .slice (some ⟨fb, 0, none⟩) N cap)
    (h : ∀ g c w', RfAt w' g p.frames → (∀ o, w'.frozen? ⟨g, o, none⟩ = false) → g < w'.heap.size → wr.heap.size ≤ g → Below wr.heap.size wr w' → wpList Try.prog ops Q rest (a.put (some 62) (.slice (some ⟨g, 0, none⟩) N c)) w') :
    wpList Try.prog ops Q (o :: rest) a W := by
  obtain ⟨i0, hi0, hz0, hz1, hz2⟩ := info_parts info53
  have n1 := hp.n1
  have n64 := hp.n64
  have b2 := hp.b2
  have hb : Below wr.heap.size wr W := by rw [hW]; exact (Below.refl _ _).alloc (Nat.le_refl _) _
  have hsz : W.heap.size = wr.heap.size + 1 := by rw [hW]; simp
  have hown : W.ownsRow wr.heap.size 53 4 (.slice (some ⟨wr.heap.size, 0, none⟩) 0 0) 0 [] := by
    refine ⟨rfl, .inr ⟨wr.heap.size, 0, #[], rfl, Nat.le_refl _, ?_, Nat.le_refl _, by unfold maxLen; omega, rfl, rfl⟩⟩
    rw [hW]; exact heap_alloc_new _ _
  refine wpList_append_lies (P := Try.prog) W hgd (.tmp 57) (.tmp 61) 49 ho wr.heap.size 53 i0 _ 4 24 Try.underlying49 hi0 hz0 hz1 hz2 rfl (by decide) _ 0 [] hs hown
    ⟨fb, 0, none⟩ N cap (rflat p.frames) hx (by rw [rflat_length, hN]) (fun j u hu => rflat_news (hp.fr.kept (hb.block fb b2)) j u hu) (rflat_one _) (by omega) (by unfold maxLen; omega) (by omega) (by omega) (wr.heap.size + 1) hsz ?_
  intro g c w' h1 h2 h3 h4
  rw [hdst]
  rw [Nat.zero_add] at h1 ⊢
  obtain ⟨k1, k2, k3, k4⟩ := own_frames hN.symm (by omega) h1
  refine h g c w' k1 k2 k3 k4 ?_
  refine hb.grown h2 (by omega) (fun k hk => ?_)
  simp [Value.ownBlock] at hk; omega

theorem RpAt.moved {wr w3 w4 : World} {pb fb cap g c h : Nat} {p : Pt} {xs : List Fr} (hp : RpAt wr pb fb cap p) (hb : Below wr.heap.size wr w3) (hu : Upd (fun k => k = g) w3 w4) (hg : wr.heap.size ≤ g) (hx : RfAt w4 g xs) (hz : ∀ o, w4.frozen? ⟨g, o, none⟩ = false) (hlt : g < w4.heap.size)
    (hl : xs.length = p.frames.length) (hh : h < p.frames.length) : RpAt ((w4.setCell ⟨pb, 0, none⟩ (.slice (some ⟨g, 0, none⟩) p.frames.length c)).setCell ⟨pb, 1, none⟩ (.int .i64 h)) pb g c { p with frames := xs, hand := h } := by
  have b1 := hp.b1
  have hne : pb ≠ g := by omega
  have h4 : w4.heap[pb]? = wr.heap[pb]? := (hu.block pb (by have := hb.size; omega) hne).trans (hb.block pb b1)
  have hsz : wr.heap.size ≤ w4.heap.size := Nat.le_trans hb.size hu.size
  have k0 := (World.cell?_of_block (w := wr) (a := ⟨pb, 0, none⟩) h4).trans hp.c0
  have k1 := (World.cell?_of_block (w := wr) (a := ⟨pb, 1, none⟩) h4).trans hp.c1
  have k2 := (World.cell?_of_block (w := wr) (a := ⟨pb, 2, none⟩) h4).trans hp.c2
  have k3 := (World.cell?_of_block (w := wr) (a := ⟨pb, 3, none⟩) h4).trans hp.c3
  have hc : ∀ o' u, w4.cell? ⟨pb, o', none⟩ = some u → ((w4.setCell ⟨pb, 0, none⟩ (.slice (some ⟨g, 0, none⟩) p.frames.length c)).setCell ⟨pb, 1, none⟩ (.int .i64 h)).cell? ⟨pb, o', none⟩ = some (if o' = 1 then .int .i64 h else if o' = 0 then .slice (some ⟨g, 0, none⟩) p.frames.length c else u) := fun o' u hv => by
    rw [cell_set (cell_set hv)]
    by_cases e : o' = 1
    · subst e; simp
    · have e' : ¬ 1 = o' := fun x => e x.symm
      by_cases e2 : o' = 0
      · subst e2; simp
      · have e2' : ¬ 0 = o' := fun x => e2 x.symm
        simp [e, e', e2, e2']
  refine ⟨by simpa [hl] using hc _ _ k0, hc _ _ k1, hc _ _ k2, hc _ _ k3, ?_, fun o => ?_, fun o => by rw [World.frozen?_setCell, World.frozen?_setCell]; exact hz o, by simp [World.setCell]; omega, by simpa [World.setCell] using hlt, hne, by rw [hl]; exact hp.n1, by rw [hl]; exact hp.n64, by rw [hl]; exact hh⟩
  · intro i hi j hj
    rw [World.cell?_setCell_other _ _ _ _ (fun e => hne (by injection e)), World.cell?_setCell_other _ _ _ _ (fun e => hne (by injection e))]
    exact hx i hi j hj
  · rw [World.frozen?_setCell, World.frozen?_setCell]
    exact (World.frozen?_of_block (w := wr) (a := ⟨pb, o, none⟩) h4).trans (hp.z1 o)

theorem Upd.setNew {S : Nat → Prop} {a w : World} (h : Upd S a w) {p : Addr} (hp : a.heap.size ≤ p.block) (v : Value) : Upd S a (w.setCell p v) :=
  ⟨h.os, h.tape, h.output, by simpa [World.setCell] using h.size, fun k hk hs => (Below.heap_setCell _ _ _ _ (by omega)).trans (h.block k hk hs)⟩
theorem Upd.new {S : Nat → Prop} {a b c : World} {g : Nat} (h : Upd S a b) (k : Upd (fun x => x = g) b c) (hg : a.heap.size ≤ g) : Upd S a c :=
  ⟨k.os.trans h.os, k.tape.trans h.tape, k.output.trans h.output, Nat.le_trans h.size k.size, fun i hi hs => (k.block i (Nat.lt_of_lt_of_le hi h.size) (by omega)).trans (h.block i hi hs)⟩
/-- the copied frames while the hand goes round -/
structure L2 (w3 wr : World) (g N : Nat) (p pc : Pt) : Prop where
  fr : RfAt wr g pc.frames
  fz : ∀ o, wr.frozen? ⟨g, o, none⟩ = false
  lt : g < wr.heap.size
  len : pc.frames.length = N
  hd : pc.hand < N
  hits : pc.hits = p.hits
  misses : pc.misses = p.misses
  up : Upd (fun k => k = g) w3 wr
  nn : ∀ f ∈ pc.frames, 0 ≤ f.held
theorem L2.mark {w3 wr : World} {g N : Nat} {p pc : Pt} (h : L2 w3 wr g N p pc) (k : Nat) (hk : k < pc.frames.length) : L2 w3 (wr.setCell ⟨g, k * 4 + 3, none⟩ (.bool false)) g N p { pc with frames := pc.frames.set k { pc.frames[k] with touched := false } } :=
  ⟨h.fr.set k hk 3 (by omega) { pc.frames[k] with touched := false } (fun j hj hne => by match j, hj with | 0, _ => rfl | 1, _ => rfl | 2, _ => rfl | 3, _ => exact absurd rfl hne), fun o => by rw [World.frozen?_setCell]; exact h.fz o, by simpa [World.setCell] using h.lt, by simpa using h.len, h.hd, h.hits, h.misses,
    h.up.setCell (p := ⟨g, k * 4 + 3, none⟩) rfl _, fun f hf => by
      rcases List.mem_or_eq_of_mem_set hf with e | e
      · exact h.nn f e
      · rw [e]; exact h.nn pc.frames[k] (List.getElem_mem hk)⟩
theorem L2.turn {w3 wr : World} {g N : Nat} {p pc : Pt} (h : L2 w3 wr g N p pc) (n : Nat) (hn : n < N) : L2 w3 wr g N p { pc with hand := n } := ⟨h.fr, h.fz, h.lt, h.len, hn, h.hits, h.misses, h.up, h.nn⟩
theorem spin_pt {p q : Pt} (h1 : q.hits = p.hits) (h2 : q.misses = p.misses) (xs : List Fr) (n : Nat) : ({ q with frames := xs, hand := n } : Pt) = { p with frames := xs, hand := n } := by cases p; cases q; simp_all

set_option maxHeartbeats 4000000 in
set_option maxRecDepth 100000 in
theorem rtouch_miss (w : World) (pb fb cap : Nat) (p0 p : Pt) (hpd : p = { p0 with misses := p0.misses + 1 }) (h : RpAt w pb fb cap p0) (page : Int) (hf : firstOf (isPage page) p0.frames = none) (b0 : 0 ≤ p0.misses) (b1 : p0.misses ≤ 1000000) (hnn : ∀ f ∈ p0.frames, 0 ≤ f.held) :
    Calls Try.prog 24 #[.pointer (some ⟨pb, 0, none⟩), .int .i64 page] w fun e w' => MissEnds w w' e pb fb cap p page := by
  have Hpd := Lib.hid hpd; clear hpd
  have hx : idxOf (isPage page) p0.frames = -1 := by
    unfold firstOf at hf
    unfold idxOf
    split at hf
    · cases hf
    · rename_i hl; rw [if_neg hl]
  have H := Lib.hid h; clear h
  have Hx := Lib.hid hx; clear hx hf
  have Hnn := Lib.hid hnn; clear hnn
  go_enter Try.func24, Try.ntmps24
  go_wp2_with fail
  refine (rfind_any w pb fb cap p0 H.out page).mono ?_
  rintro e w1 ⟨rfl, hb⟩
  rw [Hx.out]
  have hp2 := H.out.below hb
  have c0 := hp2.c0
  have c3 := hp2.c3
  have z1 := hp2.z1 3
  have ne := hp2.ne
  have n64 := hp2.n64
  have n1 := hp2.n1
  have Hp2 := Lib.hid hp2; clear hp2
  have hu : Upd (Of pb fb) w (w1.setCell ⟨pb, 3, none⟩ (.int .i64 (p0.misses + 1))) := (Upd.of_below hb).setCell (.inl rfl) _
  have hp3 : RpAt (w1.setCell ⟨pb, 3, none⟩ (.int .i64 (p0.misses + 1))) pb fb cap { p0 with misses := p0.misses + 1 } := Hp2.out.own 3 _ rfl Hp2.out.hd (by omega) rfl rfl rfl
  clear hb
  have hN : p0.frames.length = ({ p0 with misses := p0.misses + 1 } : Pt).frames.length := rfl
  have hnn : ∀ f ∈ ({ p0 with misses := p0.misses + 1 } : Pt).frames, 0 ≤ f.held := Hnn.out
  rw [← Hpd.out] at hp3 hN hnn
  have Hp3 := Lib.hid hp3; have Hu := Lib.hid hu; have Hnn2 := Lib.hid hnn
  clear hp3 hu hnn Hnn H Hp2
  generalize p0.frames.length = N at hN c0 n64 n1
  have HN := Lib.hid hN; clear hN
  go_wp2_with fail
  have hW : ∃ W, W = w1.setCell ⟨pb, 3, none⟩ (.int .i64 (p0.misses + 1)) := ⟨_, rfl⟩
  obtain ⟨W, hW⟩ := hW
  rw [← hW]
  have Hp := Lib.hid (show RpAt W pb fb cap p from by rw [hW]; exact Hp3.out)
  have HuW := Lib.hid (show Upd (Of pb fb) w W from by rw [hW]; exact Hu.out)
  clear hW Hp3 Hu c0 c3 z1 b0 b1
  go_loopg [6, 7] N (fun k x i wr => ∃ m : Nat, m ≤ N ∧ k = m ∧ i = .int .i64 ((m : Int) - 1) ∧ x = .int .i64 (roomFrom p.frames m) ∧ wr = W)
  case atStart => exact ⟨N, by omega, rfl, rfl, by rw [HN.out, roomFrom_end], rfl⟩
  case round =>
    obtain ⟨m, hm, hk, rfl, rfl, rfl⟩ := hrel
    have Hk := Lib.hid hk; clear hk
    have g0 := Hp.out.c0
    rw [← HN.out] at g0
    by_cases hm0 : 0 < m
    · obtain ⟨m, rfl⟩ : ∃ x, m = x + 1 := ⟨m - 1, by omega⟩
      have hml : m < p.frames.length := by rw [← HN.out]; omega
      have fr := Hp.out.fr.four m hml
      obtain ⟨f0, f1, f2, f3⟩ := fr
      have e1 : (((m + 1 : Nat) : Int) - 1) = (m : Int) := by omega
      have hstep := roomFrom_step p.frames m hml
      have Hstep := Lib.hid hstep; clear hstep
      rw [e1]
      clear e1 hm0
      have hmN : m < N := by omega
      cases hf : p.frames[m].full with
      | true =>
        have Hf := Lib.hid hf
        rw [hf] at f2; clear hf
        go_wp2_with fail
        go_roundg m
        case measure => have := Hk.out; omega
        case rel => exact ⟨m, by omega, rfl, rfl, by rw [Hstep.out, Hf.out]; rfl, rfl⟩
      | false =>
        have Hf := Lib.hid hf
        rw [hf] at f2; clear hf
        go_wp2_with fail
        go_roundg m
        case measure => have := Hk.out; omega
        case rel => exact ⟨m, by omega, rfl, rfl, by rw [Hstep.out, Hf.out]; rfl, rfl⟩
    · have hm00 : m = 0 := by omega
      subst hm00
      clear hm0
      have hr0 := roomFrom_zero p.frames
      have hng : ¬ (0 : Int) ≤ ((0 : Nat) : Int) - 1 := by omega
      rw [hr0]
      clear hr0
      have hgk := Hk.out
      subst hgk
      have hb1 := Hp.out.b1
      have g1 := Hp.out.c1
      have hhd := Hp.out.hd
      rw [← HN.out] at hhd
      go_wp2_with (at_builtin; refine wpList_copy_frames rfl rfl rfl wr pb fb cap p N Hp.out HN.out rfl rfl rfl ?_; intro g c w3 hg1 hg2 hg3 hg4 hg5; have Hg1 := Lib.hid hg1; have Hg2 := Lib.hid hg2; have Hg5 := Lib.hid hg5; have g3 := (hg5.cell (p := ⟨pb, 1, none⟩) hb1).trans g1; clear hg1 hg2 hg5)
      have hg6 : Upd (Of pb fb) w w3 := HuW.out.trans (Upd.of_below Hg5.out)
      have Hg6 := Lib.hid hg6; clear hg6
      have hpg : pb ≠ g := by omega
      have g4 := (Hg5.out.cell (p := ⟨pb, 0, none⟩) hb1).trans g0
      have y0 := (Hg5.out.frozen (p := ⟨pb, 0, none⟩) hb1).trans (Hp.out.z1 0)
      have y1 := (Hg5.out.frozen (p := ⟨pb, 1, none⟩) hb1).trans (Hp.out.z1 1)
      have hww : w.heap.size ≤ wr.heap.size := HuW.out.size
      by_cases hr : skips isRoom p.frames < p.frames.length
      · have hid : idxOf isRoom p.frames = (skips isRoom p.frames : Int) := by rw [idxOf, if_pos hr]
        rw [hid]
        clear hid
        obtain ⟨i, hi⟩ : ∃ i, i = skips isRoom p.frames := ⟨_, rfl⟩
        rw [← hi]
        have hiN : i < N := by rw [HN.out, hi]; exact hr
        have Hi := Lib.hid hi; have Hr := Lib.hid hr; clear hi hr
        go_loopg [6, 9, 10] 0 (fun k x h y wr2 => x = .int .i64 i ∧ h = .int .i64 p.hand ∧ y = .int .i64 0 ∧ wr2 = w3)
        case atStart => exact ⟨rfl, rfl, rfl, rfl⟩
        case round =>
          obtain ⟨rfl, rfl, rfl, rfl⟩ := hrel
          have hni : ¬ (i : Int) < 0 := by omega
          have fr := Hg1.out.four i (by rw [← HN.out]; exact hiN)
          obtain ⟨f0, f1, f2, f3⟩ := fr
          have z2 := Hg2.out (i * 4)
          have z3 := Hg2.out (i * 4 + 1)
          have z4 := Hg2.out (i * 4 + 2)
          have z5 := Hg2.out (i * 4 + 3)
          go_wp2_with fail
          go_ret2
          refine .inl ⟨Hr.out, rfl, g, c, ?_, ?_, by omega⟩
          · have hm := (Hp.out.moved (c := c) Hg5.out (Upd.refl _ _) hg4 Hg1.out Hg2.out hg3 rfl Hp.out.hd).setAll i (by simp only; rw [← HN.out]; exact hiN) (fresh page)
            rw [← HN.out] at hm
            rw [← Hi.out]
            exact hm
          · have hgw : w.heap.size ≤ g := by omega
            exact (((((Hg6.out.setCell (p := ⟨pb, 0, none⟩) (.inl rfl) _).setCell (p := ⟨pb, 1, none⟩) (.inl rfl) _).setNew (p := ⟨g, _, none⟩) hgw _).setNew (p := ⟨g, _, none⟩) hgw _).setNew (p := ⟨g, _, none⟩) hgw _).setNew (p := ⟨g, _, none⟩) hgw _
      · have hid : idxOf isRoom p.frames = -1 := by rw [idxOf, if_neg hr]
        rw [hid]
        clear hid
        have Hr := Lib.hid hr; clear hr
        obtain ⟨R, hR⟩ : ∃ R, R = spin (2 * N) p := ⟨_, rfl⟩
        have HR := Lib.hid hR; clear hR
        go_loopg [6, 9, 10] (2 * N + 1) (fun k x h y wr2 => ∃ (t : Nat) (pc : Pt), t ≤ 2 * N ∧ k = 2 * N + 1 - t ∧ h = .int .i64 pc.hand ∧ y = .int .i64 t ∧ L2 w3 wr2 g N p pc ∧ ((x = .int .i64 (-1) ∧ spin (2 * N - t) pc = R) ∨ ∃ i : Nat, x = .int .i64 i ∧ i < N ∧ R = some (pc, i)))
        case atStart =>
          refine ⟨0, p, by omega, by omega, rfl, rfl, ⟨Hg1.out, Hg2.out, hg3, HN.out.symm, hhd, rfl, rfl, Upd.refl _ _, Hnn2.out⟩, .inl ⟨rfl, ?_⟩⟩
          rw [HR.out]; rfl
        case round =>
          obtain ⟨t, pc, ht, hk2, rfl, rfl, hl2, hcase⟩ := hrel
          have Hk2 := Lib.hid hk2; clear hk2
          have Hl2 := Lib.hid hl2; clear hl2
          have hpcl : pc.hand < pc.frames.length := by rw [Hl2.out.len]; exact Hl2.out.hd
          have hpcN : pc.hand < N := Hl2.out.hd
          have Hlen := Lib.hid Hl2.out.len
          rcases hcase with ⟨rfl, hsp⟩ | ⟨i, rfl, hiN, hRs⟩
          · have Hsp := Lib.hid hsp; clear hsp
            by_cases htN : t < 2 * N
            · have htt : (t : Int) < 2 * (N : Int) := by omega
              obtain ⟨m, hm⟩ : ∃ m, 2 * N - t = m + 1 := ⟨2 * N - t - 1, by omega⟩
              have hs1 : spin (m + 1) pc = R := by rw [← hm]; exact Hsp.out
              have Hs1 := Lib.hid hs1
              have Hm := Lib.hid hm
              clear hs1 hm Hsp htN
              obtain ⟨f0, f1, f2, f3⟩ := Hl2.out.fr.four pc.hand hpcl
              have z5 := Hl2.out.fz (pc.hand * 4 + 3)
              have hnn := Hl2.out.nn _ (List.getElem_mem hpcl)
              have hmodN : ((pc.hand : Int) + 1) % (N : Int) = (((pc.hand + 1) % N : Nat) : Int) := next_hand _ _
              have HmodN := Lib.hid hmodN; clear hmodN
              have hlt2 : (pc.hand + 1) % N < N := Nat.mod_lt _ (by omega)
              have Hlt2 := Lib.hid hlt2; clear hlt2
              by_cases hh : pc.frames[pc.hand].held = 0
              · have hh0 : (pc.frames[pc.hand].held == 0) = true := by rw [hh]; rfl
                have hng0 : ¬ 0 < pc.frames[pc.hand].held := by omega
                clear hh
                cases hto : pc.frames[pc.hand].touched with
                | false =>
                  have hk := tick_stop pc hpcl hng0 hto
                  have hRR : R = some ({ pc with hand := (pc.hand + 1) % N }, pc.hand) := by
                    rw [← Hs1.out]; simp only [spin, hk, if_true]; rw [Hlen.out]
                  have HRR := Lib.hid hRR
                  rw [hto] at f3
                  clear hk hRR hto hng0
                  go_wp2_with fail
                  rw [HmodN.out]
                  go_roundg (2 * N + 1 - (t + 1))
                  case measure => have := Hk2.out; omega
                  case rel => exact ⟨t + 1, { pc with hand := (pc.hand + 1) % N }, by omega, rfl, rfl, by go_num, Hl2.out.turn _ Hlt2.out, .inr ⟨pc.hand, rfl, hpcN, HRR.out⟩⟩
                | true =>
                  have hk := tick_touched pc hpcl hng0 hto
                  have hRR : spin m { pc with hand := (pc.hand + 1) % N, frames := pc.frames.set pc.hand { pc.frames[pc.hand] with touched := false } } = R := by
                    rw [← Hs1.out]; simp only [spin, hk, Bool.false_eq_true, if_false]; rw [Hlen.out]
                  have HRR := Lib.hid hRR
                  rw [hto] at f3
                  clear hk hRR hto hng0
                  go_wp2_with fail
                  rw [HmodN.out]
                  go_roundg (2 * N + 1 - (t + 1))
                  case measure => have := Hk2.out; omega
                  case rel => exact ⟨t + 1, { pc with hand := (pc.hand + 1) % N, frames := pc.frames.set pc.hand { pc.frames[pc.hand] with touched := false } }, by omega, rfl, rfl, by go_num, (Hl2.out.mark pc.hand hpcl).turn _ Hlt2.out, .inl ⟨rfl, by rw [show 2 * N - (t + 1) = m from by have := Hm.out; omega]; exact HRR.out⟩⟩
              · have hh0 : (pc.frames[pc.hand].held == 0) = false := by rw [beq_eq_false_iff_ne]; exact hh
                have hk := tick_held pc hpcl (by omega)
                have hRR : spin m { pc with hand := (pc.hand + 1) % N } = R := by
                  rw [← Hs1.out]; simp only [spin, hk, Bool.false_eq_true, if_false]; rw [Hlen.out]
                have HRR := Lib.hid hRR
                clear hk hRR hh
                go_wp2_with fail
                rw [HmodN.out]
                go_roundg (2 * N + 1 - (t + 1))
                case measure => have := Hk2.out; omega
                case rel => exact ⟨t + 1, { pc with hand := (pc.hand + 1) % N }, by omega, rfl, rfl, by go_num, Hl2.out.turn _ Hlt2.out, .inl ⟨rfl, by rw [show 2 * N - (t + 1) = m from by have := Hm.out; omega]; exact HRR.out⟩⟩
            · have htt : ¬ (t : Int) < 2 * (N : Int) := by omega
              have ht2 : t = 2 * N := by omega
              have hs0 : R = none := by
                have := Hsp.out
                rw [ht2, Nat.sub_self] at this
                exact this.symm
              have Hs0 := Lib.hid hs0
              clear hs0 ht2 htN Hsp
              go_wp2_with fail
              go_ret2
              refine .inr (.inr ⟨Hr.out, by rw [← HN.out, ← HR.out, Hs0.out], rfl, ?_, ?_⟩)
              · exact (Hp.out.below Hg5.out).upd Hl2.out.up hpg (by have := Hp.out.b2; omega)
              · exact Hg6.out.new Hl2.out.up (by omega)
          · have hni : ¬ (i : Int) < 0 := by omega
            have hil : i < pc.frames.length := by rw [Hlen.out]; exact hiN
            obtain ⟨f0, f1, f2, f3⟩ := Hl2.out.fr.four i hil
            have z2 := Hl2.out.fz (i * 4)
            have z3 := Hl2.out.fz (i * 4 + 1)
            have z4 := Hl2.out.fz (i * 4 + 2)
            have z5 := Hl2.out.fz (i * 4 + 3)
            have x4 := (Hl2.out.up.cell (p := ⟨pb, 0, none⟩) (by have := Hg5.out.size; simp only; omega) hpg).trans g4
            have x3 := (Hl2.out.up.cell (p := ⟨pb, 1, none⟩) (by have := Hg5.out.size; simp only; omega) hpg).trans g3
            have x0 := (Hl2.out.up.frozen (p := ⟨pb, 0, none⟩) (by have := Hg5.out.size; simp only; omega) hpg).trans y0
            have x1 := (Hl2.out.up.frozen (p := ⟨pb, 1, none⟩) (by have := Hg5.out.size; simp only; omega) hpg).trans y1
            have HRs := Lib.hid hRs; clear hRs
            have htlt : (t : Int) < 2 * (N : Int) ∨ ¬ (t : Int) < 2 * (N : Int) := by omega
            rcases htlt with htlt | htlt
            all_goals
              go_wp2_with fail
              go_ret2
              refine .inr (.inl ⟨Hr.out, pc, i, by rw [← HN.out, ← HR.out, HRs.out], rfl, g, c, ?_, ?_, by omega⟩)
              · have hm := (Hp.out.moved (c := c) (h := pc.hand) (xs := pc.frames) Hg5.out Hl2.out.up hg4 Hl2.out.fr Hl2.out.fz Hl2.out.lt (by rw [Hlen.out, HN.out]) (by rw [← HN.out]; exact hpcN)).setAll i hil (fresh page)
                rw [← HN.out] at hm
                have hpe : ({ p with frames := pc.frames, hand := pc.hand } : Pt) = pc := (spin_pt Hl2.out.hits Hl2.out.misses pc.frames pc.hand).symm
                rw [hpe] at hm
                exact hm
              · have hgw : w.heap.size ≤ g := by omega
                exact ((((((Hg6.out.new Hl2.out.up hgw).setCell (p := ⟨pb, 0, none⟩) (.inl rfl) _).setCell (p := ⟨pb, 1, none⟩) (.inl rfl) _).setNew (p := ⟨g, _, none⟩) hgw _).setNew (p := ⟨g, _, none⟩) hgw _).setNew (p := ⟨g, _, none⟩) hgw _).setNew (p := ⟨g, _, none⟩) hgw _
end Go.Proofs.Ytdblpcfkiiliiaa
