/- The document's part of a cache: touch in one form, counts, twin; Right. -/
import Derived.Test.YtdblpcfkiiliiaaR2
import Derived.Test.YtdblpcfkiiliiaaD0
import Derived.RegionTactic
set_option linter.unusedVariables false
set_option linter.unusedSimpArgs false
namespace Go.Proofs.Ytdblpcfkiiliiaa
open Go.RowKit

theorem spin_more (n : Nat) : ∀ {p : Pt} {r : Pt × Nat}, spin n p = some r → spin (n + 1) p = some r := by
  induction n with
  | zero => intro p r h; simp [spin] at h
  | succ n ih =>
    intro p r h
    simp only [spin] at h
    rw [spin]
    split at h
    · rename_i e; rw [if_pos e]; exact h
    · rename_i e; rw [if_neg e]; exact ih h
theorem spin_soon (p : Pt) (hh : p.hand < p.frames.length) (hl : skips isLoose p.frames < p.frames.length) : ∃ q i, spin (2 * p.frames.length) p = some (q, i) := by
  have hx : p.frames[skips isLoose p.frames].held = 0 := by
    have h := skips_at isLoose p.frames _ hl (Nat.le_refl _)
    cases e : isLoose p.frames[skips isLoose p.frames] with
    | true => simpa [isLoose] using e
    | false => have := h.2 e; omega
  have hd : ∃ d, d < p.frames.length ∧ (p.hand + d) % p.frames.length = skips isLoose p.frames := by
    by_cases e : p.hand ≤ skips isLoose p.frames
    · exact ⟨skips isLoose p.frames - p.hand, by omega, by rw [show p.hand + (skips isLoose p.frames - p.hand) = skips isLoose p.frames from by omega]; exact Nat.mod_eq_of_lt hl⟩
    · exact ⟨p.frames.length + skips isLoose p.frames - p.hand, by omega, by rw [show p.hand + (p.frames.length + skips isLoose p.frames - p.hand) = skips isLoose p.frames + p.frames.length from by omega, Nat.add_mod_right]; exact Nat.mod_eq_of_lt hl⟩
  obtain ⟨d, h1, h2⟩ := hd
  exact spin_loose d p _ hl hh hx h2 _ (by omega)
theorem not_first {p : Fr → Bool} {xs : List Fr} (h : ¬ skips p xs < xs.length) : ∀ x ∈ xs, p x = false := by
  induction xs with
  | nil => intro x hx; cases hx
  | cons y xs ih =>
    intro x hx
    simp only [skips, List.length_cons] at h
    by_cases hy : p y = true
    · simp [hy] at h
    · have hy' : p y = false := by simpa using hy
      simp only [hy', Bool.false_eq_true, if_false] at h
      rcases List.mem_cons.1 hx with rfl | hx
      · exact hy'
      · exact ih (by omega) x hx
theorem spin_tight (n : Nat) : ∀ (p : Pt), p.hand < p.frames.length → (∀ f ∈ p.frames, 0 < f.held) → spin n p = none := by
  induction n with
  | zero => intro p _ _; rfl
  | succ n ih =>
    intro p hh ht
    have hk := tick_held p hh (ht _ (List.getElem_mem hh))
    simp only [spin, hk, Bool.false_eq_true, if_false]
    exact ih { p with hand := (p.hand + 1) % p.frames.length } (Nat.mod_lt _ (by omega)) ht

theorem rtouch_any (w : World) (pb fb cap : Nat) (p : Pt) (h : RpAt w pb fb cap p) (page : Int) (hok : p.ok 1000000) :
    Calls Try.prog 24 #[.pointer (some ⟨pb, 0, none⟩), .int .i64 page] w fun e w' => e = .returned (.tuple #[.bool (touch p page).2.1, .int .i64 (touch p page).2.2]) ∧
      ∃ g c, RpAt w' pb g c (touch p page).1 ∧ Upd (Of pb fb) w w' ∧ (g = fb ∨ w.heap.size ≤ g) := by
  unfold touch
  cases hf : firstOf (isPage page) p.frames with
  | some i =>
    refine (rtouch_hit w pb fb cap p h page i hf hok.h0 hok.h1).mono ?_
    rintro e w' ⟨h1, h2, h3⟩
    exact ⟨h1, fb, cap, h2, h3, .inl rfl⟩
  | none =>
    refine (rtouch_miss w pb fb cap p _ rfl h page hf hok.m0 hok.m1 (fun f hf => (hok.fr f hf).1)).mono ?_
    rintro e w' (⟨hr, h1, g, c, h2, h3, h4⟩ | ⟨hr, q, i, hs, h1, g, c, h2, h3, h4⟩ | ⟨hr, hs, h1, h2, h3⟩)
    · simp only at hr h2
      rw [if_pos hr]
      exact ⟨h1, g, c, h2, h3, .inr h4⟩
    · simp only at hr hs
      rw [if_neg hr]
      have hl : skips isLoose p.frames < p.frames.length := by
        refine Classical.byContradiction fun hl => ?_
        have ht := spin_tight (2 * p.frames.length) { p with misses := p.misses + 1 } h.hd (fun f hf => by
          have h1 := not_first hl f hf
          have h2 := (hok.fr f hf).1
          simp [isLoose] at h1
          omega)
        rw [ht] at hs; cases hs
      rw [if_pos hl, spin_more _ hs]
      exact ⟨h1, g, c, h2, h3, .inr h4⟩
    · simp only at hr hs
      rw [if_neg hr]
      have hl : ¬ skips isLoose p.frames < p.frames.length := by
        intro hl
        obtain ⟨q, i, ht⟩ := spin_soon { p with misses := p.misses + 1 } h.hd hl
        simp only at ht
        rw [ht] at hs; cases hs
      rw [if_neg hl]
      exact ⟨h1, fb, cap, h2, h3, .inl rfl⟩

theorem rcounts_any (w : World) (pb fb cap : Nat) (p : Pt) (h : RpAt w pb fb cap p) :
    Calls Try.prog 20 #[.pointer (some ⟨pb, 0, none⟩)] w fun e w' => e = .returned (.agg #[.int .i64 p.hits, .int .i64 p.misses, .int .i64 (fulls p.frames), .int .i64 (pins p.frames)]) ∧ Below w.heap.size w w' := by
  have h64 := h.n64
  have hb1 := h.b1
  have hb2 := h.b2
  have c0 := h.c0
  have c2 := h.c2
  have c3 := h.c3
  have Hp := Lib.hid h; clear h
  generalize hN : p.frames.length = N at c0 h64
  have HN := Lib.hid hN; clear hN
  go_enter Try.func20, Try.ntmps20
  go_wp2_with fail
  go_region
  go_wp2_with fail
  go_loopg [20] N (fun k i wr => ∃ j : Nat, j ≤ N ∧ k = N - j ∧ i = .int .i64 j ∧ Cn w wr p.hits p.misses (fulls (p.frames.take j)) (pins (p.frames.take j)))
  case atStart =>
    refine ⟨0, by omega, by omega, rfl, ?_⟩
    refine ⟨(((Below.refl _ _).alloc (Nat.le_refl _) _).alloc (by simp) _).drew, by simp, fun o ho => ?_, by simp [go_sem], by simp [go_sem], by simp [go_sem, fulls], by simp [go_sem, pins], fun o => by simp [go_sem], fun o => by simp [go_sem]⟩
    match o, ho with
    | 0, _ => simp [go_sem]
    | 1, _ => simp [go_sem]
    | 2, _ => simp [go_sem]
    | 3, _ => simp [go_sem]
  case round =>
    obtain ⟨j, hj, hgk, rfl, hcn⟩ := hrel
    clear c0 c2 c3
    by_cases hlt : j < N
    · have hl : j < p.frames.length := by rw [HN.out]; exact hlt
      have fr := Hp.out.fr.four j hl
      obtain ⟨f0, f1, f2, f3⟩ := fr
      have e0 := (hcn.below.cell (p := ⟨fb, j * 4, none⟩) hb2).trans f0
      have e1 := (hcn.below.cell (p := ⟨fb, j * 4 + 1, none⟩) hb2).trans f1
      have e2 := (hcn.below.cell (p := ⟨fb, j * 4 + 2, none⟩) hb2).trans f2
      have e3 := (hcn.below.cell (p := ⟨fb, j * 4 + 3, none⟩) hb2).trans f3
      clear f0 f1 f2 f3
      have g2 := hcn.n2
      have g3 := hcn.n3
      have g4 := hcn.z1 2
      have g5 := hcn.z1 3
      have g6 := hcn.size
      have tf := fulls_take p.frames j hl
      have tp := pins_take p.frames j hl
      have lf := fulls_le (p.frames.take j)
      have lp := pins_le (p.frames.take j)
      have ll : (p.frames.take j).length ≤ j := List.length_take_le _ _
      have lf' : fulls (p.frames.take j) ≤ 64 := by omega
      have lp' : pins (p.frames.take j) ≤ 64 := by omega
      clear lf lp ll
      have Tf := Lib.hid tf; clear tf
      have Tp := Lib.hid tp; clear tp
      have Hcn := Lib.hid hcn; clear hcn
      have Hgk := Lib.hid hgk; clear hgk
      generalize hF : fulls (p.frames.take j) = F at g2 lf'
      generalize hP : pins (p.frames.take j) = Q at g3 lp'
      have HF := Lib.hid hF; clear hF
      have HP := Lib.hid hP; clear hP
      cases hful : p.frames[j].full with
      | false =>
        have Hful := Lib.hid hful
        rw [hful] at e2; clear hful
        by_cases hh : 0 < p.frames[j].held
        · have hc1 := Hcn.out
          rw [HF.out, HP.out] at hc1
          have h0 := ((hc1.setP ((Q : Int) + 1)).alloc #[.int .i64 p.frames[j].page, .int .i64 p.frames[j].held, .bool false, .bool p.frames[j].touched] 53)
          have H0 := Lib.hid h0; clear h0 hc1
          go_wp2_with fail
          go_roundg (N - (j + 1))
          case measure => have := Hgk.out; omega
          case rel =>
            refine ⟨j + 1, by omega, rfl, by go_num, ?_⟩
            rw [Tf.out, Tp.out, Hful.out, HF.out, HP.out, if_pos hh]
            simpa using H0.out
        · have hc1 := Hcn.out
          rw [HF.out, HP.out] at hc1
          have h0 := ((hc1).alloc #[.int .i64 p.frames[j].page, .int .i64 p.frames[j].held, .bool false, .bool p.frames[j].touched] 53)
          have H0 := Lib.hid h0; clear h0 hc1
          go_wp2_with fail
          go_roundg (N - (j + 1))
          case measure => have := Hgk.out; omega
          case rel =>
            refine ⟨j + 1, by omega, rfl, by go_num, ?_⟩
            rw [Tf.out, Tp.out, Hful.out, HF.out, HP.out, if_neg (show ¬ 0 < p.frames[j].held by omega)]
            simpa using H0.out
      | true =>
        have Hful := Lib.hid hful
        rw [hful] at e2; clear hful
        by_cases hh : 0 < p.frames[j].held
        · have hc1 := Hcn.out
          rw [HF.out, HP.out] at hc1
          have h0 := (((hc1.setF ((F : Int) + 1)).setP ((Q : Int) + 1)).alloc #[.int .i64 p.frames[j].page, .int .i64 p.frames[j].held, .bool true, .bool p.frames[j].touched] 53)
          have H0 := Lib.hid h0; clear h0 hc1
          go_wp2_with fail
          go_roundg (N - (j + 1))
          case measure => have := Hgk.out; omega
          case rel =>
            refine ⟨j + 1, by omega, rfl, by go_num, ?_⟩
            rw [Tf.out, Tp.out, Hful.out, HF.out, HP.out, if_pos hh]
            simpa using H0.out
        · have hc1 := Hcn.out
          rw [HF.out, HP.out] at hc1
          have h0 := ((hc1.setF ((F : Int) + 1)).alloc #[.int .i64 p.frames[j].page, .int .i64 p.frames[j].held, .bool true, .bool p.frames[j].touched] 53)
          have H0 := Lib.hid h0; clear h0 hc1
          go_wp2_with fail
          go_roundg (N - (j + 1))
          case measure => have := Hgk.out; omega
          case rel =>
            refine ⟨j + 1, by omega, rfl, by go_num, ?_⟩
            rw [Tf.out, Tp.out, Hful.out, HF.out, HP.out, if_neg (show ¬ 0 < p.frames[j].held by omega)]
            simpa using H0.out
    · have hjn : j = N := by omega
      have ht : p.frames.take j = p.frames := List.take_of_length_le (by have := HN.out; omega)
      have Ht := Lib.hid ht; clear ht hjn
      rw [Ht.out] at hcn
      have g0 := hcn.n0
      have g1 := hcn.n1
      have g2 := hcn.n2
      have g3 := hcn.n3
      have r0 := hcn.r 0 (by omega)
      have r1 := hcn.r 1 (by omega)
      have r2 := hcn.r 2 (by omega)
      have r3 := hcn.r 3 (by omega)
      have z0 := hcn.z0 0
      have z1 := hcn.z0 1
      have z2 := hcn.z0 2
      have z3 := hcn.z0 3
      have hbl := hcn.below
      clear hcn hgk
      go_wp2_with fail
      exact bodyPost_ret (v := .agg #[.int .i64 p.hits, .int .i64 p.misses, .int .i64 (fulls p.frames), .int .i64 (pins p.frames)]) (by simp [results, Try.results20, go_sem, r0, r1, r2, r3]) rfl ⟨rfl, (((hbl.setCell (by simp) _).setCell (by simp) _).setCell (by simp) _).setCell (by simp) _⟩

/-! ### twin -/
def actB (p : Pt) (k page : Int) : Bool := (act p k page).2.1
theorem twin_any (w : World) (pb fb cap : Nat) (p : Pt) (h : RpAt w pb fb cap p) (kind T page : Int) (hok : p.ok 1000000) :
    Calls Try.prog 19 #[.pointer (some ⟨pb, 0, none⟩), .agg #[.int .i64 kind, .int .i64 T, .int .i64 page]] w fun e w' => e = .returned (.tuple #[.bool (act p (kd kind) page).2.1, .int .i64 (act p (kd kind) page).2.2]) ∧
      ∃ g c, RpAt w' pb g c (act p (kd kind) page).1 ∧ Upd (Of pb fb) w w' ∧ (g = fb ∨ w.heap.size ≤ g) := by
  have hbel : Below w.heap.size w (w.alloc (.cells #[.int .i64 kind, .int .i64 T, .int .i64 page] 43)) := (Below.refl _ _).alloc (Nat.le_refl _) _
  have hsz : (w.alloc (.cells #[.int .i64 kind, .int .i64 T, .int .i64 page] 43)).heap.size = w.heap.size + 1 := by simp
  have H := Lib.hid (h.below hbel)
  have Hu := Lib.hid (show Upd (Of pb fb) w (w.alloc (.cells #[.int .i64 kind, .int .i64 T, .int .i64 page] 43)) from Upd.of_below hbel)
  have Hsz := Lib.hid hsz
  have hb1 := h.b1
  have hb2 := h.b2
  have h64 := h.n64
  clear h hbel hsz
  go_enter Try.func19, Try.ntmps19
  go_wp2_with fail
  · have e0 : ((IntKind.u64.wrap kind).tmod 5 == 0) = true := by assumption
    refine (rtouch_any _ pb fb cap p H.out page hok).mono ?_
    rintro e w' ⟨rfl, h1⟩
    have H1 := Lib.hid h1; clear h1
    go_wp2_with fail
    go_ret2
    have ea : act p (kd kind) page = touch p page := by unfold act kd; rw [if_pos e0]
    rw [ea]
    obtain ⟨g, c, h1, h2, h3⟩ := H1.out
    exact ⟨rfl, g, c, h1, Hu.out.trans h2, h3.imp id (fun x => by have := Hsz.out; omega)⟩
  · have e0 : ((IntKind.u64.wrap kind).tmod 5 == 0) = false := by assumption
    refine (rfind_any _ pb fb cap p H.out page).mono ?_
    rintro e w1 ⟨rfl, hb⟩
    have H1 := Lib.hid (H.out.below hb)
    have Hu1 := Lib.hid (Hu.out.trans (Upd.of_below hb))
    have x0 := (hb.cell (p := ⟨w.heap.size, 0, none⟩) (by rw [Hsz.out]; simp)).trans (show _ = some (Value.int .i64 kind) by simp)
    clear hb
    cases hf : firstOf (isPage page) p.frames with
    | none =>
      have hx : idxOf (isPage page) p.frames = -1 := by
        unfold firstOf at hf
        unfold idxOf
        split at hf
        · cases hf
        · rename_i hl; rw [if_neg hl]
      have ea : act p (kd kind) page = (p, false, 0) := by
        unfold act kd hold release drop has
        rw [if_neg (by simp [e0]), hf]
        split <;> (try rfl)
        split <;> (try rfl)
        split <;> rfl
      have Ea := Lib.hid ea
      rw [hx]
      clear hf hx ea
      go_wp2_with fail
      go_ret2
      rw [Ea.out]
      exact ⟨rfl, fb, cap, H1.out, Hu1.out, .inl rfl⟩
    | some i =>
      obtain ⟨hi, _⟩ := firstOf_some hf
      have hx : idxOf (isPage page) p.frames = i := by
        unfold firstOf at hf
        unfold idxOf
        split at hf
        · rename_i hl; rw [if_pos hl]; injection hf with hf; rw [hf]
        · cases hf
      rw [hx]
      have Hf := Lib.hid hf
      have c0 := H1.out.c0
      obtain ⟨f0, f1, f2, f3⟩ := H1.out.fr.four i hi
      have z0 := H1.out.z2 (i * 4)
      have z1 := H1.out.z2 (i * 4 + 1)
      have z2 := H1.out.z2 (i * 4 + 2)
      have z3 := H1.out.z2 (i * 4 + 3)
      have hh := hok.fr _ (List.getElem_mem hi)
      obtain ⟨hh0, hh1⟩ := hh
      clear hx hf
      have hfa : frameAt p i = p.frames[i] := frameAt_eq p i hi
      have Hfa := Lib.hid hfa; clear hfa
      by_cases k1 : ((IntKind.u64.wrap kind).tmod 5 == 1) = true
      · go_wp2_with fail
        go_ret2
        have ea : act p (kd kind) page = ({ p with frames := p.frames.set i { p.frames[i] with held := p.frames[i].held + 1 } }, true, 0) := by
          unfold act kd hold; rw [if_neg (by simp [e0]), if_pos k1, Hf.out]; simp only [Hfa.out]
        rw [ea]
        exact ⟨rfl, fb, cap, H1.out.setFrame i hi 1 (by omega) { p.frames[i] with held := p.frames[i].held + 1 } (fun j hj hne => by match j, hj with | 0, _ => rfl | 1, _ => exact absurd rfl hne | 2, _ => rfl | 3, _ => rfl), Hu1.out.setCell (.inr rfl) _, .inl rfl⟩
      · have k1 : ((IntKind.u64.wrap kind).tmod 5 == 1) = false := by simpa using k1
        by_cases k2 : ((IntKind.u64.wrap kind).tmod 5 == 2) = true
        · by_cases hz : p.frames[i].held = 0
          · have hzb : (p.frames[i].held == 0) = true := by rw [hz]; rfl
            have Hz := Lib.hid hz; clear hz
            go_wp2_with fail
            go_ret2
            have ea : act p (kd kind) page = (p, false, 0) := by
              unfold act kd release; rw [if_neg (by simp [e0]), if_neg (by simp [k1]), if_pos k2, Hf.out]; simp only [Hfa.out]; rw [if_pos Hz.out]
            rw [ea]
            exact ⟨rfl, fb, cap, H1.out, Hu1.out, .inl rfl⟩
          · have hzb : (p.frames[i].held == 0) = false := by rw [beq_eq_false_iff_ne]; exact hz
            have Hz := Lib.hid hz; clear hz
            go_wp2_with fail
            go_ret2
            have ea : act p (kd kind) page = ({ p with frames := p.frames.set i { p.frames[i] with held := p.frames[i].held - 1 } }, true, 0) := by
              unfold act kd release; rw [if_neg (by simp [e0]), if_neg (by simp [k1]), if_pos k2, Hf.out]; simp only [Hfa.out]; rw [if_neg Hz.out]
            rw [ea]
            exact ⟨rfl, fb, cap, H1.out.setFrame i hi 1 (by omega) { p.frames[i] with held := p.frames[i].held - 1 } (fun j hj hne => by match j, hj with | 0, _ => rfl | 1, _ => exact absurd rfl hne | 2, _ => rfl | 3, _ => rfl), Hu1.out.setCell (.inr rfl) _, .inl rfl⟩
        · have k2 : ((IntKind.u64.wrap kind).tmod 5 == 2) = false := by simpa using k2
          by_cases k3 : ((IntKind.u64.wrap kind).tmod 5 == 3) = true
          · by_cases hz : 0 < p.frames[i].held
            · go_wp2_with fail
              go_ret2
              have ea : act p (kd kind) page = (p, false, 0) := by
                unfold act kd drop; rw [if_neg (by simp [e0]), if_neg (by simp [k1]), if_neg (by simp [k2]), if_pos k3, Hf.out]; simp only [Hfa.out]; rw [if_pos hz]
              rw [ea]
              exact ⟨rfl, fb, cap, H1.out, Hu1.out, .inl rfl⟩
            · go_wp2_with fail
              go_ret2
              have ea : act p (kd kind) page = ({ p with frames := p.frames.set i Fr.zero }, true, 0) := by
                unfold act kd drop; rw [if_neg (by simp [e0]), if_neg (by simp [k1]), if_neg (by simp [k2]), if_pos k3, Hf.out]; simp only [Hfa.out]; rw [if_neg (by omega)]
              rw [ea]
              exact ⟨rfl, fb, cap, H1.out.setAll i hi Fr.zero, (((Hu1.out.setCell (.inr rfl) _).setCell (.inr rfl) _).setCell (.inr rfl) _).setCell (.inr rfl) _, .inl rfl⟩
          · have k3 : ((IntKind.u64.wrap kind).tmod 5 == 3) = false := by simpa using k3
            go_wp2_with fail
            go_ret2
            have ea : act p (kd kind) page = (p, true, 0) := by
              unfold act kd has; rw [if_neg (by simp [e0]), if_neg (by simp [k1]), if_neg (by simp [k2]), if_neg (by simp [k3]), Hf.out]; rfl
            rw [ea]
            exact ⟨rfl, fb, cap, H1.out, Hu1.out, .inl rfl⟩

/-! ### Right -/
/-- numbers are read, from wherever -/
def NumsAt (w : World) (A : Option Addr) (xs : List Int) : Prop := ∀ i, ∀ h : i < xs.length, ∃ b off, A = some ⟨b, off, none⟩ ∧ b < w.heap.size ∧ w.cell? ⟨b, off + i, none⟩ = some (.int .i64 xs[i])
theorem NumsAt.below {w w' : World} {A : Option Addr} {xs : List Int} (h : NumsAt w A xs) (hb : Below w.heap.size w w') : NumsAt w' A xs := fun i hi => by
  obtain ⟨b, off, hA, hbs, h1⟩ := h i hi
  exact ⟨b, off, hA, Nat.lt_of_lt_of_le hbs hb.size, (hb.cell (p := ⟨b, off + i, none⟩) hbs).trans h1⟩
theorem right_wrong (w : World) (A : Option Addr) (n c : Nat) (xs : List Int) (hn : xs.length = n) (hm : n ≤ 1000) (hx : NumsAt w A xs) (m : Nat) (hml : m < n) (hr : ∀ i, ∀ h : i < xs.length, i < m → 1 ≤ xs[i] ∧ xs[i] ≤ 64) (hb : ∀ h : m < xs.length, xs[m] < 1 ∨ 64 < xs[m]) :
    Calls Try.prog 12 #[.slice A n c] w fun e w' => e = .returned (.bool false) ∧ w = w' := by
  have Hx := Lib.hid hx; clear hx
  have Hr := Lib.hid hr; clear hr
  have Hb := Lib.hid hb; clear hb
  have Hn := Lib.hid hn; clear hn
  go_enter Try.func12, Try.ntmps12
  go_wp2_with fail
  go_loopg [7] m (fun k i wr => ∃ j : Nat, j ≤ m ∧ k = m - j ∧ i = .int .i64 j ∧ wr = w)
  case atStart => exact ⟨0, by omega, by omega, rfl, rfl⟩
  case round =>
    obtain ⟨j, hj, hk, rfl, rfl⟩ := hrel
    have Hk := Lib.hid hk; clear hk
    have hjn : j < n := by omega
    have hl : j < xs.length := by rw [Hn.out]; exact hjn
    obtain ⟨b, off, hA, hbs, hc⟩ := Hx.out j hl
    subst hA
    by_cases hjm : j < m
    · obtain ⟨h1, h2⟩ := Hr.out j hl hjm
      have h3 : ¬ xs[j] < 1 := by omega
      go_wp2_with fail
      go_roundg (m - (j + 1))
      case measure => have := Hk.out; omega
      case rel => exact ⟨j + 1, by omega, rfl, by go_num, rfl⟩
    · have hjm' : j = m := by omega
      subst hjm'
      have hbad := Hb.out hl
      by_cases h1 : xs[j] < 1
      · have hd : decide (xs[j] < 1) = true := by simpa using h1
        clear hbad
        go_wp2_with fail
        go_ret
        exact ⟨rfl, rfl⟩
      · have h2 : 64 < xs[j] := by omega
        clear hbad
        go_wp2_with fail
        go_ret
        exact ⟨rfl, rfl⟩
theorem right_all (w : World) (A : Option Addr) (n c : Nat) (xs : List Int) (hn : xs.length = n) (hm : n ≤ 1000) (hx : NumsAt w A xs) (hr : ∀ i, ∀ h : i < xs.length, 1 ≤ xs[i] ∧ xs[i] ≤ 64) (bo : Bool) (hbo : bo = (decide (1 ≤ n) && decide (n ≤ 8))) :
    Calls Try.prog 12 #[.slice A n c] w fun e w' => e = .returned (.bool bo) ∧ w = w' := by
  have Hx := Lib.hid hx; clear hx
  have Hr := Lib.hid hr; clear hr
  have Hn := Lib.hid hn; clear hn
  have Hbo := Lib.hid hbo; clear hbo
  go_enter Try.func12, Try.ntmps12
  go_wp2_with fail
  go_loopg [7] n (fun k i wr => ∃ j : Nat, j ≤ n ∧ k = n - j ∧ i = .int .i64 j ∧ wr = w)
  case atStart => exact ⟨0, by omega, by omega, rfl, rfl⟩
  case round =>
    obtain ⟨j, hj, hk, rfl, rfl⟩ := hrel
    have Hk := Lib.hid hk; clear hk
    by_cases hjn : j < n
    · have hl : j < xs.length := by rw [Hn.out]; exact hjn
      obtain ⟨b, off, hA, hbs, hc⟩ := Hx.out j hl
      subst hA
      obtain ⟨h1, h2⟩ := Hr.out j hl
      have h3 : ¬ xs[j] < 1 := by omega
      go_wp2_with fail
      go_roundg (n - (j + 1))
      case measure => have := Hk.out; omega
      case rel => exact ⟨j + 1, by omega, rfl, by go_num, rfl⟩
    · by_cases h1 : 1 ≤ n
      · by_cases h8 : n ≤ 8
        · have hbt : bo = true := by rw [Hbo.out]; simp [h1, h8]
          subst hbt
          go_wp2_with fail
          go_ret
          exact ⟨by show Ending.returned (Value.bool (decide ((n : Int) ≤ 8))) = _; rw [decide_eq_true (by omega)], rfl⟩
        · have hbt : bo = false := by rw [Hbo.out]; simp; omega
          subst hbt
          go_wp2_with fail
          go_ret
          exact ⟨by show Ending.returned (Value.bool (decide ((n : Int) ≤ 8))) = _; rw [decide_eq_false (by omega)], rfl⟩
      · have hbt : bo = false := by rw [Hbo.out]; simp; omega
        subst hbt
        have hd : decide (1 ≤ n) = false := by simpa using h1
        go_wp2_with fail
        go_ret
        exact ⟨rfl, rfl⟩
end Go.Proofs.Ytdblpcfkiiliiaa
