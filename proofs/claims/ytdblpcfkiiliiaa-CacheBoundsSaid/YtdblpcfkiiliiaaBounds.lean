/- The walk of CacheBounds. -/
import Derived.Test.YtdblpcfkiiliiaaD1
import Derived.Test.YtdblpcfkiiliiaaE1
import Derived.Test.YtdblpcfkiiliiaaFits
import Derived.Deep.DeepCutAuto
set_option linter.unusedVariables false
set_option linter.unusedSimpArgs false
namespace Go.Proofs.Ytdblpcfkiiliiaa
open Go.RowKit

/-- sixteen numbers in a block -/
def HA (hd : Nat → Int) : Array Value := ((List.range 16).map fun n => Value.int .i64 (hd n)).toArray
theorem HA_at (hd : Nat → Int) (n : Nat) (h : n < 16) : (HA hd)[n]? = some (.int .i64 (hd n)) := by simp [HA, h]
theorem HA_set (hd : Nat → Int) (y : Nat) (h : y < 16) (v : Int) : (HA hd).setIfInBounds y (.int .i64 v) = HA (fun n => if n = y then v else hd n) := by
  unfold HA
  simp only [List.setIfInBounds_toArray]
  congr 1
  apply List.ext_getElem?
  intro i
  by_cases e : i = y
  · subst e; simp [h]
  · have e' : ¬ y = i := fun h => e h.symm
    rw [List.getElem?_set_ne e']
    simp only [List.getElem?_map, List.getElem?_range]
    by_cases hi : i < 16
    · simp [hi, e]
    · simp [hi]
theorem run_index16 (hd : Nat → Int) (j : Nat) (hj : j < 16) (w : World) : (Instr.index 56 (.agg (HA hd)) (.int .i64 (j : Int))).run Try.prog w = .ok (.int .i64 (hd j)) w := by
  have h0 : (Instr.index 56 (.agg (HA hd)) (.int .i64 0)).run Try.prog w = .ok (.int .i64 (hd 0)) w := by kernel_rfl
  have h1 : (Instr.index 56 (.agg (HA hd)) (.int .i64 1)).run Try.prog w = .ok (.int .i64 (hd 1)) w := by kernel_rfl
  have h2 : (Instr.index 56 (.agg (HA hd)) (.int .i64 2)).run Try.prog w = .ok (.int .i64 (hd 2)) w := by kernel_rfl
  have h3 : (Instr.index 56 (.agg (HA hd)) (.int .i64 3)).run Try.prog w = .ok (.int .i64 (hd 3)) w := by kernel_rfl
  have h4 : (Instr.index 56 (.agg (HA hd)) (.int .i64 4)).run Try.prog w = .ok (.int .i64 (hd 4)) w := by kernel_rfl
  have h5 : (Instr.index 56 (.agg (HA hd)) (.int .i64 5)).run Try.prog w = .ok (.int .i64 (hd 5)) w := by kernel_rfl
  have h6 : (Instr.index 56 (.agg (HA hd)) (.int .i64 6)).run Try.prog w = .ok (.int .i64 (hd 6)) w := by kernel_rfl
  have h7 : (Instr.index 56 (.agg (HA hd)) (.int .i64 7)).run Try.prog w = .ok (.int .i64 (hd 7)) w := by kernel_rfl
  have h8 : (Instr.index 56 (.agg (HA hd)) (.int .i64 8)).run Try.prog w = .ok (.int .i64 (hd 8)) w := by kernel_rfl
  have h9 : (Instr.index 56 (.agg (HA hd)) (.int .i64 9)).run Try.prog w = .ok (.int .i64 (hd 9)) w := by kernel_rfl
  have h10 : (Instr.index 56 (.agg (HA hd)) (.int .i64 10)).run Try.prog w = .ok (.int .i64 (hd 10)) w := by kernel_rfl
  have h11 : (Instr.index 56 (.agg (HA hd)) (.int .i64 11)).run Try.prog w = .ok (.int .i64 (hd 11)) w := by kernel_rfl
  have h12 : (Instr.index 56 (.agg (HA hd)) (.int .i64 12)).run Try.prog w = .ok (.int .i64 (hd 12)) w := by kernel_rfl
  have h13 : (Instr.index 56 (.agg (HA hd)) (.int .i64 13)).run Try.prog w = .ok (.int .i64 (hd 13)) w := by kernel_rfl
  have h14 : (Instr.index 56 (.agg (HA hd)) (.int .i64 14)).run Try.prog w = .ok (.int .i64 (hd 14)) w := by kernel_rfl
  have h15 : (Instr.index 56 (.agg (HA hd)) (.int .i64 15)).run Try.prog w = .ok (.int .i64 (hd 15)) w := by kernel_rfl
  match j, hj with
  | 0, _ => exact h0
  | 1, _ => exact h1
  | 2, _ => exact h2
  | 3, _ => exact h3
  | 4, _ => exact h4
  | 5, _ => exact h5
  | 6, _ => exact h6
  | 7, _ => exact h7
  | 8, _ => exact h8
  | 9, _ => exact h9
  | 10, _ => exact h10
  | 11, _ => exact h11
  | 12, _ => exact h12
  | 13, _ => exact h13
  | 14, _ => exact h14
  | 15, _ => exact h15
  | n + 16, h => omega

structure BdAt (w wr : World) (S C a ca : Nat) (pb fb : Nat → Nat) (q : Nat) (p : Pt) (hd : Nat → Int) (pn B : Int) : Prop where
  c : CaAt wr C a ca pb fb [p]
  s : wr.heap[S]? = some (.cells (HA hd) 56 (0, 0))
  t : Tells p.frames hd
  pin : pn = pins p.frames
  len : p.frames.length = q
  below : Below w.heap.size w wr
  ok : p.ok B
  b0 : ∀ n, hd n ≤ B

theorem page_of (x : Int) : ∃ y : Nat, y < 16 ∧ wrap64 ((IntKind.u64.wrap x).tmod 16) = (y : Int) := by
  have h0 : 0 ≤ IntKind.u64.wrap x := by rw [IntKind.wrap_u64]; omega
  rw [Int.tmod_eq_emod_of_nonneg h0]
  have h1 := Int.emod_nonneg (IntKind.u64.wrap x) (show (16 : Int) ≠ 0 by omega)
  have h2 := Int.emod_lt_of_pos (IntKind.u64.wrap x) (show (0 : Int) < 16 by omega)
  generalize IntKind.u64.wrap x % 16 = y at *
  obtain ⟨y, rfl⟩ := Int.eq_ofNat_of_zero_le h1
  exact ⟨y, by omega, by unfold wrap64; omega⟩

theorem BdAt.grown {w wr w' : World} {S C a ca : Nat} {pb fb : Nat → Nat} {q : Nat} {p : Pt} {hd : Nat → Int} {pn B : Int} (h : BdAt w wr S C a ca pb fb q p hd pn B) (k : Below wr.heap.size wr w') : BdAt w w' S C a ca pb fb q p hd pn B :=
  ⟨h.c.below k, (k.block S ((Array.getElem?_eq_some_iff.1 h.s).1)).trans h.s, h.t, h.pin, h.len, h.below.trans (k.mono h.below.size), h.ok, h.b0⟩
theorem pins_new (q : Nat) : pins (newPt q).frames = 0 := by
  simp only [newPt]
  induction q with
  | zero => rfl
  | succ q ih => rw [List.replicate_succ, pins, ih]; rfl
theorem bd_store {w : World} {S C a ca : Nat} {pb fb : Nat → Nat} {P : Pt} (hc : CaAt w C a ca pb fb [P]) (h1 : C ≠ S) (h2 : a ≠ S) (h3 : pb 0 ≠ S) (h4 : fb 0 ≠ S) (y : Nat) (v : Value) : CaAt (w.setCell ⟨S, y, none⟩ v) C a ca pb fb [P] := by
  have hu : Upd (fun k => k = S) w (w.setCell ⟨S, y, none⟩ v) := Upd.setCell (S := fun k => k = S) (Upd.refl _ w) (p := ⟨S, y, none⟩) rfl _
  refine hc.upd hu h1 h2 (fun t ht => ?_)
  have : t = 0 := by simpa using ht
  subst this
  exact ⟨h3, h4⟩
theorem spin_length (n : Nat) : ∀ {p q : Pt} {i : Nat}, spin n p = some (q, i) → q.frames.length = p.frames.length := by
  induction n with
  | zero => intro p q i h; simp [spin] at h
  | succ n ih =>
    intro p q i h
    simp only [spin] at h
    split at h
    · injection h with h; injection h with h1 _; rw [← h1]; exact (tick_shape p).1
    · exact (ih h).trans (tick_shape p).1
theorem touch_len (p : Pt) (y : Int) : (touch p y).1.frames.length = p.frames.length := by
  unfold touch
  split
  · simp
  · split
    · simp
    · split
      · split
        · rename_i q i hs; simp only [List.length_set]; exact spin_length (p := { p with misses := p.misses + 1 }) _ hs
        · rfl
      · rfl
theorem hold_len (p : Pt) (y : Int) : (hold p y).1.frames.length = p.frames.length := by unfold hold; split <;> simp
theorem release_len (p : Pt) (y : Int) : (release p y).1.frames.length = p.frames.length := by
  unfold release
  split
  · split <;> simp
  · rfl
theorem drop_len (p : Pt) (y : Int) : (drop p y).1.frames.length = p.frames.length := by
  unfold drop
  split
  · split <;> simp
  · rfl

set_option maxHeartbeats 8000000 in
set_option maxRecDepth 100000 in
theorem bounds_walk (w : World) (qq : Int) (A : Option Addr) (n cap : Nat) (xs : List OpD) (hn : xs.length = n) (hm : n ≤ 9223372036854775807) (hx : OpsAt w A xs) :
    Calls Try.prog 6 #[.int .i64 qq, .slice A n cap] w fun e w' => e = .returned (.bool true) ∧ Below w.heap.size w w' := by
  have Hx := Lib.hid hx; clear hx
  have Hn := Lib.hid hn; clear hn
  go_enter Try.func6, Try.ntmps6
  go_wp2_with fail
  refine (first_any w).mono ?_
  rintro e w1 ⟨rfl, hb1⟩
  go_wp2_with fail
  obtain ⟨q, hq1, hq8, hq⟩ := quota_of qq
  rw [hq]
  clear hq
  refine (new_one _ w1.heap.size q hq1 (by omega) (by simp) (by simp)).mono ?_
  rintro e w2 ⟨C, a, ca, pb, fb, rfl, hc, hb2, hp0, hf0⟩
  have hsz : w1.heap.size < w2.heap.size := by have := hb2.size; simp at this; omega
  have hbb : Below w.heap.size w w2 := (hb1.alloc hb1.size _).trans (hb2.mono (by have := hb1.size; simp; omega))
  have hpp : w.heap.size ≤ pb 0 ∧ w.heap.size ≤ fb 0 := by have := hb1.size; simp at hp0 hf0; omega
  have hof : ∀ i, Of (pb 0) (fb 0) i → w.heap.size ≤ i := by rintro i (e | e) <;> omega
  have Hof := Lib.hid hof
  have hpt := hc.pt 0 (by simp)
  have Hlt := Lib.hid (show C < w2.heap.size ∧ a < w2.heap.size ∧ pb 0 < w2.heap.size ∧ fb 0 < w2.heap.size ∧ w.heap.size ≤ w2.heap.size from ⟨hc.bc, hc.ba, hpt.b1, hpt.b2, hbb.size⟩)
  clear hb1 hb2 hp0 hf0 hsz hof hpp hpt
  have Hc := Lib.hid hc; clear hc
  go_wp2_with fail
  go_loopg [9, 34] n (fun k v i wr => ∃ (j : Nat) (p : Pt) (hd : Nat → Int) (pn : Int), j ≤ n ∧ j ≤ 200 ∧ k = n - j ∧ i = .int .i64 j ∧ v = .int .i64 pn ∧ BdAt w wr w2.heap.size C a ca pb fb q p hd pn j)
  case atStart =>
    refine ⟨0, newPt q, fun _ => 0, 0, by omega, by omega, by omega, rfl, rfl, ?_⟩
    refine ⟨Hc.out.below ((Below.refl _ _).alloc (Nat.le_refl _) _), ?_, newPt_tells q, ?_, by simp [newPt], hbb.alloc hbb.size _, newPt_ok q, fun n => by simp⟩
    · exact heap_alloc_new _ _
    · rw [pins_new]; rfl
  case round =>
    obtain ⟨j, p, hd, pn, hj, hj2, hk, rfl, rfl, hbd⟩ := hrel
    have Hk := Lib.hid hk; clear hk hbb Hc
    by_cases hjn : j < n
    · have hlx : j < xs.length := by rw [Hn.out]; exact hjn
      obtain ⟨b, off, hA, hbs, k0, k1, k2⟩ := Hx.out j hlx
      subst hA
      have e0 := (hbd.below.cell (p := ⟨b, off + j * 3, none⟩) hbs).trans k0
      have e1 := (hbd.below.cell (p := ⟨b, off + j * 3 + 1, none⟩) hbs).trans k1
      have e2 := (hbd.below.cell (p := ⟨b, off + j * 3 + 2, none⟩) hbs).trans k2
      clear k0 k1 k2
      have Hbd := Lib.hid hbd; clear hbd
      by_cases hj200 : j < 200
      · have hge : ¬ (200 : Int) ≤ j := by omega
        go_wp2_with fail
        obtain ⟨y, hy16, hy⟩ := page_of xs[j].page
        rw [hy]
        clear hy
        have Hbd0 := Lib.hid (Hbd.out.grown (w' := wr.alloc (.cells #[.int .i64 xs[j].kind, .int .i64 xs[j].tenant, .int .i64 xs[j].page] 43)) ((Below.refl _ _).alloc (Nat.le_refl _) _))
        have Hhand := Lib.hid ((Hbd.out.c.pt 0 (by simp)).hd)
        refine (do0 Hbd0.out.c xs[j].kind y (Hbd0.out.ok.mono (by omega))).mono ?_
        rintro e w4 ⟨rfl, hc4, hu4⟩
        have hbx := (Box.new wr xs[j].kind xs[j].tenant xs[j].page).upd hu4 (by have h1 := (Hbd.out.c.pt 0 (by simp)).b1; have h2 := (Hbd.out.c.pt 0 (by simp)).b2; rintro (e | e) <;> omega)
        have x0 := hbx.c0
        have Hb4 := Lib.hid (Upd.below Hbd0.out.below hu4 Hof.out Hbd0.out.below.size)
        have Hs4 := Lib.hid ((hu4.block w2.heap.size ((Array.getElem?_eq_some_iff.1 Hbd0.out.s).1) (by have := Hlt.out; rintro (e | e) <;> omega)).trans Hbd0.out.s)
        clear hu4 hbx Hbd0 e0 e1 e2
        cases hk0 : ((IntKind.u64.wrap xs[j].kind).tmod 5 == 0) with
        | true =>
          have e0 : ((IntKind.u64.wrap xs[j].kind).tmod 5 == 0) = true := hk0
          have e1 : ((IntKind.u64.wrap xs[j].kind).tmod 5 == 1) = false := by rw [beq_iff_eq] at hk0; rw [hk0]; rfl
          have e2 : ((IntKind.u64.wrap xs[j].kind).tmod 5 == 2) = false := by rw [beq_iff_eq] at hk0; rw [hk0]; rfl
          have e3 : ((IntKind.u64.wrap xs[j].kind).tmod 5 == 3) = false := by rw [beq_iff_eq] at hk0; rw [hk0]; rfl
          have E0 := Lib.hid e0
          have E1 := Lib.hid e1
          have E2 := Lib.hid e2
          have E3 := Lib.hid e3
          have ea : act p (kd xs[j].kind) y = touch p y := by unfold act kd; rw [if_pos E0.out]
          rw [ea] at hc4 ⊢
          clear ea

          obtain ⟨t1, t2, t3⟩ := touch_tells Hbd.out.t Hhand.out y hy16
          have tl := touch_len p y
          have tok := touch_ok Hbd.out.ok (by omega) (y : Int)
          rcases t3 with ⟨t3, t4⟩ | ⟨t3, t4, t5⟩
          · skip
            rw [t3]
            generalize (touch p y).2.1 = bo
            generalize (touch p y).1 = p1 at hc4 t1 t2 t4 tl tok
            have hh := has0 hc4 (y : Int)
            rw [t4] at hh
            have Hh := Lib.hid hh
            have hb1 : BdAt w w4 w2.heap.size C a ca pb fb q p1 hd pn ((j : Int) + 1) := ⟨hc4, Hs4.out, t1, by rw [t2]; exact Hbd.out.pin, tl.trans Hbd.out.len, Hb4.out, tok, fun n => by have := Hbd.out.b0 n; omega⟩
            have Hb0 := Lib.hid hb1
            clear hb1 hc4 hh t1 t2 t3 t4 tl tok
            go_wp2_with fail
            refine Hh.out.mono ?_
            rintro e w5 ⟨rfl, hb5⟩
            have Hb1 := Lib.hid (Hb0.out.grown hb5)
            clear hb5 Hb0 Hh
            have hrow := Hb1.out.s
            have Hfl := Lib.hid (show (fulls p1.frames : Int) ≤ q from by have := fulls_le p1.frames; have := Hb1.out.len; omega)
            have Hpin := Lib.hid Hb1.out.pin
            go_wp2_with (refine wpList_load_row rfl 56 _ rfl w2.heap.size rfl 56 _ (0, 0) _ hrow Try.underlying56 rfl (by kernel_rfl) ?_)
            go_loopg [137] 16 (fun k i wr' => ∃ (t : Nat), t ≤ 16 ∧ k = 16 - t ∧ i = .int .i64 t ∧ BdAt w wr' w2.heap.size C a ca pb fb q p1 hd pn ((j : Int) + 1))
            case atStart => exact ⟨0, by omega, rfl, rfl, Hb1.out⟩
            case round =>
              obtain ⟨t, ht, hk', rfl, hb1⟩ := hrel
              have Hk' := Lib.hid hk'; clear hk' Hb1 hrow
              have Hb1 := Lib.hid hb1; clear hb1
              by_cases ht16 : t < 16
              · have hidx := run_index16 hd t ht16
                obtain ⟨g0, g1⟩ := Hb1.out.t.held_has t ht16
                by_cases gp : 0 < hd t
                · have gh := g1 gp
                  have hh := has0 Hb1.out.c (t : Int)
                  rw [gh] at hh
                  have Hh := Lib.hid hh
                  clear hh gh g1
                  go_wp2_with fail
                  refine Hh.out.mono ?_
                  rintro e w8 ⟨rfl, hb8⟩
                  have Hb2 := Lib.hid (Hb1.out.grown hb8)
                  clear hb8 Hh Hb1
                  go_wp2_with fail
                  go_roundg (16 - (t + 1))
                  case measure => have := Hk'.out; omega
                  case rel => exact ⟨t + 1, by omega, rfl, by go_num, Hb2.out⟩
                · clear g1
                  go_wp2_with fail
                  go_roundg (16 - (t + 1))
                  case measure => have := Hk'.out; omega
                  case rel => exact ⟨t + 1, by omega, rfl, by go_num, Hb1.out⟩
              · go_wp2_with fail
                refine (counts0 Hb1.out.c).mono ?_
                rintro e w9 ⟨rfl, hb9⟩
                have Hb2 := Lib.hid (Hb1.out.grown hb9)
                clear hb9 Hb1
                rw [← Hpin.out]
                have hfl := Hfl.out
                generalize (fulls p1.frames : Int) = fu at hfl ⊢
                go_wp2_with fail
                go_roundg (n - (j + 1))
                case measure => have := Hk.out; omega
                case rel => exact ⟨j + 1, p1, hd, _, by omega, by omega, rfl, by go_num, rfl, by rw [show ((j + 1 : Nat) : Int) = (j : Int) + 1 from by omega]; exact Hb2.out.grown ((Below.refl _ _).alloc (Nat.le_refl _) _)⟩
          · skip
            rw [t3]
            generalize (touch p y).2.1 = bo
            generalize (touch p y).1 = p1 at hc4 t1 t2 t4 tl tok
            have hh := has0 hc4 (y : Int)
            rw [t4] at hh
            have Hh := Lib.hid hh
            have hpn : pn = (q : Int) := by rw [Hbd.out.pin, t5, Hbd.out.len]
            have hb1 : BdAt w w4 w2.heap.size C a ca pb fb q p1 hd pn ((j : Int) + 1) := ⟨hc4, Hs4.out, t1, by rw [t2]; exact Hbd.out.pin, tl.trans Hbd.out.len, Hb4.out, tok, fun n => by have := Hbd.out.b0 n; omega⟩
            have Hb0 := Lib.hid hb1
            clear hb1 hc4 hh t1 t2 t3 t4 tl tok t5
            subst hpn
            go_wp2_with fail
            refine Hh.out.mono ?_
            rintro e w5 ⟨rfl, hb5⟩
            have Hb1 := Lib.hid (Hb0.out.grown hb5)
            clear hb5 Hb0 Hh
            have hrow := Hb1.out.s
            have Hfl := Lib.hid (show (fulls p1.frames : Int) ≤ q from by have := fulls_le p1.frames; have := Hb1.out.len; omega)
            have Hpin := Lib.hid Hb1.out.pin
            go_wp2_with (refine wpList_load_row rfl 56 _ rfl w2.heap.size rfl 56 _ (0, 0) _ hrow Try.underlying56 rfl (by kernel_rfl) ?_)
            go_loopg [137] 16 (fun k i wr' => ∃ (t : Nat), t ≤ 16 ∧ k = 16 - t ∧ i = .int .i64 t ∧ BdAt w wr' w2.heap.size C a ca pb fb q p1 hd (q : Int) ((j : Int) + 1))
            case atStart => exact ⟨0, by omega, rfl, rfl, Hb1.out⟩
            case round =>
              obtain ⟨t, ht, hk', rfl, hb1⟩ := hrel
              have Hk' := Lib.hid hk'; clear hk' Hb1 hrow
              have Hb1 := Lib.hid hb1; clear hb1
              by_cases ht16 : t < 16
              · have hidx := run_index16 hd t ht16
                obtain ⟨g0, g1⟩ := Hb1.out.t.held_has t ht16
                by_cases gp : 0 < hd t
                · have gh := g1 gp
                  have hh := has0 Hb1.out.c (t : Int)
                  rw [gh] at hh
                  have Hh := Lib.hid hh
                  clear hh gh g1
                  go_wp2_with fail
                  refine Hh.out.mono ?_
                  rintro e w8 ⟨rfl, hb8⟩
                  have Hb2 := Lib.hid (Hb1.out.grown hb8)
                  clear hb8 Hh Hb1
                  go_wp2_with fail
                  go_roundg (16 - (t + 1))
                  case measure => have := Hk'.out; omega
                  case rel => exact ⟨t + 1, by omega, rfl, by go_num, Hb2.out⟩
                · clear g1
                  go_wp2_with fail
                  go_roundg (16 - (t + 1))
                  case measure => have := Hk'.out; omega
                  case rel => exact ⟨t + 1, by omega, rfl, by go_num, Hb1.out⟩
              · go_wp2_with fail
                refine (counts0 Hb1.out.c).mono ?_
                rintro e w9 ⟨rfl, hb9⟩
                have Hb2 := Lib.hid (Hb1.out.grown hb9)
                clear hb9 Hb1
                rw [← Hpin.out]
                have hfl := Hfl.out
                generalize (fulls p1.frames : Int) = fu at hfl ⊢
                go_wp2_with fail
                go_roundg (n - (j + 1))
                case measure => have := Hk.out; omega
                case rel => exact ⟨j + 1, p1, hd, _, by omega, by omega, rfl, by go_num, rfl, by rw [show ((j + 1 : Nat) : Int) = (j : Int) + 1 from by omega]; exact Hb2.out.grown ((Below.refl _ _).alloc (Nat.le_refl _) _)⟩
        | false =>
          cases hk1 : ((IntKind.u64.wrap xs[j].kind).tmod 5 == 1) with
          | true =>
            have e1 : ((IntKind.u64.wrap xs[j].kind).tmod 5 == 1) = true := hk1
            have e0 : ((IntKind.u64.wrap xs[j].kind).tmod 5 == 0) = false := by rw [beq_iff_eq] at hk1; rw [hk1]; rfl
            have e2 : ((IntKind.u64.wrap xs[j].kind).tmod 5 == 2) = false := by rw [beq_iff_eq] at hk1; rw [hk1]; rfl
            have e3 : ((IntKind.u64.wrap xs[j].kind).tmod 5 == 3) = false := by rw [beq_iff_eq] at hk1; rw [hk1]; rfl
            have E0 := Lib.hid e0
            have E1 := Lib.hid e1
            have E2 := Lib.hid e2
            have E3 := Lib.hid e3
            have ea : act p (kd xs[j].kind) y = ((hold p y).1, (hold p y).2, 0) := by unfold act kd; rw [if_neg (by simp [E0.out]), if_pos E1.out]
            rw [ea] at hc4 ⊢
            clear ea

            have tok := hold_ok Hbd.out.ok (by omega) (y : Int)
            have tl := hold_len p y
            rcases hold_tells Hbd.out.t y hy16 with ⟨t1, t2⟩ | ⟨t1, t2, t3, t4⟩
            · rw [t1]
              rw [t2] at hc4
              clear tok tl t1 t2
              have hb1 : BdAt w w4 w2.heap.size C a ca pb fb q p hd pn ((j : Int) + 1) := ⟨hc4, Hs4.out, Hbd.out.t, Hbd.out.pin, Hbd.out.len, Hb4.out, Hbd.out.ok.mono (by omega), fun n => by have := Hbd.out.b0 n; omega⟩
              have Hb1 := Lib.hid hb1
              clear hb1 hc4
              have hrow := Hb1.out.s
              have Hfl := Lib.hid (show (fulls p.frames : Int) ≤ q from by have := fulls_le p.frames; have := Hb1.out.len; omega)
              have Hpin := Lib.hid Hb1.out.pin
              go_wp2_with (refine wpList_load_row rfl 56 _ rfl w2.heap.size rfl 56 _ (0, 0) _ hrow Try.underlying56 rfl (by kernel_rfl) ?_)
              go_loopg [137] 16 (fun k i wr' => ∃ (t : Nat), t ≤ 16 ∧ k = 16 - t ∧ i = .int .i64 t ∧ BdAt w wr' w2.heap.size C a ca pb fb q p hd pn ((j : Int) + 1))
              case atStart => exact ⟨0, by omega, rfl, rfl, Hb1.out⟩
              case round =>
                obtain ⟨t, ht, hk', rfl, hb1⟩ := hrel
                have Hk' := Lib.hid hk'; clear hk' Hb1 hrow
                have Hb1 := Lib.hid hb1; clear hb1
                by_cases ht16 : t < 16
                · have hidx := run_index16 hd t ht16
                  obtain ⟨g0, g1⟩ := Hb1.out.t.held_has t ht16
                  by_cases gp : 0 < hd t
                  · have gh := g1 gp
                    have hh := has0 Hb1.out.c (t : Int)
                    rw [gh] at hh
                    have Hh := Lib.hid hh
                    clear hh gh g1
                    go_wp2_with fail
                    refine Hh.out.mono ?_
                    rintro e w8 ⟨rfl, hb8⟩
                    have Hb2 := Lib.hid (Hb1.out.grown hb8)
                    clear hb8 Hh Hb1
                    go_wp2_with fail
                    go_roundg (16 - (t + 1))
                    case measure => have := Hk'.out; omega
                    case rel => exact ⟨t + 1, by omega, rfl, by go_num, Hb2.out⟩
                  · clear g1
                    go_wp2_with fail
                    go_roundg (16 - (t + 1))
                    case measure => have := Hk'.out; omega
                    case rel => exact ⟨t + 1, by omega, rfl, by go_num, Hb1.out⟩
                · go_wp2_with fail
                  refine (counts0 Hb1.out.c).mono ?_
                  rintro e w9 ⟨rfl, hb9⟩
                  have Hb2 := Lib.hid (Hb1.out.grown hb9)
                  clear hb9 Hb1
                  rw [← Hpin.out]
                  have hfl := Hfl.out
                  generalize (fulls p.frames : Int) = fu at hfl ⊢
                  go_wp2_with fail
                  go_roundg (n - (j + 1))
                  case measure => have := Hk.out; omega
                  case rel => exact ⟨j + 1, p, hd, _, by omega, by omega, rfl, by go_num, rfl, by rw [show ((j + 1 : Nat) : Int) = (j : Int) + 1 from by omega]; exact Hb2.out.grown ((Below.refl _ _).alloc (Nat.le_refl _) _)⟩
            · rw [t1]
              have hcell := cell_of_row w4 w2.heap.size y _ _ _ Hs4.out
              rw [HA_at hd y hy16] at hcell
              have hfz := frozen_of_row w4 w2.heap.size y _ _ Hs4.out
              have hhi := Hbd.out.b0 y
              generalize (hold p y).1 = p1 at hc4 t3 t4 tl tok
              have hset := HA_set hd y hy16 (hd y + 1)
              have hs5 : (w4.setCell ⟨w2.heap.size, y, none⟩ (.int .i64 (hd y + 1))).heap[w2.heap.size]? = some (.cells (HA (fun n => if n = y then hd y + 1 else hd n)) 56 (0, 0)) := by
                rw [heap_setCell_same w4 w2.heap.size y _ _ _ Hs4.out, hset]
              have hc5 : CaAt (w4.setCell ⟨w2.heap.size, y, none⟩ (.int .i64 (hd y + 1))) C a ca pb fb [p1] := (bd_store hc4 (by have := Hlt.out; omega) (by have := Hlt.out; omega) (by have := Hlt.out; omega) (by have := Hlt.out; omega) _ _)
              have hb5 : Below w.heap.size w (w4.setCell ⟨w2.heap.size, y, none⟩ (.int .i64 (hd y + 1))) := Hb4.out.setCell (by have := Hlt.out; simp only; omega) _
              have hbb0 : ∀ n, (fun n => if n = y then hd y + 1 else hd n) n ≤ (j : Int) + 1 := fun n => by have := Hbd.out.b0 n; have := Hbd.out.b0 y; simp only; split <;> omega
              have Hpin0 := Lib.hid Hbd.out.pin
              have htl := tl.trans Hbd.out.len
              generalize (fun n => if n = y then hd y + 1 else hd n) = hd1 at hs5 t3 hbb0
              clear hset tl
              by_cases hz : hd y = 0
              · skip
                have hb1 : BdAt w (w4.setCell ⟨w2.heap.size, y, none⟩ (.int .i64 (hd y + 1))) w2.heap.size C a ca pb fb q p1 hd1 (pn + 1) ((j : Int) + 1) := ⟨hc5, hs5, t3, by have := Hpin0.out; rw [if_neg (by omega)] at t4; omega, htl, hb5, tok, hbb0⟩
                have Hb1 := Lib.hid hb1
                have hpr := Lib.hid (show (0 : Int) ≤ pn ∧ pn ≤ 1000 from by have := Hpin0.out; have := pins_le p.frames; have := Hbd.out.len; omega)
                obtain ⟨hpr0, hpr1⟩ := hpr.out
                clear hb1 hc5 hs5 t3 t4 htl hb5 tok hbb0 hc4 t1
                have hz1 : (hd y == 0) = true := by rw [hz]; rfl
                clear hz
                have hrow := Hb1.out.s
                have Hfl := Lib.hid (show (fulls p1.frames : Int) ≤ q from by have := fulls_le p1.frames; have := Hb1.out.len; omega)
                have Hpin := Lib.hid Hb1.out.pin
                go_wp2_with (refine wpList_load_row rfl 56 _ rfl w2.heap.size rfl 56 _ (0, 0) _ hrow Try.underlying56 rfl (by kernel_rfl) ?_)
                go_loopg [137] 16 (fun k i wr' => ∃ (t : Nat), t ≤ 16 ∧ k = 16 - t ∧ i = .int .i64 t ∧ BdAt w wr' w2.heap.size C a ca pb fb q p1 hd1 (pn + 1) ((j : Int) + 1))
                case atStart => exact ⟨0, by omega, rfl, rfl, Hb1.out⟩
                case round =>
                  obtain ⟨t, ht, hk', rfl, hb1⟩ := hrel
                  have Hk' := Lib.hid hk'; clear hk' Hb1 hrow
                  have Hb1 := Lib.hid hb1; clear hb1
                  by_cases ht16 : t < 16
                  · have hidx := run_index16 hd1 t ht16
                    obtain ⟨g0, g1⟩ := Hb1.out.t.held_has t ht16
                    by_cases gp : 0 < hd1 t
                    · have gh := g1 gp
                      have hh := has0 Hb1.out.c (t : Int)
                      rw [gh] at hh
                      have Hh := Lib.hid hh
                      clear hh gh g1
                      go_wp2_with fail
                      refine Hh.out.mono ?_
                      rintro e w8 ⟨rfl, hb8⟩
                      have Hb2 := Lib.hid (Hb1.out.grown hb8)
                      clear hb8 Hh Hb1
                      go_wp2_with fail
                      go_roundg (16 - (t + 1))
                      case measure => have := Hk'.out; omega
                      case rel => exact ⟨t + 1, by omega, rfl, by go_num, Hb2.out⟩
                    · clear g1
                      go_wp2_with fail
                      go_roundg (16 - (t + 1))
                      case measure => have := Hk'.out; omega
                      case rel => exact ⟨t + 1, by omega, rfl, by go_num, Hb1.out⟩
                  · go_wp2_with fail
                    refine (counts0 Hb1.out.c).mono ?_
                    rintro e w9 ⟨rfl, hb9⟩
                    have Hb2 := Lib.hid (Hb1.out.grown hb9)
                    clear hb9 Hb1
                    rw [← Hpin.out]
                    have hfl := Hfl.out
                    generalize (fulls p1.frames : Int) = fu at hfl ⊢
                    go_wp2_with fail
                    go_roundg (n - (j + 1))
                    case measure => have := Hk.out; omega
                    case rel => exact ⟨j + 1, p1, hd1, _, by omega, by omega, rfl, by go_num, rfl, by rw [show ((j + 1 : Nat) : Int) = (j : Int) + 1 from by omega]; exact Hb2.out.grown ((Below.refl _ _).alloc (Nat.le_refl _) _)⟩
              · skip
                have hb1 : BdAt w (w4.setCell ⟨w2.heap.size, y, none⟩ (.int .i64 (hd y + 1))) w2.heap.size C a ca pb fb q p1 hd1 pn ((j : Int) + 1) := ⟨hc5, hs5, t3, by have := Hpin0.out; rw [if_pos (by omega)] at t4; omega, htl, hb5, tok, hbb0⟩
                have Hb1 := Lib.hid hb1
                have hpr := Lib.hid (show (0 : Int) ≤ pn ∧ pn ≤ 1000 from by have := Hpin0.out; have := pins_le p.frames; have := Hbd.out.len; omega)
                obtain ⟨hpr0, hpr1⟩ := hpr.out
                clear hb1 hc5 hs5 t3 t4 htl hb5 tok hbb0 hc4 t1
                have hz1 : (hd y == 0) = false := by rw [beq_eq_false_iff_ne]; exact hz
                clear hz
                have hrow := Hb1.out.s
                have Hfl := Lib.hid (show (fulls p1.frames : Int) ≤ q from by have := fulls_le p1.frames; have := Hb1.out.len; omega)
                have Hpin := Lib.hid Hb1.out.pin
                go_wp2_with (refine wpList_load_row rfl 56 _ rfl w2.heap.size rfl 56 _ (0, 0) _ hrow Try.underlying56 rfl (by kernel_rfl) ?_)
                go_loopg [137] 16 (fun k i wr' => ∃ (t : Nat), t ≤ 16 ∧ k = 16 - t ∧ i = .int .i64 t ∧ BdAt w wr' w2.heap.size C a ca pb fb q p1 hd1 pn ((j : Int) + 1))
                case atStart => exact ⟨0, by omega, rfl, rfl, Hb1.out⟩
                case round =>
                  obtain ⟨t, ht, hk', rfl, hb1⟩ := hrel
                  have Hk' := Lib.hid hk'; clear hk' Hb1 hrow
                  have Hb1 := Lib.hid hb1; clear hb1
                  by_cases ht16 : t < 16
                  · have hidx := run_index16 hd1 t ht16
                    obtain ⟨g0, g1⟩ := Hb1.out.t.held_has t ht16
                    by_cases gp : 0 < hd1 t
                    · have gh := g1 gp
                      have hh := has0 Hb1.out.c (t : Int)
                      rw [gh] at hh
                      have Hh := Lib.hid hh
                      clear hh gh g1
                      go_wp2_with fail
                      refine Hh.out.mono ?_
                      rintro e w8 ⟨rfl, hb8⟩
                      have Hb2 := Lib.hid (Hb1.out.grown hb8)
                      clear hb8 Hh Hb1
                      go_wp2_with fail
                      go_roundg (16 - (t + 1))
                      case measure => have := Hk'.out; omega
                      case rel => exact ⟨t + 1, by omega, rfl, by go_num, Hb2.out⟩
                    · clear g1
                      go_wp2_with fail
                      go_roundg (16 - (t + 1))
                      case measure => have := Hk'.out; omega
                      case rel => exact ⟨t + 1, by omega, rfl, by go_num, Hb1.out⟩
                  · go_wp2_with fail
                    refine (counts0 Hb1.out.c).mono ?_
                    rintro e w9 ⟨rfl, hb9⟩
                    have Hb2 := Lib.hid (Hb1.out.grown hb9)
                    clear hb9 Hb1
                    rw [← Hpin.out]
                    have hfl := Hfl.out
                    generalize (fulls p1.frames : Int) = fu at hfl ⊢
                    go_wp2_with fail
                    go_roundg (n - (j + 1))
                    case measure => have := Hk.out; omega
                    case rel => exact ⟨j + 1, p1, hd1, _, by omega, by omega, rfl, by go_num, rfl, by rw [show ((j + 1 : Nat) : Int) = (j : Int) + 1 from by omega]; exact Hb2.out.grown ((Below.refl _ _).alloc (Nat.le_refl _) _)⟩
          | false =>
            cases hk2 : ((IntKind.u64.wrap xs[j].kind).tmod 5 == 2) with
            | true =>
              have e2 : ((IntKind.u64.wrap xs[j].kind).tmod 5 == 2) = true := hk2
              have e0 : ((IntKind.u64.wrap xs[j].kind).tmod 5 == 0) = false := by rw [beq_iff_eq] at hk2; rw [hk2]; rfl
              have e1 : ((IntKind.u64.wrap xs[j].kind).tmod 5 == 1) = false := by rw [beq_iff_eq] at hk2; rw [hk2]; rfl
              have e3 : ((IntKind.u64.wrap xs[j].kind).tmod 5 == 3) = false := by rw [beq_iff_eq] at hk2; rw [hk2]; rfl
              have E0 := Lib.hid e0
              have E1 := Lib.hid e1
              have E2 := Lib.hid e2
              have E3 := Lib.hid e3
              have ea : act p (kd xs[j].kind) y = ((release p y).1, (release p y).2, 0) := by unfold act kd; rw [if_neg (by simp [E0.out]), if_neg (by simp [E1.out]), if_pos E2.out]
              rw [ea] at hc4 ⊢
              clear ea

              have tok := release_ok Hbd.out.ok (by omega) (y : Int)
              have tl := release_len p y
              rcases release_tells Hbd.out.t y hy16 with ⟨t1, t2⟩ | ⟨t1, t2, t3, t4⟩
              · rw [t1]
                rw [t2] at hc4
                clear tok tl t1 t2
                have hb1 : BdAt w w4 w2.heap.size C a ca pb fb q p hd pn ((j : Int) + 1) := ⟨hc4, Hs4.out, Hbd.out.t, Hbd.out.pin, Hbd.out.len, Hb4.out, Hbd.out.ok.mono (by omega), fun n => by have := Hbd.out.b0 n; omega⟩
                have Hb1 := Lib.hid hb1
                clear hb1 hc4
                have hrow := Hb1.out.s
                have Hfl := Lib.hid (show (fulls p.frames : Int) ≤ q from by have := fulls_le p.frames; have := Hb1.out.len; omega)
                have Hpin := Lib.hid Hb1.out.pin
                go_wp2_with (refine wpList_load_row rfl 56 _ rfl w2.heap.size rfl 56 _ (0, 0) _ hrow Try.underlying56 rfl (by kernel_rfl) ?_)
                go_loopg [137] 16 (fun k i wr' => ∃ (t : Nat), t ≤ 16 ∧ k = 16 - t ∧ i = .int .i64 t ∧ BdAt w wr' w2.heap.size C a ca pb fb q p hd pn ((j : Int) + 1))
                case atStart => exact ⟨0, by omega, rfl, rfl, Hb1.out⟩
                case round =>
                  obtain ⟨t, ht, hk', rfl, hb1⟩ := hrel
                  have Hk' := Lib.hid hk'; clear hk' Hb1 hrow
                  have Hb1 := Lib.hid hb1; clear hb1
                  by_cases ht16 : t < 16
                  · have hidx := run_index16 hd t ht16
                    obtain ⟨g0, g1⟩ := Hb1.out.t.held_has t ht16
                    by_cases gp : 0 < hd t
                    · have gh := g1 gp
                      have hh := has0 Hb1.out.c (t : Int)
                      rw [gh] at hh
                      have Hh := Lib.hid hh
                      clear hh gh g1
                      go_wp2_with fail
                      refine Hh.out.mono ?_
                      rintro e w8 ⟨rfl, hb8⟩
                      have Hb2 := Lib.hid (Hb1.out.grown hb8)
                      clear hb8 Hh Hb1
                      go_wp2_with fail
                      go_roundg (16 - (t + 1))
                      case measure => have := Hk'.out; omega
                      case rel => exact ⟨t + 1, by omega, rfl, by go_num, Hb2.out⟩
                    · clear g1
                      go_wp2_with fail
                      go_roundg (16 - (t + 1))
                      case measure => have := Hk'.out; omega
                      case rel => exact ⟨t + 1, by omega, rfl, by go_num, Hb1.out⟩
                  · go_wp2_with fail
                    refine (counts0 Hb1.out.c).mono ?_
                    rintro e w9 ⟨rfl, hb9⟩
                    have Hb2 := Lib.hid (Hb1.out.grown hb9)
                    clear hb9 Hb1
                    rw [← Hpin.out]
                    have hfl := Hfl.out
                    generalize (fulls p.frames : Int) = fu at hfl ⊢
                    go_wp2_with fail
                    go_roundg (n - (j + 1))
                    case measure => have := Hk.out; omega
                    case rel => exact ⟨j + 1, p, hd, _, by omega, by omega, rfl, by go_num, rfl, by rw [show ((j + 1 : Nat) : Int) = (j : Int) + 1 from by omega]; exact Hb2.out.grown ((Below.refl _ _).alloc (Nat.le_refl _) _)⟩
              · rw [t1]
                have hcell := cell_of_row w4 w2.heap.size y _ _ _ Hs4.out
                rw [HA_at hd y hy16] at hcell
                have hfz := frozen_of_row w4 w2.heap.size y _ _ Hs4.out
                have hhi := Hbd.out.b0 y
                generalize (release p y).1 = p1 at hc4 t3 t4 tl tok
                have hset := HA_set hd y hy16 (hd y - 1)
                have hs5 : (w4.setCell ⟨w2.heap.size, y, none⟩ (.int .i64 (hd y - 1))).heap[w2.heap.size]? = some (.cells (HA (fun n => if n = y then hd y - 1 else hd n)) 56 (0, 0)) := by
                  rw [heap_setCell_same w4 w2.heap.size y _ _ _ Hs4.out, hset]
                have hc5 : CaAt (w4.setCell ⟨w2.heap.size, y, none⟩ (.int .i64 (hd y - 1))) C a ca pb fb [p1] := (bd_store hc4 (by have := Hlt.out; omega) (by have := Hlt.out; omega) (by have := Hlt.out; omega) (by have := Hlt.out; omega) _ _)
                have hb5 : Below w.heap.size w (w4.setCell ⟨w2.heap.size, y, none⟩ (.int .i64 (hd y - 1))) := Hb4.out.setCell (by have := Hlt.out; simp only; omega) _
                have hbb0 : ∀ n, (fun n => if n = y then hd y - 1 else hd n) n ≤ (j : Int) + 1 := fun n => by have := Hbd.out.b0 n; have := Hbd.out.b0 y; simp only; split <;> omega
                have Hpin0 := Lib.hid Hbd.out.pin
                have htl := tl.trans Hbd.out.len
                generalize (fun n => if n = y then hd y - 1 else hd n) = hd1 at hs5 t3 hbb0
                clear hset tl
                by_cases hz : hd y - 1 = 0
                · skip
                  have hb1 : BdAt w (w4.setCell ⟨w2.heap.size, y, none⟩ (.int .i64 (hd y - 1))) w2.heap.size C a ca pb fb q p1 hd1 (pn - 1) ((j : Int) + 1) := ⟨hc5, hs5, t3, by have := Hpin0.out; rw [if_neg (by omega)] at t4; omega, htl, hb5, tok, hbb0⟩
                  have Hb1 := Lib.hid hb1
                  have hpr := Lib.hid (show (0 : Int) ≤ pn ∧ pn ≤ 1000 from by have := Hpin0.out; have := pins_le p.frames; have := Hbd.out.len; omega)
                  obtain ⟨hpr0, hpr1⟩ := hpr.out
                  clear hb1 hc5 hs5 t3 t4 htl hb5 tok hbb0 hc4 t1
                  have hz1 : (hd y - 1 == 0) = true := by rw [hz]; rfl
                  clear hz
                  have hrow := Hb1.out.s
                  have Hfl := Lib.hid (show (fulls p1.frames : Int) ≤ q from by have := fulls_le p1.frames; have := Hb1.out.len; omega)
                  have Hpin := Lib.hid Hb1.out.pin
                  go_wp2_with (refine wpList_load_row rfl 56 _ rfl w2.heap.size rfl 56 _ (0, 0) _ hrow Try.underlying56 rfl (by kernel_rfl) ?_)
                  go_loopg [137] 16 (fun k i wr' => ∃ (t : Nat), t ≤ 16 ∧ k = 16 - t ∧ i = .int .i64 t ∧ BdAt w wr' w2.heap.size C a ca pb fb q p1 hd1 (pn - 1) ((j : Int) + 1))
                  case atStart => exact ⟨0, by omega, rfl, rfl, Hb1.out⟩
                  case round =>
                    obtain ⟨t, ht, hk', rfl, hb1⟩ := hrel
                    have Hk' := Lib.hid hk'; clear hk' Hb1 hrow
                    have Hb1 := Lib.hid hb1; clear hb1
                    by_cases ht16 : t < 16
                    · have hidx := run_index16 hd1 t ht16
                      obtain ⟨g0, g1⟩ := Hb1.out.t.held_has t ht16
                      by_cases gp : 0 < hd1 t
                      · have gh := g1 gp
                        have hh := has0 Hb1.out.c (t : Int)
                        rw [gh] at hh
                        have Hh := Lib.hid hh
                        clear hh gh g1
                        go_wp2_with fail
                        refine Hh.out.mono ?_
                        rintro e w8 ⟨rfl, hb8⟩
                        have Hb2 := Lib.hid (Hb1.out.grown hb8)
                        clear hb8 Hh Hb1
                        go_wp2_with fail
                        go_roundg (16 - (t + 1))
                        case measure => have := Hk'.out; omega
                        case rel => exact ⟨t + 1, by omega, rfl, by go_num, Hb2.out⟩
                      · clear g1
                        go_wp2_with fail
                        go_roundg (16 - (t + 1))
                        case measure => have := Hk'.out; omega
                        case rel => exact ⟨t + 1, by omega, rfl, by go_num, Hb1.out⟩
                    · go_wp2_with fail
                      refine (counts0 Hb1.out.c).mono ?_
                      rintro e w9 ⟨rfl, hb9⟩
                      have Hb2 := Lib.hid (Hb1.out.grown hb9)
                      clear hb9 Hb1
                      rw [← Hpin.out]
                      have hfl := Hfl.out
                      generalize (fulls p1.frames : Int) = fu at hfl ⊢
                      go_wp2_with fail
                      go_roundg (n - (j + 1))
                      case measure => have := Hk.out; omega
                      case rel => exact ⟨j + 1, p1, hd1, _, by omega, by omega, rfl, by go_num, rfl, by rw [show ((j + 1 : Nat) : Int) = (j : Int) + 1 from by omega]; exact Hb2.out.grown ((Below.refl _ _).alloc (Nat.le_refl _) _)⟩
                · skip
                  have hb1 : BdAt w (w4.setCell ⟨w2.heap.size, y, none⟩ (.int .i64 (hd y - 1))) w2.heap.size C a ca pb fb q p1 hd1 pn ((j : Int) + 1) := ⟨hc5, hs5, t3, by have := Hpin0.out; rw [if_pos (by omega)] at t4; omega, htl, hb5, tok, hbb0⟩
                  have Hb1 := Lib.hid hb1
                  have hpr := Lib.hid (show (0 : Int) ≤ pn ∧ pn ≤ 1000 from by have := Hpin0.out; have := pins_le p.frames; have := Hbd.out.len; omega)
                  obtain ⟨hpr0, hpr1⟩ := hpr.out
                  clear hb1 hc5 hs5 t3 t4 htl hb5 tok hbb0 hc4 t1
                  have hz1 : (hd y - 1 == 0) = false := by rw [beq_eq_false_iff_ne]; exact hz
                  clear hz
                  have hrow := Hb1.out.s
                  have Hfl := Lib.hid (show (fulls p1.frames : Int) ≤ q from by have := fulls_le p1.frames; have := Hb1.out.len; omega)
                  have Hpin := Lib.hid Hb1.out.pin
                  go_wp2_with (refine wpList_load_row rfl 56 _ rfl w2.heap.size rfl 56 _ (0, 0) _ hrow Try.underlying56 rfl (by kernel_rfl) ?_)
                  go_loopg [137] 16 (fun k i wr' => ∃ (t : Nat), t ≤ 16 ∧ k = 16 - t ∧ i = .int .i64 t ∧ BdAt w wr' w2.heap.size C a ca pb fb q p1 hd1 pn ((j : Int) + 1))
                  case atStart => exact ⟨0, by omega, rfl, rfl, Hb1.out⟩
                  case round =>
                    obtain ⟨t, ht, hk', rfl, hb1⟩ := hrel
                    have Hk' := Lib.hid hk'; clear hk' Hb1 hrow
                    have Hb1 := Lib.hid hb1; clear hb1
                    by_cases ht16 : t < 16
                    · have hidx := run_index16 hd1 t ht16
                      obtain ⟨g0, g1⟩ := Hb1.out.t.held_has t ht16
                      by_cases gp : 0 < hd1 t
                      · have gh := g1 gp
                        have hh := has0 Hb1.out.c (t : Int)
                        rw [gh] at hh
                        have Hh := Lib.hid hh
                        clear hh gh g1
                        go_wp2_with fail
                        refine Hh.out.mono ?_
                        rintro e w8 ⟨rfl, hb8⟩
                        have Hb2 := Lib.hid (Hb1.out.grown hb8)
                        clear hb8 Hh Hb1
                        go_wp2_with fail
                        go_roundg (16 - (t + 1))
                        case measure => have := Hk'.out; omega
                        case rel => exact ⟨t + 1, by omega, rfl, by go_num, Hb2.out⟩
                      · clear g1
                        go_wp2_with fail
                        go_roundg (16 - (t + 1))
                        case measure => have := Hk'.out; omega
                        case rel => exact ⟨t + 1, by omega, rfl, by go_num, Hb1.out⟩
                    · go_wp2_with fail
                      refine (counts0 Hb1.out.c).mono ?_
                      rintro e w9 ⟨rfl, hb9⟩
                      have Hb2 := Lib.hid (Hb1.out.grown hb9)
                      clear hb9 Hb1
                      rw [← Hpin.out]
                      have hfl := Hfl.out
                      generalize (fulls p1.frames : Int) = fu at hfl ⊢
                      go_wp2_with fail
                      go_roundg (n - (j + 1))
                      case measure => have := Hk.out; omega
                      case rel => exact ⟨j + 1, p1, hd1, _, by omega, by omega, rfl, by go_num, rfl, by rw [show ((j + 1 : Nat) : Int) = (j : Int) + 1 from by omega]; exact Hb2.out.grown ((Below.refl _ _).alloc (Nat.le_refl _) _)⟩
            | false =>
              cases hk3 : ((IntKind.u64.wrap xs[j].kind).tmod 5 == 3) with
              | true =>
                have e3 : ((IntKind.u64.wrap xs[j].kind).tmod 5 == 3) = true := hk3
                have e0 : ((IntKind.u64.wrap xs[j].kind).tmod 5 == 0) = false := by rw [beq_iff_eq] at hk3; rw [hk3]; rfl
                have e1 : ((IntKind.u64.wrap xs[j].kind).tmod 5 == 1) = false := by rw [beq_iff_eq] at hk3; rw [hk3]; rfl
                have e2 : ((IntKind.u64.wrap xs[j].kind).tmod 5 == 2) = false := by rw [beq_iff_eq] at hk3; rw [hk3]; rfl
                have E0 := Lib.hid e0
                have E1 := Lib.hid e1
                have E2 := Lib.hid e2
                have E3 := Lib.hid e3
                have ea : act p (kd xs[j].kind) y = ((drop p y).1, (drop p y).2, 0) := by unfold act kd; rw [if_neg (by simp [E0.out]), if_neg (by simp [E1.out]), if_neg (by simp [E2.out]), if_pos E3.out]
                rw [ea] at hc4 ⊢
                clear ea

                have tok := drop_ok Hbd.out.ok (by omega) (y : Int)
                have tl := drop_len p y
                rcases drop_tells Hbd.out.t y hy16 with ⟨t1, t2⟩ | ⟨t1, t2, t3, t4, t5⟩
                · rw [t1]
                  rw [t2] at hc4
                  clear tok tl t1 t2
                  have hb1 : BdAt w w4 w2.heap.size C a ca pb fb q p hd pn ((j : Int) + 1) := ⟨hc4, Hs4.out, Hbd.out.t, Hbd.out.pin, Hbd.out.len, Hb4.out, Hbd.out.ok.mono (by omega), fun n => by have := Hbd.out.b0 n; omega⟩
                  have Hb1 := Lib.hid hb1
                  clear hb1 hc4
                  have hrow := Hb1.out.s
                  have Hfl := Lib.hid (show (fulls p.frames : Int) ≤ q from by have := fulls_le p.frames; have := Hb1.out.len; omega)
                  have Hpin := Lib.hid Hb1.out.pin
                  go_wp2_with (refine wpList_load_row rfl 56 _ rfl w2.heap.size rfl 56 _ (0, 0) _ hrow Try.underlying56 rfl (by kernel_rfl) ?_)
                  go_loopg [137] 16 (fun k i wr' => ∃ (t : Nat), t ≤ 16 ∧ k = 16 - t ∧ i = .int .i64 t ∧ BdAt w wr' w2.heap.size C a ca pb fb q p hd pn ((j : Int) + 1))
                  case atStart => exact ⟨0, by omega, rfl, rfl, Hb1.out⟩
                  case round =>
                    obtain ⟨t, ht, hk', rfl, hb1⟩ := hrel
                    have Hk' := Lib.hid hk'; clear hk' Hb1 hrow
                    have Hb1 := Lib.hid hb1; clear hb1
                    by_cases ht16 : t < 16
                    · have hidx := run_index16 hd t ht16
                      obtain ⟨g0, g1⟩ := Hb1.out.t.held_has t ht16
                      by_cases gp : 0 < hd t
                      · have gh := g1 gp
                        have hh := has0 Hb1.out.c (t : Int)
                        rw [gh] at hh
                        have Hh := Lib.hid hh
                        clear hh gh g1
                        go_wp2_with fail
                        refine Hh.out.mono ?_
                        rintro e w8 ⟨rfl, hb8⟩
                        have Hb2 := Lib.hid (Hb1.out.grown hb8)
                        clear hb8 Hh Hb1
                        go_wp2_with fail
                        go_roundg (16 - (t + 1))
                        case measure => have := Hk'.out; omega
                        case rel => exact ⟨t + 1, by omega, rfl, by go_num, Hb2.out⟩
                      · clear g1
                        go_wp2_with fail
                        go_roundg (16 - (t + 1))
                        case measure => have := Hk'.out; omega
                        case rel => exact ⟨t + 1, by omega, rfl, by go_num, Hb1.out⟩
                    · go_wp2_with fail
                      refine (counts0 Hb1.out.c).mono ?_
                      rintro e w9 ⟨rfl, hb9⟩
                      have Hb2 := Lib.hid (Hb1.out.grown hb9)
                      clear hb9 Hb1
                      rw [← Hpin.out]
                      have hfl := Hfl.out
                      generalize (fulls p.frames : Int) = fu at hfl ⊢
                      go_wp2_with fail
                      go_roundg (n - (j + 1))
                      case measure => have := Hk.out; omega
                      case rel => exact ⟨j + 1, p, hd, _, by omega, by omega, rfl, by go_num, rfl, by rw [show ((j + 1 : Nat) : Int) = (j : Int) + 1 from by omega]; exact Hb2.out.grown ((Below.refl _ _).alloc (Nat.le_refl _) _)⟩
                · rw [t1]
                  have hcell := cell_of_row w4 w2.heap.size y _ _ _ Hs4.out
                  rw [HA_at hd y hy16] at hcell
                  generalize (drop p y).1 = p1 at hc4 t3 t4 t5 tl tok
                  have hh := has0 hc4 (y : Int)
                  rw [t3] at hh
                  have Hh := Lib.hid hh
                  have hb1 : BdAt w w4 w2.heap.size C a ca pb fb q p1 hd pn ((j : Int) + 1) := ⟨hc4, Hs4.out, t4, by rw [t5]; exact Hbd.out.pin, tl.trans Hbd.out.len, Hb4.out, tok, fun n => by have := Hbd.out.b0 n; omega⟩
                  have Hb0 := Lib.hid hb1
                  have hle : hd y ≤ 0 := by omega
                  clear hb1 hc4 hh t1 t2 t3 t4 t5 tl tok
                  go_wp2_with fail
                  refine Hh.out.mono ?_
                  rintro e w5 ⟨rfl, hb5⟩
                  have hcell5 := (hb5.cell (p := ⟨w2.heap.size, y, none⟩) (World.block_lt_of_cell? w4 ⟨w2.heap.size, y, none⟩ hcell)).trans hcell
                  have Hb1 := Lib.hid (Hb0.out.grown hb5)
                  clear hb5 Hb0 Hh hcell
                  have hrow := Hb1.out.s
                  have Hfl := Lib.hid (show (fulls p1.frames : Int) ≤ q from by have := fulls_le p1.frames; have := Hb1.out.len; omega)
                  have Hpin := Lib.hid Hb1.out.pin
                  go_wp2_with (refine wpList_load_row rfl 56 _ rfl w2.heap.size rfl 56 _ (0, 0) _ hrow Try.underlying56 rfl (by kernel_rfl) ?_)
                  go_loopg [137] 16 (fun k i wr' => ∃ (t : Nat), t ≤ 16 ∧ k = 16 - t ∧ i = .int .i64 t ∧ BdAt w wr' w2.heap.size C a ca pb fb q p1 hd pn ((j : Int) + 1))
                  case atStart => exact ⟨0, by omega, rfl, rfl, Hb1.out⟩
                  case round =>
                    obtain ⟨t, ht, hk', rfl, hb1⟩ := hrel
                    have Hk' := Lib.hid hk'; clear hk' Hb1 hrow
                    have Hb1 := Lib.hid hb1; clear hb1
                    by_cases ht16 : t < 16
                    · have hidx := run_index16 hd t ht16
                      obtain ⟨g0, g1⟩ := Hb1.out.t.held_has t ht16
                      by_cases gp : 0 < hd t
                      · have gh := g1 gp
                        have hh := has0 Hb1.out.c (t : Int)
                        rw [gh] at hh
                        have Hh := Lib.hid hh
                        clear hh gh g1
                        go_wp2_with fail
                        refine Hh.out.mono ?_
                        rintro e w8 ⟨rfl, hb8⟩
                        have Hb2 := Lib.hid (Hb1.out.grown hb8)
                        clear hb8 Hh Hb1
                        go_wp2_with fail
                        go_roundg (16 - (t + 1))
                        case measure => have := Hk'.out; omega
                        case rel => exact ⟨t + 1, by omega, rfl, by go_num, Hb2.out⟩
                      · clear g1
                        go_wp2_with fail
                        go_roundg (16 - (t + 1))
                        case measure => have := Hk'.out; omega
                        case rel => exact ⟨t + 1, by omega, rfl, by go_num, Hb1.out⟩
                    · go_wp2_with fail
                      refine (counts0 Hb1.out.c).mono ?_
                      rintro e w9 ⟨rfl, hb9⟩
                      have Hb2 := Lib.hid (Hb1.out.grown hb9)
                      clear hb9 Hb1
                      rw [← Hpin.out]
                      have hfl := Hfl.out
                      generalize (fulls p1.frames : Int) = fu at hfl ⊢
                      go_wp2_with fail
                      go_roundg (n - (j + 1))
                      case measure => have := Hk.out; omega
                      case rel => exact ⟨j + 1, p1, hd, _, by omega, by omega, rfl, by go_num, rfl, by rw [show ((j + 1 : Nat) : Int) = (j : Int) + 1 from by omega]; exact Hb2.out.grown ((Below.refl _ _).alloc (Nat.le_refl _) _)⟩
              | false =>
                have e0 : ((IntKind.u64.wrap xs[j].kind).tmod 5 == 0) = false := hk0
                have e1 : ((IntKind.u64.wrap xs[j].kind).tmod 5 == 1) = false := hk1
                have e2 : ((IntKind.u64.wrap xs[j].kind).tmod 5 == 2) = false := hk2
                have e3 : ((IntKind.u64.wrap xs[j].kind).tmod 5 == 3) = false := hk3
                have E0 := Lib.hid e0
                have E1 := Lib.hid e1
                have E2 := Lib.hid e2
                have E3 := Lib.hid e3
                have ea : act p (kd xs[j].kind) y = (p, has p y, 0) := by unfold act kd; rw [if_neg (by simp [E0.out]), if_neg (by simp [E1.out]), if_neg (by simp [E2.out]), if_neg (by simp [E3.out])]
                rw [ea] at hc4 ⊢
                clear ea

                have hb1 : BdAt w w4 w2.heap.size C a ca pb fb q p hd pn ((j : Int) + 1) := ⟨hc4, Hs4.out, Hbd.out.t, Hbd.out.pin, Hbd.out.len, Hb4.out, Hbd.out.ok.mono (by omega), fun n => by have := Hbd.out.b0 n; omega⟩
                have Hb1 := Lib.hid hb1
                clear hb1 hc4
                generalize has p y = bo
                have hrow := Hb1.out.s
                have Hfl := Lib.hid (show (fulls p.frames : Int) ≤ q from by have := fulls_le p.frames; have := Hb1.out.len; omega)
                have Hpin := Lib.hid Hb1.out.pin
                go_wp2_with (refine wpList_load_row rfl 56 _ rfl w2.heap.size rfl 56 _ (0, 0) _ hrow Try.underlying56 rfl (by kernel_rfl) ?_)
                go_loopg [137] 16 (fun k i wr' => ∃ (t : Nat), t ≤ 16 ∧ k = 16 - t ∧ i = .int .i64 t ∧ BdAt w wr' w2.heap.size C a ca pb fb q p hd pn ((j : Int) + 1))
                case atStart => exact ⟨0, by omega, rfl, rfl, Hb1.out⟩
                case round =>
                  obtain ⟨t, ht, hk', rfl, hb1⟩ := hrel
                  have Hk' := Lib.hid hk'; clear hk' Hb1 hrow
                  have Hb1 := Lib.hid hb1; clear hb1
                  by_cases ht16 : t < 16
                  · have hidx := run_index16 hd t ht16
                    obtain ⟨g0, g1⟩ := Hb1.out.t.held_has t ht16
                    by_cases gp : 0 < hd t
                    · have gh := g1 gp
                      have hh := has0 Hb1.out.c (t : Int)
                      rw [gh] at hh
                      have Hh := Lib.hid hh
                      clear hh gh g1
                      go_wp2_with fail
                      refine Hh.out.mono ?_
                      rintro e w8 ⟨rfl, hb8⟩
                      have Hb2 := Lib.hid (Hb1.out.grown hb8)
                      clear hb8 Hh Hb1
                      go_wp2_with fail
                      go_roundg (16 - (t + 1))
                      case measure => have := Hk'.out; omega
                      case rel => exact ⟨t + 1, by omega, rfl, by go_num, Hb2.out⟩
                    · clear g1
                      go_wp2_with fail
                      go_roundg (16 - (t + 1))
                      case measure => have := Hk'.out; omega
                      case rel => exact ⟨t + 1, by omega, rfl, by go_num, Hb1.out⟩
                  · go_wp2_with fail
                    refine (counts0 Hb1.out.c).mono ?_
                    rintro e w9 ⟨rfl, hb9⟩
                    have Hb2 := Lib.hid (Hb1.out.grown hb9)
                    clear hb9 Hb1
                    rw [← Hpin.out]
                    have hfl := Hfl.out
                    generalize (fulls p.frames : Int) = fu at hfl ⊢
                    go_wp2_with fail
                    go_roundg (n - (j + 1))
                    case measure => have := Hk.out; omega
                    case rel => exact ⟨j + 1, p, hd, _, by omega, by omega, rfl, by go_num, rfl, by rw [show ((j + 1 : Nat) : Int) = (j : Int) + 1 from by omega]; exact Hb2.out.grown ((Below.refl _ _).alloc (Nat.le_refl _) _)⟩

      · have hge : (200 : Int) ≤ j := by omega
        go_wp2_with fail
        go_ret
        exact ⟨rfl, Hbd.out.below.alloc Hbd.out.below.size _⟩
    · go_wp2_with fail
      go_ret
      exact ⟨rfl, hbd.below⟩
end Go.Proofs.Ytdblpcfkiiliiaa
