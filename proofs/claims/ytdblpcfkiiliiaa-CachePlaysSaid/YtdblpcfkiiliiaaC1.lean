/- The walks of the cache's functions: what each comes to, as plain data. -/
import Derived.Test.YtdblpcfkiiliiaaC0
set_option linter.unusedVariables false
set_option linter.unusedSimpArgs false
namespace Go.Proofs.Ytdblpcfkiiliiaa
open Go.RowKit

/-! ### Closures over frames; slices.IndexFunc, ContainsFunc -/
def Pays (w : World) (g : Nat) (lb : Array Value) (p : Fr → Bool) : Prop :=
  ∀ (W : World) (x : Fr), Below w.heap.size w W → Calls Try.prog g (#[x.val] ++ lb) W fun e w' => e = .returned (.bool (p x)) ∧ Below W.heap.size W w'

def isRoom (f : Fr) : Bool := !f.full
def isLoose (f : Fr) : Bool := f.held == 0
def isPage (page : Int) (f : Fr) : Bool := f.full && f.page == page

theorem room1 (p held : Int) (full touched : Bool) (w : World) :
    Calls Try.prog 28 #[.agg #[.int .i64 p, .bool full, .bool touched, .int .i64 held]] w fun e w' =>
      e = .returned (.bool (!full)) ∧ Below w.heap.size w w' := by
  go_enter Try.func28, Try.ntmps28
  go_wp2
  go_ret
  exact ⟨rfl, (Below.refl _ _).alloc (Nat.le_refl _) _⟩
theorem room2 (p held : Int) (full touched : Bool) (w : World) :
    Calls Try.prog 30 #[.agg #[.int .i64 p, .bool full, .bool touched, .int .i64 held]] w fun e w' =>
      e = .returned (.bool (held == 0)) ∧ Below w.heap.size w w' := by
  go_enter Try.func30, Try.ntmps30
  go_wp2
  go_ret
  exact ⟨rfl, (Below.refl _ _).alloc (Nat.le_refl _) _⟩
theorem find1 (p held page : Int) (full touched : Bool) (w : World) (B : Nat) (hB : B < w.heap.size) (hc : w.cell? ⟨B, 0, none⟩ = some (.int .i64 page)) :
    Calls Try.prog 27 #[.agg #[.int .i64 p, .bool full, .bool touched, .int .i64 held], .pointer (some ⟨B, 0, none⟩)] w fun e w' =>
      e = .returned (.bool (full && p == page)) ∧ Below w.heap.size w w' := by
  cases full
  · go_enter Try.func27, Try.ntmps27
    go_wp2
    go_ret
    exact ⟨rfl, (Below.refl _ _).alloc (Nat.le_refl _) _⟩
  · go_enter Try.func27, Try.ntmps27
    go_wp2
    go_ret
    exact ⟨rfl, (Below.refl _ _).alloc (Nat.le_refl _) _⟩
theorem pays_room (w : World) : Pays w 28 #[] isRoom := fun W x _ => room1 x.page x.held x.full x.touched W
theorem pays_loose (w : World) : Pays w 30 #[] isLoose := fun W x _ => room2 x.page x.held x.full x.touched W
theorem pays_page (w : World) (B : Nat) (page : Int) (hB : B < w.heap.size) (hc : w.cell? ⟨B, 0, none⟩ = some (.int .i64 page)) : Pays w 27 #[.pointer (some ⟨B, 0, none⟩)] (isPage page) :=
  fun W x hb => find1 x.page x.held page x.full x.touched W B (Nat.lt_of_lt_of_le hB hb.size) ((hb.cell (p := ⟨B, 0, none⟩) hB).trans hc)

/-- how many frames lie ahead of the first of which p holds -/
def skips (p : Fr → Bool) : List Fr → Nat
  | [] => 0
  | x :: xs => if p x then 0 else skips p xs + 1
theorem skips_le (p : Fr → Bool) (xs : List Fr) : skips p xs ≤ xs.length := by
  induction xs with
  | nil => simp [skips]
  | cons x xs ih => simp only [skips, List.length_cons]; split <;> omega
def idxOf (p : Fr → Bool) (xs : List Fr) : Int := if skips p xs < xs.length then (skips p xs : Int) else -1
theorem skips_at (p : Fr → Bool) (xs : List Fr) : ∀ (k : Nat) (hk : k < xs.length), k ≤ skips p xs → (p xs[k] = true → skips p xs = k) ∧ (p xs[k] = false → k + 1 ≤ skips p xs) := by
  induction xs with
  | nil => intro k hk; simp at hk
  | cons x xs ih =>
    intro k hk h
    cases k with
    | zero => simp only [skips, List.getElem_cons_zero]; constructor <;> intro e <;> simp [e]
    | succ k =>
      simp only [skips] at h ⊢
      split at h
      · omega
      · rename_i hx
        simp only [hx, List.getElem_cons_succ]
        have := ih k (by simpa using hk) (by omega)
        constructor
        · intro e; have := this.1 e; simp; omega
        · intro e; have := this.2 e; simp; omega

theorem indexFunc (w : World) (fb n c g : Nat) (lb : Array Value) (xs : List Fr) (p : Fr → Bool) (hn : xs.length = n) (hm : n ≤ 64) (hfb : fb < w.heap.size) (hx : FrAt w fb xs)
   (eg : ∀ args w, (callFunc g args).run Try.prog w = .ok (.enter g args) w) (hp : Pays w g lb p) :
    Calls Try.prog 26 #[.slice (some ⟨fb, 0, none⟩) n c, .func (.func g) #[] lb] w fun e w' =>
      e = .returned (.int .i64 (idxOf p xs)) ∧ Below w.heap.size w w' := by
  have Hp := Lib.hid hp; clear hp
  have Hx := Lib.hid hx; clear hx
  have Hn := Lib.hid hn; clear hn
  have hle := skips_le p xs
  rw [Hn.out] at hle
  go_enter Try.func26, Try.ntmps26
  go_wp2_with fail
  go_loopw [5, 8] (fun i j wr => ∃ k : Nat, k ≤ n ∧ j = .int .i64 k ∧ k ≤ skips p xs ∧ Below w.heap.size w wr) (fun _ j _ => n - (intOf j).toNat)
  case atStart => exact ⟨0, by omega, rfl, by omega, Below.refl _ _⟩
  case round =>
    obtain ⟨k, hk, rfl, hs, hb⟩ := hrel
    by_cases hlt : k < n
    · have hl : k < xs.length := by rw [Hn.out]; exact hlt
      have hxk := Hx.out.four k hl
      have hsk := skips_at p xs k hl hs
      have Hsk := Lib.hid hsk; clear hsk
      obtain ⟨c0, c1, c2, c3⟩ := hxk
      have e0 := (hb.cell (p := ⟨fb, k * 4, none⟩) hfb).trans c0
      have e1 := (hb.cell (p := ⟨fb, k * 4 + 1, none⟩) hfb).trans c1
      have e2 := (hb.cell (p := ⟨fb, k * 4 + 2, none⟩) hfb).trans c2
      have e3 := (hb.cell (p := ⟨fb, k * 4 + 3, none⟩) hfb).trans c3
      clear c0 c1 c2 c3
      go_wp2_with fail
      refine (Hp.out wr (xs[k]) hb).mono ?_
      rintro e w' ⟨rfl, hb'⟩
      have hb2 := hb.trans (hb'.mono hb.size)
      clear hb hb' e0 e1 e2 e3
      cases hpk : p xs[k] with
      | true =>
        have hq := Hsk.out.1 hpk
        clear hpk
        go_wp2_with fail
        go_ret
        refine ⟨?_, hb2⟩
        rw [idxOf, if_pos (by omega), hq]
        rfl
      | false =>
        have hq := Hsk.out.2 hpk
        clear hpk
        go_wp2_with fail
        go_roundw
        case rel => exact ⟨k + 1, by omega, by go_num, hq, hb2⟩
        case measure => simp [intOf]; omega
    · go_wp2_with fail
      go_ret
      refine ⟨?_, hb⟩
      rw [idxOf, if_neg (by have := Hn.out; omega)]
      rfl

theorem containsFunc (w : World) (fb n c g : Nat) (lb : Array Value) (xs : List Fr) (p : Fr → Bool) (hn : xs.length = n) (hm : n ≤ 64) (hfb : fb < w.heap.size) (hx : FrAt w fb xs)
   (eg : ∀ args w, (callFunc g args).run Try.prog w = .ok (.enter g args) w) (hp : Pays w g lb p) :
    Calls Try.prog 29 #[.slice (some ⟨fb, 0, none⟩) n c, .func (.func g) #[] lb] w fun e w' =>
      e = .returned (.bool (decide (skips p xs < xs.length))) ∧ Below w.heap.size w w' := by
  have Hp := Lib.hid hp; clear hp
  have Hx := Lib.hid hx; clear hx
  have Hn := Lib.hid hn; clear hn
  have Eg := Lib.hid eg; clear eg
  go_enter Try.func29, Try.ntmps29
  go_wp2_with fail
  refine (indexFunc w fb n c g lb xs p Hn.out hm hfb Hx.out Eg.out Hp.out).mono ?_
  rintro e w' ⟨rfl, hb'⟩
  go_wp2_with fail
  go_ret
  refine ⟨?_, hb'⟩
  unfold idxOf
  split <;> rename_i h <;> simp [h]

/-! ### part, find -/
def ptrTo (fb : Nat) (o : Option Nat) : Value := .pointer (o.map fun i => ⟨fb, i * 4, none⟩)
/-- the first frame of which p holds -/
def firstOf (p : Fr → Bool) (xs : List Fr) : Option Nat := if skips p xs < xs.length then some (skips p xs) else none

theorem find_nil (page : Int) (w : World) : Calls Try.prog 22 #[.pointer none, .int .i64 page] w fun e w' => e = .returned (.pointer none) ∧ Below w.heap.size w w' := by
  go_enter Try.func22, Try.ntmps22
  go_wp2
  go_ret
  exact ⟨rfl, (Below.refl _ _).alloc (Nat.le_refl _) _⟩

theorem find_any (w : World) (pb fb : Nat) (p : Pt) (h : PtAt w pb fb p) (page : Int) :
    Calls Try.prog 22 #[.pointer (some ⟨pb, 0, none⟩), .int .i64 page] w fun e w' => e = .returned (ptrTo fb (firstOf (isPage page) p.frames)) ∧ Below w.heap.size w w' := by
  have hb1 := h.b1
  have hb2 := h.b2
  have h64 := h.n64
  have c0 := h.c0
  have hfr := h.fr
  generalize hN : p.frames.length = N at c0 h64
  have HN := Lib.hid hN; clear hN
  have Hfr := Lib.hid hfr; clear hfr
  clear h
  go_enter Try.func22, Try.ntmps22
  go_wp2_with fail
  refine (indexFunc (w.alloc (.cells #[.int .i64 page] 3)) fb N N 27 _ p.frames (isPage page) HN.out h64 (by simp; omega) (fun i hi j hj => by rw [World.cell?_alloc_lt _ _ _ hb2]; exact Hfr.out i hi j hj) (fun _ _ => by go_simp) (pays_page _ w.heap.size page (by simp) (by simp))).mono ?_
  rintro e w' ⟨rfl, hb⟩
  have hb' : Below w.heap.size w w' := ((Below.refl _ _).alloc (Nat.le_refl _) _).trans (hb.mono (by simp))
  have d0 := (hb'.cell (p := ⟨pb, 0, none⟩) hb1).trans c0
  have hsk := skips_le (isPage page) p.frames
  rw [HN.out] at hsk
  clear hb
  unfold idxOf
  rw [HN.out]
  by_cases hlt : skips (isPage page) p.frames < N
  · have hfin : firstOf (isPage page) p.frames = some (skips (isPage page) p.frames) := by simp [firstOf, HN.out, hlt]
    have Hfin := Lib.hid hfin; clear hfin
    rw [if_pos hlt]
    generalize skips (isPage page) p.frames = q at *
    go_wp2_with fail
    go_ret
    refine ⟨?_, hb'⟩
    rw [Hfin.out]
    simp [ptrTo]
  · have hfin : firstOf (isPage page) p.frames = none := by simp [firstOf, HN.out, hlt]
    have Hfin := Lib.hid hfin; clear hfin
    rw [if_neg hlt]
    go_wp2_with fail
    go_ret
    refine ⟨?_, hb'⟩
    rw [Hfin.out]
    simp [ptrTo]
end Go.Proofs.Ytdblpcfkiiliiaa
