/- Joined texts: Vs0; Vs1; Vg2; Vs2; Vs4; Vs5; Vs6; Vw1; Vs7; Vs3; Vs8; Vs9. -/
import Derived.Test.YtacafhmagonngaaGreatDoorGD
import Derived.Test.YtacafhmagonngaaGreatDoorGF
import Derived.Test.YtacafhmagonngaaGreatDoorGE
import Derived.Laws.AppendOwnNone
import Derived.Lib.AppendStr
import Derived.OpenShut
import Derived.ChangeSlices
import Derived.Deep.DeepCutAuto
import Derived.Deep.CutBlock
set_option linter.unusedVariables false
set_option linter.unusedSimpArgs false
namespace Go.Proofs.YtacafhmagonngaaGreatDoor
open Go.RowKit

/-- a number's bytes, seven bits each -/
def natF : Nat → Nat → List UInt8
  | 0, n => [UInt8.ofNat n]
  | k + 1, n => if n < 128 then [UInt8.ofNat n] else UInt8.ofNat (128 + n % 128) :: natF k (n / 128)
abbrev natL (n : Nat) : List UInt8 := natF 9 n
/-- the number at the beginning of bytes -/
def readL : Nat → Nat → List UInt8 → Option (Nat × List UInt8)
  | _, _, [] => none
  | i, acc, c :: t =>
    if (i = 9 ∧ 1 < c.toNat) ∨ (0 < i ∧ c.toNat = 0) then none
    else if c.toNat < 128 then some (acc + c.toNat * 128 ^ i, t)
    else readL (i + 1) (acc + (c.toNat - 128) * 128 ^ i) t
theorem ofNat_toNat {n : Nat} (h : n < 256) : (UInt8.ofNat n).toNat = n := by
  rw [UInt8.toNat_ofNat', Nat.mod_eq_of_lt (show n < 2 ^ 8 from h)]
theorem natF_length (k : Nat) : ∀ n, (natF k n).length ≤ k + 1 := by
  induction k with
  | zero => intro n; exact Nat.le_refl _
  | succ k ih =>
    intro n
    unfold natF
    split
    · simp
    · have := ih (n / 128); simp; omega
theorem natF_pos (k n : Nat) : 0 < (natF k n).length := by
  cases k with
  | zero => exact Nat.one_pos
  | succ k => unfold natF; split <;> simp
theorem read_natF (k : Nat) : ∀ (i acc n : Nat) (t : List UInt8), i + k = 9 → n * 128 ^ i < 18446744073709551616 → (0 < i → 0 < n) → readL i acc (natF k n ++ t) = some (acc + n * 128 ^ i, t) := by
  induction k with
  | zero =>
    intro i acc n t hi hn hp
    have h9 : i = 9 := by omega
    subst h9
    have hn2 : n = 1 := by have := hp (by decide); omega
    subst hn2
    show (if _ then _ else _) = _
    rw [if_neg (by rintro (⟨-, h⟩ | ⟨-, h⟩) <;> exact absurd h (by decide)), if_pos (by decide)]
    rfl
  | succ k ih =>
    intro i acc n t hi hn hp
    unfold natF
    by_cases h : n < 128
    · rw [if_pos h]
      show (if _ then _ else _) = _
      rw [ofNat_toNat (by omega)]
      rw [if_neg (by
        rintro (⟨h1, h2⟩ | ⟨h1, h2⟩)
        · omega
        · have := hp h1; omega), if_pos h]
      rfl
    · rw [if_neg h]
      show (if _ then _ else _) = _
      rw [ofNat_toNat (by omega)]
      rw [if_neg (by rintro (⟨h1, h2⟩ | ⟨h1, h2⟩) <;> omega), if_neg (by omega)]
      have e : (acc + (128 + n % 128 - 128) * 128 ^ i) + n / 128 * 128 ^ (i + 1) = acc + n * 128 ^ i := by
        have h1 : 128 + n % 128 - 128 = n % 128 := by omega
        have h2 : n * 128 ^ i = (n % 128) * 128 ^ i + n / 128 * 128 ^ (i + 1) := by
          rw [Nat.pow_succ, Nat.mul_comm (128 ^ i) 128, ← Nat.mul_assoc, ← Nat.add_mul]
          rw [Nat.mod_add_div']
        rw [h1, h2, Nat.add_assoc]
      have hle : n / 128 * 128 ^ (i + 1) ≤ n * 128 ^ i := by
        rw [Nat.pow_succ, Nat.mul_comm (128 ^ i) 128, ← Nat.mul_assoc]
        exact Nat.mul_le_mul_right _ (Nat.div_mul_le_self _ _)
      show readL (i + 1) (acc + (128 + n % 128 - 128) * 128 ^ i) (natF k (n / 128) ++ t) = _
      rw [ih (i + 1) _ (n / 128) t (by omega) (by omega) (fun _ => by omega), e]
theorem read_natL (n : Nat) (t : List UInt8) (h : n < 18446744073709551616) : readL 0 0 (natL n ++ t) = some (n, t) := by
  have := read_natF 9 0 0 n t rfl (by omega) (fun h => by omega)
  simpa using this
/-- a number as a natural one, and back -/
def foldN (n : Int) : Nat := if 0 ≤ n then (2 * n).toNat else (-2 * n - 1).toNat
def unfoldN (u : Nat) : Int := if u % 2 = 0 then ((u / 2 : Nat) : Int) else -((u / 2 : Nat) : Int) - 1
theorem unfold_fold (n : Int) : unfoldN (foldN n) = n := by
  unfold foldN unfoldN
  split <;> split <;> omega
theorem foldN_lt {n : Int} (h0 : -9223372036854775808 ≤ n) (h1 : n ≤ 9223372036854775807) : foldN n < 18446744073709551616 := by
  unfold foldN
  split <;> omega
theorem unfoldN_rng {u : Nat} (h : u < 18446744073709551616) : -9223372036854775808 ≤ unfoldN u ∧ unfoldN u ≤ 9223372036854775807 := by
  unfold unfoldN
  split <;> omega
/-- a number in so many bytes -/
def leN : Nat → Nat → List UInt8
  | 0, _ => []
  | k + 1, n => UInt8.ofNat (n % 256) :: leN k (n / 256)
def leV : List UInt8 → Nat
  | [] => 0
  | c :: t => c.toNat + 256 * leV t
theorem leN_length (k : Nat) : ∀ n, (leN k n).length = k := by
  induction k with
  | zero => intro n; rfl
  | succ k ih => intro n; show (leN k (n / 256)).length + 1 = k + 1; rw [ih]
theorem leV_leN (k : Nat) : ∀ n, n < 256 ^ k → leV (leN k n) = n := by
  induction k with
  | zero => intro n h; simp at h; subst h; rfl
  | succ k ih =>
    intro n h
    show (UInt8.ofNat (n % 256)).toNat + 256 * leV (leN k (n / 256)) = n
    rw [ofNat_toNat (by omega), ih (n / 256) (by rw [Nat.pow_succ] at h; omega)]
    omega
theorem leV_lt (l : List UInt8) : leV l < 256 ^ l.length := by
  induction l with
  | nil => exact Nat.one_pos
  | cons c t ih =>
    have := c.toNat_lt
    show c.toNat + 256 * leV t < 256 ^ (t.length + 1)
    rw [Nat.pow_succ]
    omega
theorem readL_lt (l : List UInt8) : ∀ (i acc u : Nat) (r : List UInt8), i ≤ 9 → acc < 128 ^ i → readL i acc l = some (u, r) → u < 18446744073709551616 ∧ r.length < l.length := by
  induction l with
  | nil => intro i acc u r _ _ h; cases h
  | cons c t ih =>
    intro i acc u r hi ha h
    have hc := c.toNat_lt
    unfold readL at h
    split at h
    · cases h
    · rename_i h1
      split at h
      · rename_i h2
        simp only [Option.some.injEq, Prod.mk.injEq] at h
        obtain ⟨rfl, rfl⟩ := h
        refine ⟨?_, by simp⟩
        by_cases h9 : i = 9
        · subst h9
          have : c.toNat ≤ 1 := by omega
          have e : (128 : Nat) ^ 9 = 9223372036854775808 := by decide
          rw [e] at ha ⊢
          omega
        · have h8 : 128 ^ (i + 1) ≤ 128 ^ 9 := Nat.pow_le_pow_right (by decide) (by omega)
          have h3 : acc + c.toNat * 128 ^ i < 128 ^ (i + 1) := by
            have : c.toNat * 128 ^ i ≤ 127 * 128 ^ i := Nat.mul_le_mul_right _ (by omega)
            rw [Nat.pow_succ]
            omega
          have e : (128 : Nat) ^ 9 = 9223372036854775808 := by decide
          omega
      · rename_i h2
        have h9 : i ≠ 9 := by omega
        have h3 : acc + (c.toNat - 128) * 128 ^ i < 128 ^ (i + 1) := by
          have : (c.toNat - 128) * 128 ^ i ≤ 127 * 128 ^ i := Nat.mul_le_mul_right _ (by omega)
          rw [Nat.pow_succ]
          omega
        obtain ⟨e1, e2⟩ := ih (i + 1) _ u r (by omega) h3 h
        exact ⟨e1, by simp; omega⟩
/-- a value's bytes -/
def putL (v : Val) : List UInt8 :=
  if v.k = 1 then 1 :: natL (foldN v.n)
  else if v.k = 2 then [2, UInt8.ofNat v.n.toNat]
  else if v.k = 3 then 3 :: (natL v.s.size ++ v.s.data.toList)
  else if v.k = 4 then 4 :: leN 8 v.f.toNat
  else [0]
/-- the value at the beginning of bytes -/
def getL : List UInt8 → Option (Val × List UInt8)
  | [] => none
  | c :: t =>
    if c.toNat = 0 then some (⟨0, 0, ⟨#[]⟩, 0⟩, t)
    else if c.toNat = 1 then (readL 0 0 t).map fun p => (⟨1, unfoldN p.1, ⟨#[]⟩, 0⟩, p.2)
    else if c.toNat = 2 then (match t with
      | [] => none
      | d :: r => if d.toNat ≤ 1 then some (⟨2, (d.toNat : Int), ⟨#[]⟩, 0⟩, r) else none)
    else if c.toNat = 3 then (readL 0 0 t).bind fun p => if p.1 ≤ 64 ∧ p.1 ≤ p.2.length then some (⟨3, 0, ⟨(p.2.take p.1).toArray⟩, 0⟩, p.2.drop p.1) else none
    else if c.toNat = 4 then (if 8 ≤ t.length ∧ canonF (leV (t.take 8) : Nat) = ((leV (t.take 8) : Nat) : Int) then some (⟨4, 0, ⟨#[]⟩, ((leV (t.take 8) : Nat) : Int)⟩, t.drop 8) else none)
    else none
theorem getL_cons (c : UInt8) (t : List UInt8) : getL (c :: t) = (
    if c.toNat = 0 then some (⟨0, 0, ⟨#[]⟩, 0⟩, t)
    else if c.toNat = 1 then (readL 0 0 t).map fun p => (⟨1, unfoldN p.1, ⟨#[]⟩, 0⟩, p.2)
    else if c.toNat = 2 then (match t with
      | [] => none
      | d :: r => if d.toNat ≤ 1 then some (⟨2, (d.toNat : Int), ⟨#[]⟩, 0⟩, r) else none)
    else if c.toNat = 3 then (readL 0 0 t).bind fun p => if p.1 ≤ 64 ∧ p.1 ≤ p.2.length then some (⟨3, 0, ⟨(p.2.take p.1).toArray⟩, 0⟩, p.2.drop p.1) else none
    else if c.toNat = 4 then (if 8 ≤ t.length ∧ canonF (leV (t.take 8) : Nat) = ((leV (t.take 8) : Nat) : Int) then some (⟨4, 0, ⟨#[]⟩, ((leV (t.take 8) : Nat) : Int)⟩, t.drop 8) else none)
    else none) := rfl
theorem get_put {v : Val} (h : RightC v) (w : v.Wf) (t : List UInt8) : getL (putL v ++ t) = some (v, t) := by
  obtain ⟨k, n, s, f⟩ := v
  obtain ⟨-, -, n0, n1, f0, f1⟩ := w
  simp only at n0 n1 f0 f1
  rcases h with ⟨hk, hn, hs, hf⟩ | ⟨hk, hs, hf⟩ | ⟨hk, hs, hf, hn⟩ | ⟨hk, hn, hf, hs⟩ | ⟨hk, hn, hs, hf⟩
  · simp only at hk hn hs hf
    subst hk hn hs hf
    rfl
  · simp only at hk hs hf
    subst hk hs hf
    show (readL 0 0 (natL (foldN n) ++ t)).map _ = _
    rw [read_natL _ _ (foldN_lt n0 n1)]
    simp [unfold_fold]
  · simp only at hk hs hf hn
    subst hk hs hf
    rcases hn with rfl | rfl <;> rfl
  · simp only at hk hn hf hs
    subst hk hn hf
    show (readL 0 0 ((natL s.size ++ s.data.toList) ++ t)).bind _ = _
    have hl : s.data.toList.length = s.size := (Lib.size_eq s).symm
    rw [List.append_assoc, read_natL _ _ (by omega)]
    show (if _ then _ else _) = _
    rw [if_pos ⟨hs, by simp [List.length_append, hl]⟩]
    have e1 : (s.data.toList ++ t).take s.size = s.data.toList := by rw [← hl]; simp
    have e2 : (s.data.toList ++ t).drop s.size = t := by rw [← hl]; simp
    simp only [e1, e2]
  · simp only at hk hn hs hf
    subst hk hn hs
    rw [show putL ⟨4, 0, ⟨#[]⟩, f⟩ ++ t = 4 :: (leN 8 f.toNat ++ t) from rfl, getL_cons, if_neg (by decide), if_neg (by decide), if_neg (by decide), if_neg (by decide), if_pos (by decide)]
    generalize hL : leN 8 f.toNat = L at *
    have hl := leN_length 8 f.toNat
    rw [hL] at hl
    have e1 : (L ++ t).take 8 = L := by
      have := List.take_left (l₁ := L) (l₂ := t); rwa [hl] at this
    have e2 : (L ++ t).drop 8 = t := by
      have := List.drop_left (l₁ := L) (l₂ := t); rwa [hl] at this
    have e3 : ((leV L : Nat) : Int) = f := by rw [← hL, leV_leN 8 _ (by omega)]; omega
    rw [e1, e2, e3, if_pos ⟨by rw [List.length_append, hl]; omega, hf⟩]
theorem put_inj {v w : Val} (hv : RightC v) (hw : RightC w) (wv : v.Wf) (ww : w.Wf) (h : putL v = putL w) : v = w := by
  have h1 := get_put hv wv []
  have h2 := get_put hw ww []
  rw [h, h2] at h1
  simp only [Option.some.injEq, Prod.mk.injEq, and_true] at h1
  exact h1.symm
theorem get_right {l r : List UInt8} {v : Val} (h : getL l = some (v, r)) : RightC v ∧ v.Wf ∧ r.length < l.length := by
  cases l with
  | nil => cases h
  | cons c t =>
    rw [getL_cons] at h
    split at h
    · simp only [Option.some.injEq, Prod.mk.injEq] at h
      obtain ⟨rfl, rfl⟩ := h
      exact ⟨.null rfl rfl rfl rfl, ⟨by simp, by simp, by simp, by simp, by simp, by simp⟩, by simp⟩
    split at h
    · simp only [Option.map_eq_some_iff, Prod.mk.injEq] at h
      obtain ⟨⟨u, r2⟩, h1, rfl, rfl⟩ := h
      obtain ⟨h2, h3⟩ := readL_lt t 0 0 u r2 (by decide) (by decide) h1
      obtain ⟨h4, h5⟩ := unfoldN_rng h2
      exact ⟨.int rfl rfl rfl, ⟨by simp, by simp, h4, h5, by simp, by simp⟩, by simp; omega⟩
    split at h
    · cases t with
      | nil => cases h
      | cons d t2 =>
        simp only at h
        split at h
        · rename_i hd
          simp only [Option.some.injEq, Prod.mk.injEq] at h
          obtain ⟨rfl, rfl⟩ := h
          exact ⟨.bool rfl rfl rfl (by simp only; omega), ⟨by simp, by simp, by simp only; omega, by simp only; omega, by simp, by simp⟩, by simp; omega⟩
        · cases h
    split at h
    · simp only [Option.bind_eq_some_iff] at h
      obtain ⟨⟨u, r2⟩, h1, h2⟩ := h
      simp only at h2
      split at h2
      · rename_i hu
        simp only [Option.some.injEq, Prod.mk.injEq] at h2
        obtain ⟨rfl, rfl⟩ := h2
        obtain ⟨_, h3⟩ := readL_lt t 0 0 u r2 (by decide) (by decide) h1
        refine ⟨.bytes rfl rfl rfl ?_, ⟨by simp, by simp, by simp, by simp, by simp, by simp⟩, by simp [List.length_drop]; omega⟩
        show (r2.take u).toArray.size ≤ 64
        simp; omega
      · cases h2
    split at h
    · split at h
      · rename_i h8
        simp only [Option.some.injEq, Prod.mk.injEq] at h
        obtain ⟨rfl, rfl⟩ := h
        have hlt := leV_lt (t.take 8)
        have hl8 : (t.take 8).length = 8 := by rw [List.length_take]; omega
        rw [hl8] at hlt
        refine ⟨.float rfl rfl rfl h8.2, ⟨by simp, by simp, by simp, by simp, by simp only; omega, ?_⟩, by simp [List.length_drop]; omega⟩
        simp only
        have e : (256 : Nat) ^ 8 = 18446744073709551616 := by decide
        omega
      · cases h
    · cases h
end Go.Proofs.YtacafhmagonngaaGreatDoor
namespace Go.Proofs.YtacafhmagonngaaGreatDoor
open Go.RowKit

/-- a slice of bytes, wherever it lies -/
def Sl (w : World) (v : Value) (l : List UInt8) : Prop := (v = .slice none 0 0 ∧ l = []) ∨ ∃ a c, v = .slice (some a) l.length c ∧ l.length ≤ c ∧ ∀ j u, (encB l)[j]? = some u → w.cell? (a.add j) = some u
theorem Buf.sl {w wr : World} {v : Value} {l : List UInt8} (h : Buf w wr v l) : Sl wr v l := by
  have ho := h.own
  rcases h.own.2 with ⟨hv, hn⟩ | ⟨g, cap, cur, hv, _, _, hcap, _⟩
  · exact .inl ⟨hv, List.eq_nil_of_length_eq_zero hn⟩
  · subst hv
    exact .inr ⟨_, _, rfl, hcap, fun j u hj => ho.cells rfl j _ hj⟩
theorem Buf.lit (w : World) (z : UInt8) (arr : Array Value) (h : arr = #[.int .u8 (z.toNat : Int)]) : Buf w (w.alloc (.cells arr 5)) (.slice (some ⟨w.heap.size, 0, none⟩) 1 1) [z] := by
  subst h
  exact ⟨(Below.refl _ _).alloc (Nat.le_refl _) _, rfl, .inr ⟨w.heap.size, 1, _, rfl, Nat.le_refl _, heap_alloc_new w _, Nat.le_refl _, by decide, rfl, rfl⟩⟩
theorem enc_len (l : List UInt8) : (encB l).length = l.length * 1 := by simp [encB]
theorem buf_grown {w wr W w1 : World} {v v' : Value} {l bs : List UInt8} (hB : Buf w wr v l) (hb : Below wr.heap.size wr W) (h1 : w1.ownsRow w.heap.size 5 1 v' (l.length + bs.length) (encB l ++ encB bs)) (h2 : W.grownBy w1 v.ownBlock) : Buf w w1 v' (l ++ bs) := by
  refine ⟨?_, ?_⟩
  · refine (hB.below.trans (hb.mono hB.below.size)).grown h2 (Nat.le_trans hB.below.size hb.size) ?_
    intro k hk
    exact (hB.own.lt k hk).1
  · rw [List.length_append, show encB (l ++ bs) = encB l ++ encB bs from List.map_append]
    exact h1
/-- what an append of a slice of bytes does to a slice of the call's own -/
theorem run_buf (W : World) (ty : TypeId) (w wr : World) (v xv : Value) (l bs : List UInt8) (hB : Buf w wr v l) (hlen : l.length + bs.length ≤ 1000000) (hb : Below wr.heap.size wr W) (hX : Sl W xv bs) :
    ∃ v' w1, (Builtin.append_ #[39, 39] ty #[v, xv]).run Tryz.prog W = .ok v' w1 ∧ Buf w w1 v' (l ++ bs) := by
  obtain ⟨i0, hi0, hz0, hz1, hz2⟩ := info_parts infoU8
  rcases hX with ⟨rfl, rfl⟩ | ⟨ad, c, rfl, -, hc⟩
  · refine ⟨v, W, run_append_owned_none (P := Tryz.prog) (w := W) w.heap.size 39 ty 5 i0 1 Tryz.underlying39 hi0 v l.length (encB l) (own_later hB.own hb), ?_⟩
    rw [List.append_nil]
    exact hB.later hb
  · obtain ⟨v', w1, hr, h2, h3, h4⟩ := run_append_own (P := Tryz.prog) W w.heap.size 39 ty 5 i0 (.int .u8 0) 1 1 Tryz.underlying39 hi0 hz0 hz1 hz2 rfl (by decide) v l.length (encB l) (own_later hB.own hb) ad bs.length c (encB bs) (enc_len bs) hc
      (fun u hu => by obtain ⟨j, hj⟩ := List.getElem?_of_mem hu; exact encB_get bs j u hj) (by unfold maxLen; omega) (by omega) (Nat.le_trans hB.below.size hb.size)
    exact ⟨v', w1, hr, buf_grown hB hb h2 h3⟩
theorem wpList_buf {ops : Array Oper} {rest : List Oper} {o : Oper} {a : Act} {Q : Exit → Act → World → Prop} {W : World} (hgd : o.guard = none) (s x : Operand)
    (ho : o.op = .call { callee := .builtin .append, args := #[s, x], argTypes := #[39, 39] })
    (w wr : World) (v xv : Value) (l bs : List UInt8) (hB : Buf w wr v l) (hlen : l.length + bs.length ≤ 1000000) (hb : Below wr.heap.size wr W) (hX : Sl W xv bs)
    (hs : a.eval s = v) (hx : a.eval x = xv)
    (h : ∀ v' w1, Buf w w1 v' (l ++ bs) → wpList Tryz.prog ops Q rest (a.put o.dst v') w1) : wpList Tryz.prog ops Q (o :: rest) a W := by
  refine wpList_plain hgd fun K hK => ?_
  obtain ⟨v', w1, hr, h2⟩ := run_buf W o.type w wr v xv l bs hB hlen hb hX
  unfold Oper.wp execOp
  simp only [ho, resolve, invoke, builtin, Sem.run_bind, Sem.run_pure, Result.andThen_ok, List.map_toArray, List.map_cons, List.map_nil, hs, hx, hr]
  exact hK _ _ (h v' w1 h2)
theorem step_buf {ops : Array Oper} {o : Oper} {a : Act} {K : Act → World → Prop} {Q : Exit → Act → World → Prop} {E : Prop} {W : World} (hgd : o.guard = none) (s x : Operand)
    (ho : o.op = .call { callee := .builtin .append, args := #[s, x], argTypes := #[39, 39] })
    (w wr : World) (v xv : Value) (l bs : List UInt8) (hB : Buf w wr v l) (hlen : l.length + bs.length ≤ 1000000) (hb : Below wr.heap.size wr W) (hX : Sl W xv bs)
    (hs : a.eval s = v) (hx : a.eval x = xv)
    (h : ∀ v' w1, Buf w w1 v' (l ++ bs) → K (a.put o.dst v') w1) :
    if Region.wanted o (yielded ops a.tmps) = true then Oper.wp Tryz.prog o a W K Q else E := by
  have hw : Region.wanted o (yielded ops a.tmps) = true := by simp [Region.wanted, hgd]
  rw [if_pos hw]
  obtain ⟨v', w1, hr, h2⟩ := run_buf W o.type w wr v xv l bs hB hlen hb hX
  unfold Oper.wp execOp
  simp only [ho, resolve, invoke, builtin, Sem.run_bind, Sem.run_pure, Result.andThen_ok, List.map_toArray, List.map_cons, List.map_nil, hs, hx, hr]
  exact h v' w1 h2
theorem strCells_enc (s : ByteArray) : Lib.strCells s = encB s.data.toList := by
  unfold Lib.strCells encB
  first | rfl | simp
theorem run_bufS (W : World) (ty : TypeId) (w wr : World) (v : Value) (l : List UInt8) (s : ByteArray) (hB : Buf w wr v l) (hlen : l.length + s.size ≤ 1000000) (hb : Below wr.heap.size wr W) :
    ∃ v' w1, (Builtin.append_ #[39, 9] ty #[v, .string s]).run Tryz.prog W = .ok v' w1 ∧ Buf w w1 v' (l ++ s.data.toList) := by
  obtain ⟨i0, hi0, hz0, hz1, hz2⟩ := info_parts infoU8
  obtain ⟨v', w1, hr, h2, h3, h4⟩ := Lib.run_append_own_string (P := Tryz.prog) W w.heap.size 39 9 ty 5 i0 Tryz.underlying39 Tryz.underlying9 hi0 hz0 hz1 hz2 v l.length (encB l) (own_later hB.own hb) s (by unfold maxLen; omega) (by omega) (Nat.le_trans hB.below.size hb.size)
  rw [strCells_enc, Lib.size_eq] at h2
  exact ⟨v', w1, hr, buf_grown hB hb h2 h3⟩
theorem wpList_bufS {ops : Array Oper} {rest : List Oper} {o : Oper} {a : Act} {Q : Exit → Act → World → Prop} {W : World} (hgd : o.guard = none) (s x : Operand)
    (ho : o.op = .call { callee := .builtin .append, args := #[s, x], argTypes := #[39, 9] })
    (w wr : World) (v : Value) (l : List UInt8) (t : ByteArray) (hB : Buf w wr v l) (hlen : l.length + t.size ≤ 1000000) (hb : Below wr.heap.size wr W)
    (hs : a.eval s = v) (hx : a.eval x = .string t)
    (h : ∀ v' w1, Buf w w1 v' (l ++ t.data.toList) → wpList Tryz.prog ops Q rest (a.put o.dst v') w1) : wpList Tryz.prog ops Q (o :: rest) a W := by
  refine wpList_plain hgd fun K hK => ?_
  obtain ⟨v', w1, hr, h2⟩ := run_bufS W o.type w wr v l t hB hlen hb
  unfold Oper.wp execOp
  simp only [ho, resolve, invoke, builtin, Sem.run_bind, Sem.run_pure, Result.andThen_ok, List.map_toArray, List.map_cons, List.map_nil, hs, hx, hr]
  exact hK _ _ (h v' w1 h2)
theorem step_bufS {ops : Array Oper} {o : Oper} {a : Act} {K : Act → World → Prop} {Q : Exit → Act → World → Prop} {E : Prop} {W : World} (hgd : o.guard = none) (s x : Operand)
    (ho : o.op = .call { callee := .builtin .append, args := #[s, x], argTypes := #[39, 9] })
    (w wr : World) (v : Value) (l : List UInt8) (t : ByteArray) (hB : Buf w wr v l) (hlen : l.length + t.size ≤ 1000000) (hb : Below wr.heap.size wr W)
    (hs : a.eval s = v) (hx : a.eval x = .string t)
    (h : ∀ v' w1, Buf w w1 v' (l ++ t.data.toList) → K (a.put o.dst v') w1) :
    if Region.wanted o (yielded ops a.tmps) = true then Oper.wp Tryz.prog o a W K Q else E := by
  have hw : Region.wanted o (yielded ops a.tmps) = true := by simp [Region.wanted, hgd]
  rw [if_pos hw]
  obtain ⟨v', w1, hr, h2⟩ := run_bufS W o.type w wr v l t hB hlen hb
  unfold Oper.wp execOp
  simp only [ho, resolve, invoke, builtin, Sem.run_bind, Sem.run_pure, Result.andThen_ok, List.map_toArray, List.map_cons, List.map_nil, hs, hx, hr]
  exact h v' w1 h2
set_option maxHeartbeats 8000000 in
set_option maxRecDepth 100000 in
theorem clone_any (w : World) (v : Value) (l : List UInt8) (hs : Sl w v l) (hl : l.length ≤ 1000000) :
    Calls Tryz.prog 42 #[v] w fun e w' => ∃ v', e = .returned v' ∧ Buf w w' v' l := by
  obtain ⟨i0, hi, hz0, hz1, hz2⟩ := info_parts infoU8
  have q22 : ∀ (w : World) (a : Option Addr) (n c n' c' : Nat), (binOp .eql 39 (.slice a n c) (.slice none n' c')).run Tryz.prog w = .ok (.bool a.isNone) w := fun w a n c n' c' => Lib.run_eql_slice_nil w _ _ a n c n' c' Tryz.underlying39
  rcases hs with ⟨rfl, rfl⟩ | ⟨a, c, rfl, -, hc⟩
  · go_enter Tryz.func42, Tryz.ntmps42
    go_wp2_with fail
    go_ret
    exact ⟨_, rfl, Buf.start w⟩
  · have A := Lib.hid hc
    clear hc
    go_enter Tryz.func42, Tryz.ntmps42
    go_wp2_with (at_builtin; refine wpList_append_own _ rfl _ _ 39 rfl w.heap.size 5 i0 (.int .u8 0) 1 1 Tryz.underlying39 hi hz0 hz1 hz2 rfl (by decide) _ _ _ rfl (World.ownsRow_made w #[] 0 (Nat.le_refl _) (Nat.zero_le _) rfl) a l.length c (encB l) rfl ?qc1 ?qc2 ?qc3 ?qc4 ?qc5 ?qc6 ?_)
    case qc1 => simp [encB]
    case qc2 =>
      intro j u hj
      exact Lib.cell?_alloc_some _ (A.out j u hj)
    case qc3 =>
      intro u hu
      obtain ⟨j, hj⟩ := List.getElem?_of_mem hu
      exact encB_get l j u hj
    case qc4 => unfold maxLen; omega
    case qc5 => omega
    case qc6 => simp
    intro v' w1 hown hgrow hnil
    go_wp2_with fail
    go_ret
    exact ⟨v', rfl, ((Below.refl _ w).alloc (Nat.le_refl _) _).grown hgrow (by simp) (by intro k hk; simp [Value.ownBlock] at hk; omega), by simpa using hown⟩
theorem or128 (c : Nat) (h : c < 256) : bits BinOp.or .u8 (c : Int) 128 = ((128 + c % 128 : Nat) : Int) := by
  have h2 := (bits_nat .u8 8 (by decide) wraps_u8 c 128 h (by decide)).2
  have h3 : ∀ c, c < 256 → c ||| 128 = 128 + c % 128 := by decide +kernel
  rw [h3 c h] at h2
  exact h2
set_option maxHeartbeats 8000000 in
set_option maxRecDepth 100000 in
theorem natural_any (w : World) (v : Value) (l : List UInt8) (n : Nat) (hs : Sl w v l) (hl : l.length ≤ 100000) (hn : n < 18446744073709551616) :
    Calls Tryz.prog 72 #[v, .int .u64 (n : Int)] w fun e w' => ∃ v', e = .returned v' ∧ Buf w w' v' (l ++ natL n) := by
  have Hc := Lib.hid (clone_any w v l hs (by omega))
  have Hn := Lib.hid hn
  have Hl := Lib.hid hl
  clear hs hn hl
  obtain ⟨N, hN⟩ : ∃ N : Int, N = (n : Int) := ⟨_, rfl⟩
  rw [← hN]
  have HN := Lib.hid hN
  clear hN
  go_enter Tryz.func72, Tryz.ntmps72
  go_wp2_with fail
  refine Hc.out.mono ?_
  rintro e w1 ⟨v1, rfl, hb⟩
  have Hb := Lib.hid hb
  clear hb Hc
  go_wp2_with fail
  go_loopg [1, 5] 9 (fun mm nv out wr => ∃ (cur : Nat) (I : Int) (pre : List UInt8), nv = .int .u64 I ∧ Hid (I = (cur : Int) ∧ pre ++ natF mm cur = natL n ∧ cur * 128 ^ (9 - mm) < 18446744073709551616 ∧ pre.length + mm ≤ 9 ∧ mm ≤ 9) ∧ Buf w wr out (l ++ pre))
  case atStart => exact ⟨n, N, [], rfl, Lib.hid ⟨HN.out, rfl, by simpa using Hn.out, by decide, by decide⟩, by rw [List.append_nil]; exact Hb.out⟩
  case round =>
    obtain ⟨cur, I, pre, rfl, HI, hb⟩ := hrel
    have Hb2 := Lib.hid hb
    clear hb Hb
    have hI0 : 0 ≤ I := by have := HI.out.1; omega
    have hal : (l ++ pre).length + 1 ≤ 1000000 := by have := HI.out.2.2.2.1; have := Hl.out; rw [List.length_append]; omega
    have Hal := Lib.hid hal
    clear hal
    by_cases hm : cur < 128
    · have hI1 : I < 128 := by have := HI.out.1; omega
      obtain ⟨z, hz⟩ : ∃ z, z = UInt8.ofNat cur := ⟨_, rfl⟩
      have hzn : (z.toNat : Int) = I := by rw [hz, ofNat_toNat (by omega)]; exact HI.out.1.symm
      have Hzn := Lib.hid hzn
      have hnat : natF gk cur = [z] := by
        rw [hz]
        cases gk with
        | zero => rfl
        | succ k => unfold natF; rw [if_pos hm]
      have hall : l ++ pre ++ [z] = l ++ natL n := by rw [← HI.out.2.1, hnat, List.append_assoc]
      have Hall := Lib.hid hall
      have hw8 : IntKind.u8.wrap I = I := by rw [show IntKind.u8.wrap I = I % 256 from rfl]; omega
      clear hm hz hzn hnat hall
      go_wp2_with (at_builtin; refine wpList_buf rfl (.tmp 18) (.tmp 21) rfl w wr _ _ _ [z] Hb2.out Hal.out ((Below.refl _ _).alloc (Nat.le_refl _) _) (Buf.lit wr z _ (by rw [Hzn.out])).sl rfl rfl ?_; intro v' w1 hb1; have Hb1 := Lib.hid hb1; clear hb1)
      go_ret
      exact ⟨_, rfl, by rw [← Hall.out]; exact Hb1.out⟩
    · have hI1 : ¬ I < 128 := by have := HI.out.1; omega
      have hgk : gk ≠ 0 := by
        intro e
        have h3 := HI.out.2.2.1
        rw [e] at h3
        have e2 : (128 : Nat) ^ (9 - 0) = 9223372036854775808 := by decide
        rw [e2] at h3
        omega
      obtain ⟨k, rfl⟩ : ∃ k, gk = k + 1 := ⟨gk - 1, by omega⟩
      obtain ⟨z, hz⟩ : ∃ z, z = UInt8.ofNat (128 + cur % 128) := ⟨_, rfl⟩
      have hcI : (cur : Int) = I := HI.out.1.symm
      have hzn : (z.toNat : Int) = 128 + I % 128 := by rw [hz, ofNat_toNat (by omega)]; omega
      have hor := or128 (cur % 256) (by omega)
      rw [show ((128 + cur % 256 % 128 : Nat) : Int) = 128 + I % 128 from by omega, show ((cur % 256 : Nat) : Int) = I % 256 from by omega] at hor
      have Hzn := Lib.hid hzn
      have hnat : natF (k + 1) cur = z :: natF k (cur / 128) := by rw [hz]; show (if cur < 128 then _ else _) = _; rw [if_neg hm]
      have hst : (pre ++ [z]) ++ natF k (cur / 128) = natL n := by rw [← HI.out.2.1, hnat, List.append_assoc]; rfl
      have hle : cur / 128 * 128 ^ (9 - k) < 18446744073709551616 := by
        have h3 := HI.out.2.2.1
        have hk := HI.out.2.2.2.2
        rw [show 9 - k = (9 - (k + 1)) + 1 from by omega, Nat.pow_succ, Nat.mul_comm (128 ^ (9 - (k + 1))) 128, ← Nat.mul_assoc]
        exact Nat.lt_of_le_of_lt (Nat.mul_le_mul_right _ (Nat.div_mul_le_self _ _)) h3
      have HN2 : Hid (I / 128 = ((cur / 128 : Nat) : Int) ∧ (pre ++ [z]) ++ natF k (cur / 128) = natL n ∧ cur / 128 * 128 ^ (9 - k) < 18446744073709551616 ∧ (pre ++ [z]).length + k ≤ 9 ∧ k ≤ 9) := Lib.hid ⟨by omega, hst, hle, by rw [List.length_append]; have := HI.out.2.2.2.1; simp; omega, by have := HI.out.2.2.2.2; omega⟩
      have hw8 : IntKind.u8.wrap I = I % 256 := rfl
      have hI9 : I < 18446744073709551616 := by
        have h3 := HI.out.2.2.1
        have : cur ≤ cur * 128 ^ (9 - (k + 1)) := Nat.le_mul_of_pos_right _ (Nat.pow_pos (by decide))
        omega
      clear hm hz hzn hnat hst hle hgk hcI
      go_wp2_with (at_builtin; refine wpList_buf rfl (.tmp 12) (.tmp 16) rfl w wr _ _ _ [z] Hb2.out Hal.out ((Below.refl _ _).alloc (Nat.le_refl _) _) (Buf.lit wr z _ (by rw [Hzn.out])).sl rfl rfl ?_; intro v' w1 hb1; have Hb1 := Lib.hid hb1; clear hb1)
      go_roundg k
      case measure => omega
      case rel => exact ⟨cur / 128, I / 128, pre ++ [z], by go_num, HN2.out, by rw [← List.append_assoc]; exact Hb1.out⟩
end Go.Proofs.YtacafhmagonngaaGreatDoor
namespace Go.Proofs.YtacafhmagonngaaGreatDoor
open Go.ChangeShapes Go.WideShapes Go.ChangeAt Go.RowKit Go.Joins

section
variable {H : Type} {enc : TypeId × Value → H} {W : World} {base : Nat} {spare : Nat → Bool}
set_option maxRecDepth 100000 in
theorem open_sl {r : Reach} {b0 : Nat} {v : Value} {d : DataW H} {p : List MemPlace} (hv : Value.okWide Tryz.prog W r b0 39 v) (h : DataW.Trod enc Tryz.prog W base (fun _ => true) true 39 v d p) :
    ∃ l : List UInt8, Sl W v l := by
  obtain ⟨a1, len, cap, rfl⟩ := okWide_slice Tryz.underlying39 hv
  obtain ⟨fuel, hf⟩ := h
  rcases open_ints Tryz.underlying39 Tryz.underlying5 (by kernel_rfl) hf with ⟨hcs, hx⟩ | ⟨a, len', cap', zs, hcs, _, hl, hm, hz, hx, hcell, hwz⟩
  · simp [Value.cells] at hcs
    obtain ⟨rfl, rfl, rfl⟩ := hcs
    exact ⟨[], .inl ⟨rfl, rfl⟩⟩
  · simp [Value.cells] at hcs
    obtain ⟨rfl, rfl, rfl⟩ := hcs
    simp only [if_true] at hz
    have hlen : ((zs.take len).map fun n => UInt8.ofNat n.toNat).length = len := by simp; omega
    refine ⟨(zs.take len).map fun n => UInt8.ofNat n.toNat, .inr ⟨a, cap, by rw [hlen], by rw [hlen]; exact hl, fun j u hj => ?_⟩⟩
    have hjl : j < len := by
      have := (List.getElem?_eq_some_iff.1 hj).1
      unfold encB at this
      rw [List.length_map, hlen] at this
      exact this
    have hcj := hcell j (by omega)
    rw [hcj]
    have hb := range_u8 hwz j
    have e : zs.getD j 0 = zs[j]'(by omega) := by simp [List.getD, List.getElem?_eq_getElem (show j < zs.length by omega)]
    rw [List.getD_eq_getElem?_getD] at e
    rw [e] at hb
    unfold encB at hj
    rw [List.getElem?_map, List.getElem?_map, List.getElem?_take_of_lt hjl, List.getElem?_eq_getElem (show j < zs.length by omega)] at hj
    simp only [Option.map_some, Option.some.injEq] at hj
    rw [← hj, List.getD_eq_getElem?_getD, e]
    congr 2
    simp only [UInt8.toNat_ofNat']
    omega
end
section
variable {H : Type} {enc : TypeId × Value → H} {P : Program} {w : World} {base : Nat} {spare : Nat → Bool} {held : Bool}
theorem open_pair8 {r : Reach} {b0 : Nat} {t e : TypeId} {v : Value} {d : DataW H} {p : List MemPlace} (hs : P.underlying t = some (.array 2 e)) (he : P.underlying e = some (.int .u8)) (ce : P.cellsOf e = 1) (hC : P.cellsOf t = 2)
    (hv : Value.okWide P w r b0 t v) (h : DataW.Trod enc P w base spare held t v d p) :
    ∃ a b : Int, v = .agg #[.int .u8 a, .int .u8 b] ∧ d = .agg [.lit (.int .u8 a), .lit (.int .u8 b)] ∧ p = [] ∧ (Lit.int .u8 a).wf = true ∧ (Lit.int .u8 b).wf = true := by
  have hv2 : ∃ cs, v = .agg cs ∧ cs.size = P.cellsOf t := by
    simp only [Value.okWide, hs] at hv
    obtain ⟨cs, h1, h2, _⟩ := hv
    exact ⟨cs, h1, h2⟩
  obtain ⟨cs, rfl, hsz⟩ := hv2
  obtain ⟨c0, c1, rfl⟩ := array2 (hsz.trans hC)
  obtain ⟨fuel, hf⟩ := h
  obtain ⟨xs, m, _, hx, hl, hn, hi⟩ := DataW.trod_array hs hf
  have h0 := hi 0 (by decide)
  have h1 := hi 1 (by decide)
  simp only [Value.cells, ce] at h0 h1
  match xs, hn with
  | [x0, x1], _ =>
    simp only [List.getElem?_cons_zero, List.getElem?_cons_succ] at h0 h1
    obtain ⟨a, ha, rfl, wa⟩ := DataW.trod_int he h0
    obtain ⟨b, hb, rfl, wb⟩ := DataW.trod_int he h1
    simp at ha hb
    subst ha hb
    simp only [Prod.mk.injEq] at hx
    exact ⟨a, b, rfl, by simpa using hx.1, by simpa using hx.2, wa, wb⟩
theorem shut_pair8 {t e : TypeId} {a b : Int} (hs : P.underlying t = some (.array 2 e)) (he : P.underlying e = some (.int .u8)) (ce : P.cellsOf e = 1) (hC : P.cellsOf t = 2)
    (wa : (Lit.int .u8 a).wf = true) (wb : (Lit.int .u8 b).wf = true) :
    DataW.Trod enc P w base spare held t (.agg #[.int .u8 a, .int .u8 b]) (.agg [.lit (.int .u8 a), .lit (.int .u8 b)]) [] := by
  refine ⟨2, ?_⟩
  unfold DataW.trod
  rw [hs]
  simp [Value.cells, hC, ce, trod_int_mk (enc := enc) (w := w) (base := base) (spare := spare) (held := held) 0 he wa, trod_int_mk (enc := enc) (w := w) (base := base) (spare := spare) (held := held) 0 he wb, List.range, List.range.loop]
end
end Go.Proofs.YtacafhmagonngaaGreatDoor
namespace Go.Proofs.YtacafhmagonngaaGreatDoor
open Go.RowKit

/-- as it was but for block R -/
structure But (R : Nat) (w w' : World) : Prop where
  os : w'.os = w.os
  tape : w'.tape = w.tape
  output : w'.output = w.output
  size : w.heap.size ≤ w'.heap.size
  block : ∀ k, k < w.heap.size → k ≠ R → w'.heap[k]? = w.heap[k]?
theorem But.refl (R : Nat) (w : World) : But R w w := ⟨rfl, rfl, rfl, Nat.le_refl _, fun _ _ _ => rfl⟩
theorem But.trans {R : Nat} {a b c : World} (h : But R a b) (k : But R b c) : But R a c :=
  ⟨k.os.trans h.os, k.tape.trans h.tape, k.output.trans h.output, Nat.le_trans h.size k.size, fun i hi hR => (k.block i (Nat.lt_of_lt_of_le hi h.size) hR).trans (h.block i hi hR)⟩
theorem But.of {R : Nat} {a b : World} (h : Below a.heap.size a b) : But R a b := ⟨h.os, h.tape, h.output, h.size, fun k hk _ => h.block k hk⟩
theorem But.set {R : Nat} {a w : World} (h : But R a w) (o : Nat) (v : Value) : But R a (w.setCell ⟨R, o, none⟩ v) :=
  h.trans ⟨rfl, rfl, rfl, by simp [World.setCell], fun k hk hR => Below.heap_setCell _ _ _ _ hR⟩
theorem But.below {R B : Nat} {a w : World} (h : But R a w) (hB : B ≤ R) (hs : B ≤ a.heap.size) : Below B a w := ⟨h.os, h.tape, h.output, h.size, fun k hk => h.block k (by omega) (by omega)⟩
theorem But.cell {R : Nat} {w w' : World} (h : But R w w') {p : Addr} {v : Value} (hp : w.cell? p = some v) (hR : p.block ≠ R) : w'.cell? p = some v :=
  (World.cell?_of_block (w := w) (h.block p.block (World.block_lt_of_cell? w _ hp) hR)).trans hp
theorem But.frozen {R : Nat} {w w' : World} (h : But R w w') {p : Addr} (hp : p.block < w.heap.size) (hR : p.block ≠ R) : w'.frozen? p = w.frozen? p := World.frozen?_of_block (w := w) (h.block p.block hp hR)
theorem At.but {w w' : World} {b R : Nat} {k n : Int} {s : ByteArray} {f : Int} (h : At w b k n s f) (hb : But R w w') (hB : b ≠ R) : At w' b k n s f where
  c0 := hb.cell h.c0 hB
  c1 := hb.cell h.c1 hB
  c2 := hb.cell h.c2 hB
  c3 := hb.cell h.c3 hB
  z := fun o => (hb.frozen h.lt hB).trans (h.z o)
  lt := Nat.lt_of_lt_of_le h.lt hb.size
/-- a slice of bytes that doesn't lie in block R -/
def SlB (w : World) (R : Nat) (v : Value) (l : List UInt8) : Prop := (v = .slice none 0 0 ∧ l = []) ∨ ∃ g off c, v = .slice (some ⟨g, off, none⟩) l.length c ∧ l.length ≤ c ∧ g < R ∧ ∀ j u, (encB l)[j]? = some u → w.cell? ⟨g, off + j, none⟩ = some u
theorem SlB.but {w w' : World} {R : Nat} {v : Value} {l : List UInt8} (h : SlB w R v l) (hb : But R w w') : SlB w' R v l := by
  rcases h with h | ⟨g, off, c, h1, h2, h3, h4⟩
  · exact .inl h
  · exact .inr ⟨g, off, c, h1, h2, h3, fun j u hj => hb.cell (h4 j u hj) (Nat.ne_of_lt h3)⟩
/-- a reader that isn't bad -/
structure RdAt (w : World) (R : Nat) (l : List UInt8) : Prop where
  c0 : ∃ v, w.cell? ⟨R, 0, none⟩ = some v ∧ SlB w R v l
  c1 : w.cell? ⟨R, 1, none⟩ = some (.bool false)
  z : ∀ o, w.frozen? ⟨R, o, none⟩ = false
  lt : R < w.heap.size
/-- a reader that is bad -/
structure RdBad (w : World) (R : Nat) : Prop where
  c0 : ∃ v, w.cell? ⟨R, 0, none⟩ = some v
  c1 : w.cell? ⟨R, 1, none⟩ = some (.bool true)
  z : ∀ o, w.frozen? ⟨R, o, none⟩ = false
  lt : R < w.heap.size
theorem RdAt.below {w w' : World} {R : Nat} {l : List UInt8} (h : RdAt w R l) (hb : Below w.heap.size w w') : RdAt w' R l where
  c0 := by
    obtain ⟨v, h1, h2⟩ := h.c0
    exact ⟨v, (hb.cell h.lt).trans h1, h2.but (But.of hb)⟩
  c1 := (hb.cell h.lt).trans h.c1
  z := fun o => (hb.frozen h.lt).trans (h.z o)
  lt := Nat.lt_of_lt_of_le h.lt hb.size
theorem RdBad.below {w w' : World} {R : Nat} (h : RdBad w R) (hb : Below w.heap.size w w') : RdBad w' R where
  c0 := by
    obtain ⟨v, h1⟩ := h.c0
    exact ⟨v, (hb.cell h.lt).trans h1⟩
  c1 := (hb.cell h.lt).trans h.c1
  z := fun o => (hb.frozen h.lt).trans (h.z o)
  lt := Nat.lt_of_lt_of_le h.lt hb.size
theorem RdAt.off {w : World} {R D : Nat} {l : List UInt8} (h : RdAt w R l) (hD : R < D) (o : Nat) (u : Value) : RdAt (w.setCell ⟨D, o, none⟩ u) R l := by
  obtain ⟨⟨v, h1, h2⟩, c1, z, lt⟩ := h
  have ne : ∀ b i : Nat, b ≤ R → (⟨D, o, none⟩ : Addr) ≠ ⟨b, i, none⟩ := fun b i hb h => by injection h with h _; omega
  refine ⟨⟨v, cell_off h1 (ne R 0 (Nat.le_refl _)), ?_⟩, cell_off c1 (ne R 1 (Nat.le_refl _)), fun i => (World.frozen?_setCell _ _ _ _).trans (z i), by simpa [World.setCell] using lt⟩
  rcases h2 with h | ⟨g, off, c, e1, e2, e3, e4⟩
  · exact .inl h
  · exact .inr ⟨g, off, c, e1, e2, e3, fun j u hj => cell_off (e4 j u hj) (ne g _ (by omega))⟩
theorem addr_ne (b : Nat) {i j : Nat} (e : i ≠ j) : (⟨b, i, none⟩ : Addr) ≠ ⟨b, j, none⟩ := fun h => by injection h with _ h; exact e h
theorem RdAt.moved {w : World} {R : Nat} {l r : List UInt8} {v : Value} (h : RdAt w R l) (hv : SlB w R v r) : RdAt (w.setCell ⟨R, 0, none⟩ v) R r where
  c0 := by
    obtain ⟨u, h1, h2⟩ := h.c0
    exact ⟨v, World.cell?_setCell_same _ _ _ h1, hv.but ((But.refl R w).set 0 v)⟩
  c1 := cell_off h.c1 (addr_ne R (by decide))
  z := fun o => (World.frozen?_setCell _ _ _ _).trans (h.z o)
  lt := by simpa [World.setCell] using h.lt
theorem RdAt.bad {w : World} {R : Nat} {l : List UInt8} (h : RdAt w R l) : RdBad (w.setCell ⟨R, 1, none⟩ (.bool true)) R where
  c0 := by
    obtain ⟨u, h1, h2⟩ := h.c0
    exact ⟨u, cell_off h1 (addr_ne R (by decide))⟩
  c1 := cell_at h.c1 rfl
  z := fun o => (World.frozen?_setCell _ _ _ _).trans (h.z o)
  lt := by simpa [World.setCell] using h.lt
theorem RdBad.bad {w : World} {R : Nat} (h : RdBad w R) : RdBad (w.setCell ⟨R, 1, none⟩ (.bool true)) R where
  c0 := by
    obtain ⟨u, h1⟩ := h.c0
    exact ⟨u, cell_off h1 (addr_ne R (by decide))⟩
  c1 := cell_at h.c1 rfl
  z := fun o => (World.frozen?_setCell _ _ _ _).trans (h.z o)
  lt := by simpa [World.setCell] using h.lt
theorem SlB.tail {w : World} {R g off c : Nat} {b : UInt8} {t : List UInt8} (h1 : (b :: t).length ≤ c) (hR : g < R) (hc : ∀ j u, (encB (b :: t))[j]? = some u → w.cell? ⟨g, off + j, none⟩ = some u) :
    (c = 1 → SlB w R (.slice (some ⟨g, off, none⟩) ((b :: t).length - 1) 0) t) ∧ (c ≠ 1 → SlB w R (.slice (some ⟨g, off + 1, none⟩) ((b :: t).length - 1) (c - 1)) t) := by
  refine ⟨fun h => ?_, fun h => ?_⟩
  · have : t = [] := List.eq_nil_of_length_eq_zero (by simp at h1; omega)
    subst this
    exact .inr ⟨g, off, 0, rfl, Nat.le_refl _, hR, fun j u hj => by simp at hj⟩
  · refine .inr ⟨g, off + 1, c - 1, rfl, by simp at h1; omega, hR, fun j u hj => ?_⟩
    have := hc (j + 1) u hj
    rwa [show off + 1 + j = off + (j + 1) from by omega]
theorem fail_any (w : World) (R : Nat) (hc : ∃ b, w.cell? ⟨R, 1, none⟩ = some (.bool b)) (hz : w.frozen? ⟨R, 1, none⟩ = false) :
    Calls Tryz.prog 78 #[.pointer (some ⟨R, 0, none⟩)] w fun e w' => e = .returned (.bool false) ∧ w' = w.setCell ⟨R, 1, none⟩ (.bool true) := by
  obtain ⟨b, hb⟩ := hc
  go_enter Tryz.func78, Tryz.ntmps78
  go_wp2_with fail
  go_ret
  exact ⟨rfl, rfl⟩
set_option maxHeartbeats 8000000 in
set_option maxRecDepth 100000 in
theorem byte_ok (w : World) (R : Nat) (b : UInt8) (t : List UInt8) (h : RdAt w R (b :: t)) :
    Calls Tryz.prog 43 #[.pointer (some ⟨R, 0, none⟩)] w fun e w' => e = .returned (.tuple #[.int .u8 (b.toNat : Int), .bool true]) ∧ RdAt w' R t ∧ But R w w' := by
  have H := Lib.hid h
  obtain ⟨⟨v, c0, hv⟩, c1, z, -⟩ := h
  rcases hv with ⟨-, e⟩ | ⟨g, off, c, rfl, hc, hR, hcell⟩
  · cases e
  have z0 := z 0
  have e0 := hcell 0 _ rfl
  have Hs := Lib.hid (SlB.tail hc hR hcell)
  have hlen : 1 ≤ (b :: t).length := by simp
  generalize (b :: t).length = N at *
  have hN : ((N : Int) == 0) = false := by rw [beq_eq_false_iff_ne]; omega
  have hN1 : (0 : Int) < (N : Int) := by omega
  rw [Nat.add_zero] at e0
  clear z hcell hc
  go_enter Tryz.func43, Tryz.ntmps43
  go_wp2_with fail
  · go_ret2
    exact ⟨rfl, H.out.moved (Hs.out.1 (by assumption)), (But.refl R w).set 0 _⟩
  · go_ret2
    exact ⟨rfl, H.out.moved (Hs.out.2 (by assumption)), (But.refl R w).set 0 _⟩
set_option maxHeartbeats 8000000 in
set_option maxRecDepth 100000 in
theorem byte_end (w : World) (R : Nat) (h : RdAt w R []) :
    Calls Tryz.prog 43 #[.pointer (some ⟨R, 0, none⟩)] w fun e w' => e = .returned (.tuple #[.int .u8 0, .bool false]) ∧ RdBad w' R ∧ But R w w' := by
  have H := Lib.hid h
  obtain ⟨⟨v, c0, hv⟩, c1, z, -⟩ := h
  have Hf := Lib.hid (fail_any w R ⟨_, c1⟩ (z 1))
  have hv2 : ∃ a c, v = .slice a 0 c := by
    rcases hv with ⟨e, -⟩ | ⟨g, off, c, e, -⟩
    · exact ⟨none, 0, e⟩
    · exact ⟨_, c, e⟩
  obtain ⟨a, c, rfl⟩ := hv2
  clear hv z
  go_enter Tryz.func43, Tryz.ntmps43
  go_wp2_with fail
  refine Hf.out.mono ?_
  rintro e w1 ⟨rfl, rfl⟩
  go_wp2_with fail
  go_ret2
  exact ⟨rfl, H.out.bad, (But.refl R w).set 1 _⟩
set_option maxHeartbeats 8000000 in
set_option maxRecDepth 100000 in
theorem byte_bad (w : World) (R : Nat) (h : RdBad w R) :
    Calls Tryz.prog 43 #[.pointer (some ⟨R, 0, none⟩)] w fun e w' => e = .returned (.tuple #[.int .u8 0, .bool false]) ∧ RdBad w' R ∧ But R w w' := by
  have H := Lib.hid h
  obtain ⟨⟨v, c0⟩, c1, z, -⟩ := h
  have Hf := Lib.hid (fail_any w R ⟨_, c1⟩ (z 1))
  clear z
  go_enter Tryz.func43, Tryz.ntmps43
  go_wp2_with fail
  refine Hf.out.mono ?_
  rintro e w1 ⟨rfl, rfl⟩
  go_wp2_with fail
  go_ret2
  exact ⟨rfl, H.out.bad, (But.refl R w).set 1 _⟩
set_option maxHeartbeats 8000000 in
set_option maxRecDepth 100000 in
theorem done_any (w : World) (R : Nat) (l : List UInt8) (h : RdAt w R l) :
    Calls Tryz.prog 20 #[.pointer (some ⟨R, 0, none⟩)] w fun e w' => e = .returned (.bool (decide (l = []))) ∧ w' = w := by
  obtain ⟨⟨v, c0, hv⟩, c1, z, -⟩ := h
  have hv2 : ∃ a c, v = .slice a l.length c := by
    rcases hv with ⟨e, h⟩ | ⟨g, off, c, e, -⟩
    · exact ⟨none, 0, by rw [e, h]; rfl⟩
    · exact ⟨_, c, e⟩
  obtain ⟨a, c, rfl⟩ := hv2
  have hl : ((l.length : Int) == 0) = decide (l = []) := by
    cases l with
    | nil => rfl
    | cons b t => rw [decide_eq_false (by simp), beq_eq_false_iff_ne]; simp; omega
  clear hv z
  generalize (l.length) = N at *
  generalize (decide (l = [])) = D at *
  go_enter Tryz.func20, Tryz.ntmps20
  go_wp2_with fail
  go_ret
  exact ⟨rfl, rfl⟩
set_option maxHeartbeats 8000000 in
set_option maxRecDepth 100000 in
theorem open_any (w : World) (v : Value) (l : List UInt8) (hs : Sl w v l) (hl : l.length ≤ 1000000) :
    Calls Tryz.prog 17 #[v] w fun e w' => ∃ R, w.heap.size ≤ R ∧ e = .returned (.pointer (some ⟨R, 0, none⟩)) ∧ RdAt w' R l ∧ Below w.heap.size w w' := by
  have Hc := Lib.hid (clone_any w v l hs hl)
  clear hs hl
  go_enter Tryz.func17, Tryz.ntmps17
  go_wp2_with fail
  refine Hc.out.mono ?_
  rintro e w1 ⟨v1, rfl, hb⟩
  have Hb := Lib.hid hb
  clear hb
  obtain ⟨g1, cap1, hv1⟩ := Hb.out.form
  subst hv1
  go_wp2_with fail
  go_ret
  refine ⟨w1.heap.size, Hb.out.below.size, rfl, ⟨⟨_, by simp; rfl, ?_⟩, by simp, fun o => by simp, by simp⟩, Hb.out.below.alloc Hb.out.below.size _⟩
  have ho := Hb.out.own
  rcases Hb.out.own.2 with ⟨hv, hn⟩ | ⟨g, cap, cur, hv, h3, h4, h5, -⟩
  · exact .inl ⟨hv, List.eq_nil_of_length_eq_zero hn⟩
  · obtain ⟨rfl, rfl⟩ : g1 = some ⟨g, 0, none⟩ ∧ cap1 = cap := by
      injection hv with e1 e2 e3
      exact ⟨e1, e3⟩
    have hg : g < w1.heap.size := (ho.lt g rfl).2
    refine .inr ⟨g, 0, cap1, rfl, ?_, by omega, fun j u hj => ?_⟩
    · exact h5
    · rw [Nat.zero_add]
      exact (((Below.refl w1.heap.size w1).alloc (Nat.le_refl _) _).cell (show g < w1.heap.size from hg)).trans (by
        have := ho.cells rfl j _ hj
        rwa [Addr.add_lit, Nat.zero_add] at this)
end Go.Proofs.YtacafhmagonngaaGreatDoor
namespace Go.Proofs.YtacafhmagonngaaGreatDoor
open Go.RowKit

/-- how a reading of a number ends -/
def NatEnds (R : Nat) (l : List UInt8) (w w' : World) (e : Ending) : Prop :=
  (∃ u r, readL 0 0 l = some (u, r) ∧ e = .returned (.tuple #[.int .u64 (u : Int), .bool true]) ∧ RdAt w' R r ∧ But R w w') ∨
  (readL 0 0 l = none ∧ e = .returned (.tuple #[.int .u64 0, .bool false]) ∧ RdBad w' R ∧ But R w w')
theorem and127 (c : Nat) (h : c < 256) : bits BinOp.and .u8 (c : Int) 127 = ((c % 128 : Nat) : Int) := by
  have h := (bits_nat .u8 8 (by decide) wraps_u8 c 127 h (by decide)).1
  rw [show (127 : Nat) = 2 ^ 7 - 1 from by decide, Nat.and_two_pow_sub_one_eq_mod] at h
  exact h
theorem or_hi (a b i : Nat) (ha : a < 128 ^ i) (h : b * 128 ^ i < 18446744073709551616) (h2 : a < 18446744073709551616) : bits BinOp.or .u64 (a : Int) ((b * 128 ^ i : Nat) : Int) = ((a + b * 128 ^ i : Nat) : Int) := by
  have h3 := (bits_nat .u64 64 (by decide) (fun n h0 h1 => by rw [IntKind.wrap_u64]; omega) a (b * 128 ^ i) h2 h).2
  rw [h3]
  have e : (128 : Nat) ^ i = 2 ^ (7 * i) := by rw [Nat.pow_mul]
  rw [e] at ha ⊢
  have := Nat.shiftLeft_add_eq_or_of_lt (i := 7 * i) (b := a) ha b
  rw [Nat.shiftLeft_eq] at this
  rw [Nat.or_comm, ← this, Nat.add_comm]
/-- the next number, as the program reckons it -/
theorem next_bits {i acc d : Nat} {NI SI : Int} (hi : i < 9) (hN : NI = (acc : Int)) (hS : SI = ((7 * i : Nat) : Int)) (ha : acc < 128 ^ i) (hd : d < 128) :
    bits BinOp.or .u64 NI (IntKind.u64.wrap ((d : Int) * 2 ^ SI.toNat)) = ((acc + d * 128 ^ i : Nat) : Int) ∧ acc + d * 128 ^ i < 128 ^ (i + 1) := by
  have h8 : (128 : Nat) ^ i ≤ 128 ^ 8 := Nat.pow_le_pow_right (by decide) (by omega)
  have e8 : (128 : Nat) ^ 8 = 72057594037927936 := by decide
  have hm : d * 128 ^ i ≤ 127 * 128 ^ i := Nat.mul_le_mul_right _ (by omega)
  have e1 : (d : Int) * 2 ^ SI.toNat = ((d * 128 ^ i : Nat) : Int) := by
    rw [hS, Int.toNat_natCast, show (128 : Nat) = 2 ^ 7 from rfl, ← Nat.pow_mul]
    simp
  have e2 : IntKind.u64.wrap ((d * 128 ^ i : Nat) : Int) = ((d * 128 ^ i : Nat) : Int) := by
    rw [show IntKind.u64.wrap ((d * 128 ^ i : Nat) : Int) = ((d * 128 ^ i : Nat) : Int) % 18446744073709551616 from rfl]; omega
  rw [e1, e2, hN, or_hi acc d i ha (by omega) (by omega)]
  refine ⟨rfl, ?_⟩
  rw [Nat.pow_succ]
  omega
theorem last_bits {acc : Nat} {NI : Int} (hN : NI = (acc : Int)) (ha : acc < 128 ^ 9) : bits BinOp.or .u64 NI 9223372036854775808 = ((acc + 1 * 128 ^ 9 : Nat) : Int) := by
  have e : (128 : Nat) ^ 9 = 9223372036854775808 := by decide
  have := or_hi acc 1 9 ha (by rw [e]; decide) (by rw [e] at ha; omega)
  rw [hN, ← this, e]
  rfl
set_option maxHeartbeats 8000000 in
set_option maxRecDepth 100000 in
theorem rdNatural_any (w : World) (R : Nat) (l : List UInt8) (h : RdAt w R l) :
    Calls Tryz.prog 79 #[.pointer (some ⟨R, 0, none⟩)] w fun e w' => NatEnds R l w w' e := by
  have H := Lib.hid h
  clear h
  go_enter Tryz.func79, Tryz.ntmps79
  go_wp2_with fail
  go_loopg [4, 5] 9 (fun mm nv sv wr => ∃ (i acc : Nat) (NI SI : Int) (cur : List UInt8), nv = .int .u64 NI ∧ sv = .int .i64 SI ∧ Hid (i + mm = 9 ∧ NI = (acc : Int) ∧ SI = ((7 * i : Nat) : Int) ∧ acc < 128 ^ i ∧ readL i acc cur = readL 0 0 l) ∧ RdAt wr R cur ∧ But R w wr)
  case atStart => exact ⟨0, 0, 0, 0, l, rfl, rfl, Lib.hid ⟨rfl, rfl, rfl, by decide, rfl⟩, H.out, But.refl R w⟩
  case round =>
    obtain ⟨i, acc, NI, SI, cur, rfl, rfl, HI, hr, hbut⟩ := hrel
    have Hr := Lib.hid hr; have Hbut := Lib.hid hbut
    clear hr hbut
    have hN0 : 0 ≤ NI := by have := HI.out.2.1; omega
    have hS0 : 0 ≤ SI := by have := HI.out.2.2.1; omega
    have hS1 : SI ≤ 63 := by have := HI.out.2.2.1; have := HI.out.1; omega
    cases cur with
    | nil =>
      have hno : readL 0 0 l = none := by rw [← HI.out.2.2.2.2]; cases i <;> rfl
      have Hno := Lib.hid hno
      clear hno
      go_wp2_with fail
      refine (byte_end _ R Hr.out).mono ?_
      rintro e w2 ⟨rfl, hbad, hb⟩
      have Hbad := Lib.hid hbad; have Hb := Lib.hid hb
      clear hbad hb
      go_wp2_with fail
      refine (fail_any w2 R ⟨_, Hbad.out.c1⟩ (Hbad.out.z 1)).mono ?_
      rintro e w3 ⟨rfl, rfl⟩
      go_wp2_with fail
      go_ret2
      exact .inr ⟨Hno.out, rfl, Hbad.out.bad, (Hbut.out.trans Hb.out).set 1 _⟩
    | cons c t =>
      have hc := c.toNat_lt
      have hstep : readL i acc (c :: t) = (if (i = 9 ∧ 1 < c.toNat) ∨ (0 < i ∧ c.toNat = 0) then none else if c.toNat < 128 then some (acc + c.toNat * 128 ^ i, t) else readL (i + 1) (acc + (c.toNat - 128) * 128 ^ i) t) := rfl
      have Hstep := Lib.hid hstep
      clear hstep
      obtain ⟨C, hC⟩ : ∃ C : Int, C = (c.toNat : Int) := ⟨_, rfl⟩
      have HC := Lib.hid hC
      have hC0 : 0 ≤ C := by omega
      have hC9 : C < 256 := by omega
      have hand := and127 c.toNat hc
      rw [show ((c.toNat % 128 : Nat) : Int) = C % 128 from by omega, ← hC] at hand
      have HB : Hid (∀ W : World, RdAt W R (c :: t) → Calls Tryz.prog 43 #[.pointer (some ⟨R, 0, none⟩)] W fun e w' => e = .returned (.tuple #[.int .u8 C, .bool true]) ∧ RdAt w' R t ∧ But R W w') := Lib.hid fun W h => by
        have := byte_ok W R c t h
        rwa [← hC] at this
      by_cases hF : (i = 9 ∧ 1 < c.toNat) ∨ (0 < i ∧ c.toNat = 0)
      · have hno : readL 0 0 l = none := by rw [← HI.out.2.2.2.2, Hstep.out, if_pos hF]
        have Hno := Lib.hid hno
        have hFI : (SI = 63 ∧ 1 < C) ∨ (0 < SI ∧ C = 0) := by have := HI.out.2.2.1; omega
        clear hno hF hC hand
        go_wp2_with fail
        refine (HB.out _ Hr.out).mono ?_
        rintro e w2 ⟨rfl, hok, hb⟩
        have Hok := Lib.hid hok; have Hb := Lib.hid hb
        clear hok hb
        rcases hFI with ⟨rfl, hC1⟩ | ⟨hS, rfl⟩
        all_goals
          go_wp2_with fail
          all_goals
            refine (fail_any w2 R ⟨_, Hok.out.c1⟩ (Hok.out.z 1)).mono ?_
            rintro e w3 ⟨rfl, rfl⟩
            go_wp2_with fail
            go_ret2
            exact .inr ⟨Hno.out, rfl, Hok.out.bad, (Hbut.out.trans Hb.out).set 1 _⟩
      · have hFI1 : ¬ (SI = 63 ∧ 1 < C) := by have := HI.out.2.2.1; omega
        have hFI2 : ¬ (0 < SI ∧ C = 0) := by have := HI.out.2.2.1; omega
        have Hst2 : Hid (readL i acc (c :: t) = if c.toNat < 128 then some (acc + c.toNat * 128 ^ i, t) else readL (i + 1) (acc + (c.toNat - 128) * 128 ^ i) t) := Lib.hid (by rw [Hstep.out, if_neg hF])
        clear hF Hstep
        by_cases hlt : c.toNat < 128
        · have hC1 : C < 128 := by omega
          have hmod : C % 128 = C := by omega
          rw [hmod] at hand
          have hres : Hid (∃ V : Int, V = ((acc + c.toNat * 128 ^ i : Nat) : Int)) := Lib.hid ⟨_, rfl⟩
          obtain ⟨V, hV⟩ := hres.out
          have Hfin : Hid (readL 0 0 l = some (acc + c.toNat * 128 ^ i, t)) := Lib.hid (by rw [← HI.out.2.2.2.2, Hst2.out, if_pos hlt])
          by_cases h9 : i = 9
          · have hS : SI = 63 := by have := HI.out.2.2.1; omega
            subst hS
            have hC2 : C = 1 := by omega
            subst hC2
            have hor := last_bits HI.out.2.1 (by have := HI.out.2.2.2.1; rwa [h9] at this)
            have hc1 : c.toNat = 1 := by omega
            rw [h9, hc1] at hV
            rw [← hV] at hor
            have HV : Hid (V = ((acc + c.toNat * 128 ^ i : Nat) : Int)) := Lib.hid (by rw [h9, hc1]; exact hV)
            clear hlt hC hmod hV hres h9 hc1
            go_wp2_with fail
            refine (HB.out _ Hr.out).mono ?_
            rintro e w2 ⟨rfl, hok, hb⟩
            have Hok := Lib.hid hok; have Hb := Lib.hid hb
            clear hok hb
            go_wp2_with fail
            go_ret2
            exact .inl ⟨_, _, Hfin.out, by rw [← HV.out]; rfl, Hok.out, Hbut.out.trans Hb.out⟩
          · have hor := (next_bits (d := c.toNat) (show i < 9 by have := HI.out.1; omega) HI.out.2.1 HI.out.2.2.1 HI.out.2.2.2.1 hlt).1
            rw [← hV, ← hC] at hor
            have hS : ¬ SI = 63 := by have := HI.out.2.2.1; omega
            have HV := Lib.hid hV
            clear hlt hC hmod hV hres h9 hFI1
            go_wp2_with fail
            refine (HB.out _ Hr.out).mono ?_
            rintro e w2 ⟨rfl, hok, hb⟩
            have Hok := Lib.hid hok; have Hb := Lib.hid hb
            clear hok hb
            go_wp2_with fail
            all_goals
              go_ret2
              exact .inl ⟨_, _, Hfin.out, by rw [← HV.out]; rfl, Hok.out, Hbut.out.trans Hb.out⟩
        · have hC1 : ¬ C < 128 := by omega
          have hi9 : i < 9 := by have := HI.out.1; have := HI.out.2.2.1; omega
          have hmod : C % 128 = C - 128 := by omega
          rw [hmod] at hand
          have hres : Hid (∃ V : Int, V = ((acc + (c.toNat - 128) * 128 ^ i : Nat) : Int)) := Lib.hid ⟨_, rfl⟩
          obtain ⟨V, hV⟩ := hres.out
          obtain ⟨hor, hb7⟩ := next_bits (d := c.toNat - 128) hi9 HI.out.2.1 HI.out.2.2.1 HI.out.2.2.2.1 (by omega)
          rw [← hV, show ((c.toNat - 128 : Nat) : Int) = C - 128 from by omega] at hor
          have hS : ¬ SI = 63 := by have := HI.out.2.2.1; omega
          have hS7 : SI < 63 := by omega
          have hC2 : ¬ C = 0 := by omega
          have hC3 : 0 ≤ C - 128 := by omega
          have HN : Hid (i + 1 + (8 - i) = 9 ∧ V = ((acc + (c.toNat - 128) * 128 ^ i : Nat) : Int) ∧ SI + 7 = ((7 * (i + 1) : Nat) : Int) ∧ acc + (c.toNat - 128) * 128 ^ i < 128 ^ (i + 1) ∧ readL (i + 1) (acc + (c.toNat - 128) * 128 ^ i) t = readL 0 0 l) := Lib.hid ⟨by omega, hV, by have := HI.out.2.2.1; omega, hb7, by rw [← HI.out.2.2.2.2, Hst2.out, if_neg hlt]⟩
          have Hi9 := Lib.hid hi9
          clear hlt hC hmod hV hres hFI1 hFI2 hi9 hb7
          go_wp2_with fail
          refine (HB.out _ Hr.out).mono ?_
          rintro e w2 ⟨rfl, hok, hb⟩
          have Hok := Lib.hid hok; have Hb := Lib.hid hb
          clear hok hb
          go_wp2_with fail
          all_goals
            go_roundg (8 - i)
            case measure => have := HI.out.1; have := Hi9.out; omega
            case rel => exact ⟨i + 1, _, V, SI + 7, t, by go_num, by go_num, HN.out, Hok.out, Hbut.out.trans Hb.out⟩
end Go.Proofs.YtacafhmagonngaaGreatDoor
namespace Go.Proofs.YtacafhmagonngaaGreatDoor
open Go.RowKit

theorem xor_zero (a : Int) (h0 : -9223372036854775808 ≤ a) (h1 : a ≤ 9223372036854775807) : bits BinOp.xor .i64 a 0 = a := by
  show IntKind.i64.wrap ((BitVec.ofInt 64 a ^^^ BitVec.ofInt 64 0).toNat : Int) = a
  rw [show BitVec.ofInt 64 0 = 0#64 from rfl, BitVec.xor_zero, BitVec.toNat_ofInt, IntKind.wrap_i64]
  omega
theorem xor_ones (a : Int) (h0 : -9223372036854775808 ≤ a) (h1 : a ≤ 9223372036854775807) : bits BinOp.xor .i64 a (-1) = -a - 1 := by
  show IntKind.i64.wrap ((BitVec.ofInt 64 a ^^^ BitVec.ofInt 64 (-1)).toNat : Int) = -a - 1
  rw [show BitVec.ofInt 64 (-1) = BitVec.allOnes 64 from rfl, BitVec.xor_allOnes, BitVec.toNat_not, BitVec.toNat_ofInt, IntKind.wrap_i64]
  omega
theorem and_one64 (u : Nat) (h : u < 18446744073709551616) : bits BinOp.and .u64 (u : Int) 1 = (u : Int) % 2 := by
  have h3 := (bits_nat .u64 64 (by decide) (fun n h0 h1 => by rw [IntKind.wrap_u64]; omega) u 1 h (by decide)).1
  rw [Nat.and_one_is_mod] at h3
  rw [show ((1 : Nat) : Int) = 1 from rfl] at h3
  rw [h3]
  omega
def NumEnds1 (R : Nat) (l : List UInt8) (w w' : World) (e : Ending) : Prop :=
  (∃ u r, readL 0 0 l = some (u, r) ∧ e = .returned (.tuple #[.int .i64 (unfoldN u), .bool true]) ∧ RdAt w' R r ∧ But R w w') ∨
  (readL 0 0 l = none ∧ e = .returned (.tuple #[.int .i64 0, .bool false]) ∧ RdBad w' R ∧ But R w w')
set_option maxHeartbeats 8000000 in
set_option maxRecDepth 100000 in
theorem rdNumber_any (w : World) (R : Nat) (l : List UInt8) (h : RdAt w R l) :
    Calls Tryz.prog 44 #[.pointer (some ⟨R, 0, none⟩)] w fun e w' => NumEnds1 R l w w' e := by
  have H := Lib.hid h
  clear h
  go_enter Tryz.func44, Tryz.ntmps44
  go_wp2_with fail
  refine (rdNatural_any w R l H.out).mono ?_
  rintro e w2 (⟨u, r, h1, rfl, h2, h3⟩ | ⟨h1, rfl, h2, h3⟩)
  · have h64 := (readL_lt l 0 0 u r (by decide) (by decide) h1).1
    have H1 := Lib.hid h1; have H2 := Lib.hid h2; have H3 := Lib.hid h3
    have hand := and_one64 u h64
    obtain ⟨U, hU⟩ : ∃ U : Int, U = (u : Int) := ⟨_, rfl⟩
    rw [← hU] at hand ⊢
    have hU0 : 0 ≤ U := by omega
    have hU9 : U < 18446744073709551616 := by omega
    obtain ⟨q, hq⟩ : ∃ q : Int, U / 2 = q := ⟨_, rfl⟩
    have q0 : 0 ≤ q := by omega
    have q9 : q ≤ 9223372036854775807 := by omega
    have x0 := xor_zero q (by omega) q9
    have x1 := xor_ones q (by omega) q9
    have hw : wrap64 q = q := by unfold wrap64; omega
    rcases Int.emod_two_eq U with hp | hp
    · have hf : unfoldN u = q := by unfold unfoldN; rw [if_pos (by omega)]; omega
      have Hf := Lib.hid hf
      rw [hp] at hand
      clear h1 h2 h3 hU hf x1 h64
      go_wp2_with fail
      go_ret2
      exact .inl ⟨u, r, H1.out, by rw [Hf.out]; rfl, H2.out, H3.out⟩
    · have hf : unfoldN u = -q - 1 := by unfold unfoldN; rw [if_neg (by omega)]; omega
      have Hf := Lib.hid hf
      rw [hp] at hand
      clear h1 h2 h3 hU hf x0 h64
      go_wp2_with fail
      go_ret2
      exact .inl ⟨u, r, H1.out, by rw [Hf.out]; rfl, H2.out, H3.out⟩
  · have H1 := Lib.hid h1; have H2 := Lib.hid h2; have H3 := Lib.hid h3
    have hand : bits BinOp.and .u64 0 1 = 0 := by decide
    have hxor : bits BinOp.xor .i64 0 0 = 0 := by decide
    clear h1 h2 h3
    go_wp2_with fail
    go_ret2
    exact .inr ⟨H1.out, rfl, H2.out, H3.out⟩
theorem SlB.drop {w : World} {R g off c u N : Nat} {r : List UInt8} (hN : r.length = N) (h1 : N ≤ c) (hu : u ≤ N) (hR : g < R) (hc : ∀ j v, (encB r)[j]? = some v → w.cell? ⟨g, off + j, none⟩ = some v) :
    (c = u → SlB w R (.slice (some ⟨g, off, none⟩) (N - u) 0) (r.drop u)) ∧ (¬ c = u → SlB w R (.slice (some ⟨g, off + u, none⟩) (N - u) (c - u)) (r.drop u)) := by
  have hl : (r.drop u).length = N - u := by rw [List.length_drop, hN]
  refine ⟨fun h => ?_, fun h => ?_⟩
  · have : r.drop u = [] := List.eq_nil_of_length_eq_zero (by omega)
    refine .inr ⟨g, off, 0, by rw [hl], by omega, hR, fun j v hj => ?_⟩
    rw [this] at hj
    simp at hj
  · refine .inr ⟨g, off + u, c - u, by rw [hl], by omega, hR, fun j v hj => ?_⟩
    have := hc (u + j) v (by
      unfold encB at hj ⊢
      rw [List.getElem?_map] at hj ⊢
      rwa [List.getElem?_drop] at hj)
    rwa [show off + u + j = off + (u + j) from by omega]
def TextEnds (R : Nat) (l : List UInt8) (w w' : World) (e : Ending) : Prop :=
  (∃ u r, readL 0 0 l = some (u, r) ∧ u ≤ r.length ∧ e = .returned (.tuple #[.string ⟨(r.take u).toArray⟩, .bool true]) ∧ RdAt w' R (r.drop u) ∧ But R w w') ∨
  ((readL 0 0 l = none ∨ ∃ u r, readL 0 0 l = some (u, r) ∧ r.length < u) ∧ e = .returned (.tuple #[.string ⟨#[]⟩, .bool false]) ∧ RdBad w' R ∧ But R w w')
set_option maxHeartbeats 8000000 in
set_option maxRecDepth 100000 in
theorem rdText_any (w : World) (R : Nat) (l : List UInt8) (h : RdAt w R l) (hl : l.length ≤ 1000000) :
    Calls Tryz.prog 45 #[.pointer (some ⟨R, 0, none⟩)] w fun e w' => TextEnds R l w w' e := by
  have H := Lib.hid h
  clear h
  go_enter Tryz.func45, Tryz.ntmps45
  go_wp2_with fail
  refine (rdNatural_any w R l H.out).mono ?_
  rintro e w2 (⟨u, r, h1, rfl, h2, h3⟩ | ⟨h1, rfl, h2, h3⟩)
  · obtain ⟨h64, hrl⟩ := readL_lt l 0 0 u r (by decide) (by decide) h1
    have H1 := Lib.hid h1; have H2 := Lib.hid h2; have H3 := Lib.hid h3
    clear h1 h3
    obtain ⟨⟨v, c0, hv⟩, c1, z, -⟩ := h2
    have z0 := z 0
    clear z
    by_cases hu : u ≤ r.length
    · have Hu := Lib.hid hu
      rcases hv with ⟨rfl, hr0⟩ | ⟨g, off, c, rfl, hc, hR, hcell⟩
      · subst hr0
        have hu0 : u = 0 := by simpa using hu
        subst hu0
        have hconv : (convert 39 9 (.slice none 0 0)).run Tryz.prog w2 = .ok (.string ⟨#[]⟩) w2 := by
          rw [run_convert_bytes_string w2 39 9 5 none 0 0 Tryz.underlying39 Tryz.underlying5 Tryz.underlying9]
          rfl
        clear h64 hrl hu
        go_wp2_with fail
        go_ret2
        exact .inl ⟨0, [], H1.out, Nat.le_refl _, rfl, H2.out.moved (.inl ⟨rfl, rfl⟩), H3.out.set 0 _⟩
      · have hconv : (convert 39 9 (.slice (some ⟨g, off, none⟩) u c)).run Tryz.prog w2 = .ok (.string ⟨(r.take u).toArray⟩) w2 := by
          have hlu : (r.take u).length = u := by rw [List.length_take]; omega
          have := run_convert_bytes_back (P := Tryz.prog) w2 39 9 5 ⟨g, off, none⟩ c (r.take u) Tryz.underlying39 Tryz.underlying5 Tryz.underlying9 (fun j hj => by
            rw [Addr.add_lit]
            refine hcell j _ ?_
            unfold encB
            rw [List.getElem?_map, List.getElem?_eq_getElem (by rw [List.length_take] at hj; omega)]
            simp)
          rwa [hlu] at this
        obtain ⟨U, hU⟩ : ∃ U : Int, U = (u : Int) := ⟨_, rfl⟩
        have hUn : U.toNat = u := by omega
        have hle : U ≤ (r.length : Int) := by omega
        have hle2 : U ≤ (c : Int) := by omega
        have hU0 : 0 ≤ U := by omega
        have hw : IntKind.u64.wrap (r.length : Int) = (r.length : Int) := by rw [IntKind.wrap_u64]; omega
        have Hc := Lib.hid hcell; have Hcl := Lib.hid hc
        rw [← hU]
        generalize hN : r.length = N at *
        have HN := Lib.hid hN
        clear h64 hrl hu hcell hc hU hN
        have Hs := Lib.hid (SlB.drop HN.out Hcl.out Hu.out hR Hc.out)
        go_wp2_with fail
        · go_ret2
          exact .inl ⟨u, r, H1.out, by rw [HN.out]; exact Hu.out, rfl, H2.out.moved (Hs.out.1 (by assumption)), H3.out.set 0 _⟩
        · go_ret2
          exact .inl ⟨u, r, H1.out, by rw [HN.out]; exact Hu.out, rfl, H2.out.moved (Hs.out.2 (by assumption)), H3.out.set 0 _⟩
    · have Hu := Lib.hid hu
      have hv2 : ∃ a c, v = .slice a r.length c := by
        rcases hv with ⟨e, h⟩ | ⟨g, off, c, e, -⟩
        · exact ⟨none, 0, by rw [e, h]; rfl⟩
        · exact ⟨_, c, e⟩
      obtain ⟨a, c, rfl⟩ := hv2
      have Hlt := Lib.hid (show r.length < u by omega)
      have hle : (r.length : Int) < (u : Int) := by omega
      have hl9 : (r.length : Int) < 1000000 := by omega
      generalize hN : r.length = N at *
      have HN := Lib.hid hN
      clear h64 hrl hu hv hN
      go_wp2_with fail
      refine (fail_any w2 R ⟨_, H2.out.c1⟩ (H2.out.z 1)).mono ?_
      rintro e w3 ⟨rfl, rfl⟩
      go_wp2_with fail
      go_ret2
      exact .inr ⟨.inr ⟨u, r, H1.out, by rw [HN.out]; exact Hlt.out⟩, rfl, H2.out.bad, H3.out.set 1 _⟩
  · have H1 := Lib.hid h1; have H2 := Lib.hid h2; have H3 := Lib.hid h3
    clear h1 h2 h3
    go_wp2_with fail
    refine (fail_any w2 R ⟨_, H2.out.c1⟩ (H2.out.z 1)).mono ?_
    rintro e w3 ⟨rfl, rfl⟩
    go_wp2_with fail
    go_ret2
    exact .inr ⟨.inl H1.out, rfl, H2.out.bad, H3.out.set 1 _⟩
end Go.Proofs.YtacafhmagonngaaGreatDoor
namespace Go.Proofs.YtacafhmagonngaaGreatDoor
open Go.RowKit

theorem leV_append (a b : List UInt8) : leV (a ++ b) = leV a + 256 ^ a.length * leV b := by
  induction a with
  | nil => simp [leV]
  | cons c t ih =>
    show c.toNat + 256 * leV (t ++ b) = c.toNat + 256 * leV t + 256 ^ (t.length + 1) * leV b
    rw [ih, Nat.pow_succ, Nat.mul_add, Nat.mul_comm (256 ^ t.length) 256, Nat.mul_assoc, Nat.add_assoc]
theorem leV_snoc {l : List UInt8} {j : Nat} {c : UInt8} (h : l[j]? = some c) : leV (l.take (j + 1)) = leV (l.take j) + c.toNat * 256 ^ j := by
  have hj : j < l.length := (List.getElem?_eq_some_iff.1 h).1
  rw [take_snoc h, leV_append, List.length_take, Nat.min_eq_left (by omega)]
  show _ + 256 ^ j * (c.toNat + 256 * 0) = _
  rw [Nat.mul_zero, Nat.add_zero, Nat.mul_comm]
theorem or_hi8 (a b i : Nat) (ha : a < 256 ^ i) (h : b * 256 ^ i < 18446744073709551616) (h2 : a < 18446744073709551616) : bits BinOp.or .u64 (a : Int) ((b * 256 ^ i : Nat) : Int) = ((a + b * 256 ^ i : Nat) : Int) := by
  have h3 := (bits_nat .u64 64 (by decide) (fun n h0 h1 => by rw [IntKind.wrap_u64]; omega) a (b * 256 ^ i) h2 h).2
  rw [h3]
  have e : (256 : Nat) ^ i = 2 ^ (8 * i) := by rw [Nat.pow_mul]
  rw [e] at ha ⊢
  have := Nat.shiftLeft_add_eq_or_of_lt (i := 8 * i) (b := a) ha b
  rw [Nat.shiftLeft_eq] at this
  rw [Nat.or_comm, ← this, Nat.add_comm]
theorem next_byte {i acc d : Nat} {SI : Int} (hi : i < 8) (hS : SI = (i : Int)) (ha : acc < 256 ^ i) (hd : d < 256) :
    bits BinOp.or .u64 (acc : Int) (IntKind.u64.wrap ((d : Int) * 2 ^ (8 * SI).toNat)) = ((acc + d * 256 ^ i : Nat) : Int) ∧ acc + d * 256 ^ i < 18446744073709551616 := by
  have h8 : (256 : Nat) ^ i ≤ 256 ^ 7 := Nat.pow_le_pow_right (by decide) (by omega)
  have e8 : (256 : Nat) ^ 7 = 72057594037927936 := by decide
  have hm : d * 256 ^ i ≤ 255 * 256 ^ i := Nat.mul_le_mul_right _ (by omega)
  have e1 : (d : Int) * 2 ^ (8 * SI).toNat = ((d * 256 ^ i : Nat) : Int) := by
    rw [hS, show (8 * (i : Int)).toNat = 8 * i from by omega, show (256 : Nat) = 2 ^ 8 from rfl, ← Nat.pow_mul]
    simp
  have e2 : IntKind.u64.wrap ((d * 256 ^ i : Nat) : Int) = ((d * 256 ^ i : Nat) : Int) := by rw [IntKind.wrap_u64]; omega
  rw [e1, e2, or_hi8 acc d i ha (by omega) (by omega)]
  exact ⟨rfl, by omega⟩
theorem or_none (a : Int) (h0 : 0 ≤ a) (h1 : a < 18446744073709551616) : bits BinOp.or .u64 a 0 = a := by
  have h := (bits_nat .u64 64 (by decide) (fun n h0 h1 => by rw [IntKind.wrap_u64]; omega) a.toNat 0 (by omega) (by decide)).2
  rw [Nat.or_zero, show ((a.toNat : Nat) : Int) = a from by omega] at h
  exact h
/-- where the reading of eight bytes stands -/
def BitsAt (R : Nat) (l : List UInt8) (j : Nat) (b : Bool) (U : Int) (W : World) : Prop :=
  (b = true ∧ j ≤ l.length ∧ U = (leV (l.take j) : Int) ∧ RdAt W R (l.drop j)) ∨ (b = false ∧ l.length < 8 ∧ RdBad W R)
def BitsEnds (R : Nat) (l : List UInt8) (w w' : World) (e : Ending) : Prop := ∃ (b : Bool) (U : Int), e = .returned (.tuple #[.int .u64 U, .bool b]) ∧ BitsAt R l 8 b U w' ∧ But R w w'
set_option maxHeartbeats 8000000 in
set_option maxRecDepth 100000 in
theorem bits_any (w : World) (R : Nat) (l : List UInt8) (h : RdAt w R l) :
    Calls Tryz.prog 46 #[.pointer (some ⟨R, 0, none⟩)] w fun e w' => BitsEnds R l w w' e := by
  have H := Lib.hid h
  clear h
  go_enter Tryz.func46, Tryz.ntmps46
  go_wp2_with fail
  go_loopg [4, 5, 9] 8 (fun mm uv bv iv wr => ∃ (j : Nat) (b : Bool) (U I : Int), uv = .int .u64 U ∧ bv = .bool b ∧ iv = .int .i64 I ∧ Hid (j + mm = 8 ∧ I = (j : Int) ∧ 0 ≤ U ∧ U < 18446744073709551616 ∧ BitsAt R l j b U wr) ∧ But R w wr)
  case atStart => exact ⟨0, true, 0, 0, rfl, rfl, rfl, Lib.hid ⟨rfl, rfl, by decide, by decide, .inl ⟨rfl, Nat.zero_le _, rfl, H.out⟩⟩, But.refl R w⟩
  case round =>
    obtain ⟨j, b, U, I, rfl, rfl, rfl, HI, hbut⟩ := hrel
    have Hbut := Lib.hid hbut
    clear hbut
    have hI0 : 0 ≤ I := by have := HI.out.2.1; omega
    have hI8 : I ≤ 8 := by have := HI.out.1; have := HI.out.2.1; omega
    by_cases hm : gk = 0
    · have hI9 : ¬ I < 8 := by have := HI.out.1; have := HI.out.2.1; omega
      have hj : j = 8 := by have := HI.out.1; omega
      have Hj := Lib.hid hj
      clear hj hm
      go_wp2_with fail
      go_ret2
      exact ⟨b, U, rfl, by have := HI.out.2.2.2.2; rwa [Hj.out] at this, Hbut.out⟩
    · have hI9 : I < 8 := by have := HI.out.1; have := HI.out.2.1; omega
      have hj8 : j < 8 := by have := HI.out.1; omega
      have Hj8 := Lib.hid hj8
      have ho := or_none U HI.out.2.2.1 HI.out.2.2.2.1
      rcases HI.out.2.2.2.2 with ⟨rfl, h2, h3, h4⟩ | ⟨rfl, h2, h3⟩
      · have H2 := Lib.hid h2; have H3 := Lib.hid h3; have H4 := Lib.hid h4
        clear h2 h3 h4 hj8 hm
        by_cases hl : j < l.length
        · obtain ⟨c, hc⟩ : ∃ c, l[j]? = some c := ⟨l[j], List.getElem?_eq_getElem hl⟩
          have hd : l.drop j = c :: l.drop (j + 1) := by
            rw [List.getElem?_eq_getElem hl] at hc
            rw [List.drop_eq_getElem_cons hl, Option.some.inj hc]
          have hr := H4.out
          rw [hd] at hr
          have Hr := Lib.hid hr
          have hlt : leV (l.take j) < 256 ^ j := by
            have := leV_lt (l.take j)
            rwa [List.length_take, Nat.min_eq_left (by omega)] at this
          obtain ⟨hor, hor2⟩ := next_byte Hj8.out HI.out.2.1 hlt c.toNat_lt
          rw [← H3.out, ← leV_snoc hc] at hor
          rw [← leV_snoc hc] at hor2
          obtain ⟨C, hC⟩ : ∃ C : Int, C = (c.toNat : Int) := ⟨_, rfl⟩
          obtain ⟨V, hV⟩ : ∃ V : Int, V = ((leV (l.take (j + 1)) : Nat) : Int) := ⟨_, rfl⟩
          rw [← hC, ← hV] at hor
          have hC0 : 0 ≤ C := by omega
          have hC9 : C < 256 := by have := c.toNat_lt; omega
          have HN : Hid (∀ W, RdAt W R (l.drop (j + 1)) → BitsAt R l (j + 1) true V W) := Lib.hid fun W h => .inl ⟨rfl, by omega, hV, h⟩
          have HV : Hid (0 ≤ V ∧ V < 18446744073709551616) := Lib.hid ⟨by omega, by omega⟩
          have HB : Hid (∀ W : World, RdAt W R (c :: l.drop (j + 1)) → Calls Tryz.prog 43 #[.pointer (some ⟨R, 0, none⟩)] W fun e w' => e = .returned (.tuple #[.int .u8 C, .bool true]) ∧ RdAt w' R (l.drop (j + 1)) ∧ But R W w') := Lib.hid fun W h => by
            have := byte_ok W R c (l.drop (j + 1)) h
            rwa [← hC] at this
          clear hl hc hd hr hlt hor2 hC hV ho
          go_wp2_with fail
          refine (HB.out _ Hr.out).mono ?_
          rintro e w2 ⟨rfl, hok, hb⟩
          have Hok := Lib.hid hok; have Hb := Lib.hid hb
          clear hok hb
          go_wp2_with fail
          go_roundg (7 - j)
          case measure => have := HI.out.1; have := Hj8.out; omega
          case rel => exact ⟨j + 1, true, V, I + 1, by go_num, rfl, by go_num, Lib.hid ⟨by have := Hj8.out; omega, by have := HI.out.2.1; omega, HV.out.1, HV.out.2, HN.out _ Hok.out⟩, Hbut.out.trans Hb.out⟩
        · have hr := H4.out
          rw [List.drop_eq_nil_of_le (by omega)] at hr
          have Hr := Lib.hid hr
          have HL : Hid (l.length < 8) := Lib.hid (by have := Hj8.out; omega)
          clear hl hr
          go_wp2_with fail
          refine (byte_end _ R Hr.out).mono ?_
          rintro e w2 ⟨rfl, hok, hb⟩
          have Hok := Lib.hid hok; have Hb := Lib.hid hb
          clear hok hb
          go_wp2_with fail
          go_roundg (7 - j)
          case measure => have := HI.out.1; have := Hj8.out; omega
          case rel => exact ⟨j + 1, false, U, I + 1, by go_num, rfl, by go_num, Lib.hid ⟨by have := Hj8.out; omega, by have := HI.out.2.1; omega, HI.out.2.2.1, HI.out.2.2.2.1, .inr ⟨rfl, HL.out, Hok.out⟩⟩, Hbut.out.trans Hb.out⟩
      · have H2 := Lib.hid h2; have H3 := Lib.hid h3
        clear h2 h3 hj8 hm
        go_wp2_with fail
        refine (byte_bad _ R H3.out).mono ?_
        rintro e w2 ⟨rfl, hok, hb⟩
        have Hok := Lib.hid hok; have Hb := Lib.hid hb
        clear hok hb
        go_wp2_with fail
        go_roundg (7 - j)
        case measure => have := HI.out.1; have := Hj8.out; omega
        case rel => exact ⟨j + 1, false, U, I + 1, by go_num, rfl, by go_num, Lib.hid ⟨by have := Hj8.out; omega, by have := HI.out.2.1; omega, HI.out.2.2.1, HI.out.2.2.2.1, .inr ⟨rfl, H2.out, Hok.out⟩⟩, Hbut.out.trans Hb.out⟩
end Go.Proofs.YtacafhmagonngaaGreatDoor
namespace Go.Proofs.YtacafhmagonngaaGreatDoor
open Go.RowKit

theorem empty_toList : (⟨#[]⟩ : ByteArray).toList = [] := by rw [ByteArray.toList_eq]
theorem right_of {x : Val} (h : RightC x) : rightB x = true := by
  obtain ⟨k, n, s, f⟩ := x
  rcases h with ⟨hk, hn, hs, hf⟩ | ⟨hk, hs, hf⟩ | ⟨hk, hs, hf, hn⟩ | ⟨hk, hn, hf, hs⟩ | ⟨hk, hn, hs, hf⟩
  · simp only at hk hn hs hf
    subst hk hn hs hf
    simp [rightB, empty_toList]
  · simp only at hk hs hf
    subst hk hs hf
    simp [rightB, empty_toList]
  · simp only at hk hs hf hn
    subst hk hs hf
    simp [rightB, empty_toList, hn]
  · simp only at hk hn hf hs
    subst hk hn hf
    simp [rightB, hs]
  · simp only at hk hn hs hf
    subst hk hn hs
    simp [rightB, empty_toList, hf]
theorem parse_forms {l : List UInt8} (h : okV l = true) : l = tNull ∨ l = tTrue ∨ l = tFalse ∨ parseOk l = true ∨ numOk l = true ∨ ∃ b : List UInt8, b.length ≤ 64 ∧ l = 120 :: hexL b := by
  have e : printVL (rightOf (candVal l)) = l := by unfold okV at h; exact beq_iff_eq.1 h
  have hr := rightC (candVal l)
  have hw := right_wf (candVal l) (candVal_wf l)
  generalize rightOf (candVal l) = v at *
  obtain ⟨k, n, s, f⟩ := v
  obtain ⟨-, -, n0, n1, f0, f1⟩ := hw
  simp only at n0 n1 f0 f1
  rcases hr with ⟨hk, hn, hs, hf⟩ | ⟨hk, hs, hf⟩ | ⟨hk, hs, hf, hn⟩ | ⟨hk, hn, hf, hs⟩ | ⟨hk, hn, hs, hf⟩
  · simp only at hk hn hs hf
    subst hk
    exact .inl e.symm
  · simp only at hk hs hf
    subst hk
    refine .inr (.inr (.inr (.inr (.inl ?_))))
    rw [← e]
    exact (num_itoa n n0 n1).1
  · simp only at hk hs hf hn
    subst hk
    rcases hn with rfl | rfl
    · exact .inr (.inr (.inl e.symm))
    · exact .inr (.inl e.symm)
  · simp only at hk hn hf hs
    subst hk
    exact .inr (.inr (.inr (.inr (.inr ⟨s.data.toList, by rw [← Lib.size_eq]; exact hs, e.symm⟩))))
  · simp only at hk hn hs hf
    subst hk
    refine .inr (.inr (.inr (.inl ?_)))
    rw [← e]
    exact (parse_print f f0 f1).1
theorem parse_right {v : Val} (h : RightC v) (w : v.Wf) {l : List UInt8} (hl : printVL v = l) : okV l = true ∧ parseVal l = v := by
  subst hl
  exact parse_printV h (right_self (right_of h)) w
theorem parse_float {l : List UInt8} (h : parseOk l = true) : okV l = true ∧ parseVal l = ⟨4, 0, ⟨#[]⟩, parseV l⟩ := by
  have hv : parseV l = candV l := by unfold parseV; rw [if_pos h]
  have hp := parseOk_print h
  have hr := parseV_range l
  have hc : canonF (parseV l) = parseV l := by
    have h2 := h
    unfold parseOk at h2
    rw [Bool.and_eq_true] at h2
    rw [hv]
    exact beq_iff_eq.1 h2.2
  refine parse_right (.float rfl rfl rfl hc) (wf_small _ _ _ _ (by omega) (by omega) (by omega) (by omega) hr.1 hr.2) ?_
  show printL (parseV l).toNat = l
  rw [hv]; exact hp
theorem parse_num {l : List UInt8} (h : numOk l = true) : okV l = true ∧ parseVal l = ⟨1, numV l, ⟨#[]⟩, 0⟩ := by
  obtain ⟨h1, h2, h3⟩ := num_back h
  exact parse_right (.int rfl rfl rfl) (wf_small _ _ _ _ (by omega) (by omega) h2 h3 (by omega) (by omega)) h1.symm
theorem parse_hex {l b : List UInt8} (h : l = 120 :: hexL b) (hb : b.length ≤ 64) : okV l = true ∧ parseVal l = ⟨3, 0, ⟨b.toArray⟩, 0⟩ := by
  refine parse_right (.bytes rfl rfl rfl (by simpa [ByteArray.size] using hb)) (wf_small _ _ _ _ (by omega) (by omega) (by omega) (by omega) (by omega) (by omega)) ?_
  rw [h]
  rfl
theorem parse_no {l : List UInt8} (h1 : l ≠ tNull) (h2 : l ≠ tFalse) (h3 : l ≠ tTrue) (h4 : parseOk l = false) (h5 : numOk l = false) (h6 : ∀ b : List UInt8, b.length ≤ 64 → l ≠ 120 :: hexL b) : okV l = false ∧ parseVal l = zeroVal := by
  have : okV l = false := by
    cases h : okV l with
    | false => rfl
    | true =>
      exfalso
      rcases parse_forms h with e | e | e | e | e | ⟨b, e1, e2⟩
      · exact h1 e
      · exact h3 e
      · exact h2 e
      · rw [h4] at e; cases e
      · rw [h5] at e; cases e
      · exact h6 b e1 e2
  exact ⟨this, by unfold parseVal; rw [this]; rfl⟩
theorem parse_words : (okV tNull = true ∧ parseVal tNull = ⟨0, 0, ⟨#[]⟩, 0⟩) ∧ (okV tFalse = true ∧ parseVal tFalse = ⟨2, 0, ⟨#[]⟩, 0⟩) ∧ (okV tTrue = true ∧ parseVal tTrue = ⟨2, 1, ⟨#[]⟩, 0⟩) := by
  refine ⟨?_, ?_, ?_⟩
  · exact parse_right (.null rfl rfl rfl rfl) (wf_small _ _ _ _ (by omega) (by omega) (by omega) (by omega) (by omega) (by omega)) rfl
  · exact parse_right (.bool rfl rfl rfl (.inl rfl)) (wf_small _ _ _ _ (by omega) (by omega) (by omega) (by omega) (by omega) (by omega)) rfl
  · exact parse_right (.bool rfl rfl rfl (.inr rfl)) (wf_small _ _ _ _ (by omega) (by omega) (by omega) (by omega) (by omega) (by omega)) rfl
theorem mem_hexL {b : List UInt8} {c : UInt8} (h : c ∈ hexL b) : ∃ d, d < 16 ∧ dig d = c := by
  induction b with
  | nil => cases h
  | cons x b ih =>
    have hx := x.toNat_lt
    rcases List.mem_cons.1 (show c ∈ dig (x.toNat / 16) :: dig (x.toNat % 16) :: hexL b from h) with e | e
    · exact ⟨_, by omega, e.symm⟩
    · rcases List.mem_cons.1 e with e | e
      · exact ⟨_, by omega, e.symm⟩
      · exact ih e
theorem hex_none {l : List UInt8} (h : l.head? ≠ some 120 ∨ l.length % 2 = 0 ∨ 129 < l.length ∨ ∃ j c, l[j + 1]? = some c ∧ ∀ d, d < 16 → dig d ≠ c) : ∀ b : List UInt8, b.length ≤ 64 → l ≠ 120 :: hexL b := by
  intro b hb e
  have hlen : l.length = 2 * b.length + 1 := by rw [e, List.length_cons, hexL_length]
  rcases h with h | h | h | ⟨j, c, h1, h2⟩
  · rw [e] at h; exact h rfl
  · omega
  · omega
  · rw [e, List.getElem?_cons_succ] at h1
    obtain ⟨d, hd, e2⟩ := mem_hexL (List.mem_of_getElem? h1)
    exact h2 d hd e2
end Go.Proofs.YtacafhmagonngaaGreatDoor
namespace Go.Proofs.YtacafhmagonngaaGreatDoor
open Go.RowKit

theorem At.off {W : World} {b c : Nat} {k n : Int} {s : ByteArray} {f : Int} (h : At W c k n s f) (hbc : b ≠ c) (o : Nat) (v : Value) : At (W.setCell ⟨b, o, none⟩ v) c k n s f := by
  obtain ⟨h0, h1, h2, h3, hz, hl⟩ := h
  have ne : ∀ i j : Nat, (⟨b, i, none⟩ : Addr) ≠ ⟨c, j, none⟩ := fun i j h => by injection h with h _; exact hbc h
  exact ⟨cell_off h0 (ne _ _), cell_off h1 (ne _ _), cell_off h2 (ne _ _), cell_off h3 (ne _ _), fun o => (World.frozen?_setCell _ _ _ _).trans (hz o), by simpa [World.setCell] using hl⟩
theorem At.setN {W : World} {b : Nat} {k n : Int} {s : ByteArray} {f : Int} (h : At W b k n s f) (m : Int) : At (W.setCell ⟨b, 1, none⟩ (.int .i64 m)) b k m s f := by
  obtain ⟨h0, h1, h2, h3, hz, hl⟩ := h
  exact ⟨cell_off h0 (addr_ne b (by decide)), cell_at h1 rfl, cell_off h2 (addr_ne b (by decide)), cell_off h3 (addr_ne b (by decide)), fun o => (World.frozen?_setCell _ _ _ _).trans (hz o), by simpa [World.setCell] using hl⟩
theorem At.setS {W : World} {b : Nat} {k n : Int} {s : ByteArray} {f : Int} (h : At W b k n s f) (t : ByteArray) : At (W.setCell ⟨b, 2, none⟩ (.string t)) b k n t f := by
  obtain ⟨h0, h1, h2, h3, hz, hl⟩ := h
  exact ⟨cell_off h0 (addr_ne b (by decide)), cell_off h1 (addr_ne b (by decide)), cell_at h2 rfl, cell_off h3 (addr_ne b (by decide)), fun o => (World.frozen?_setCell _ _ _ _).trans (hz o), by simpa [World.setCell] using hl⟩
theorem At.setF {W : World} {b : Nat} {k n : Int} {s : ByteArray} {f : Int} (h : At W b k n s f) (g : Int) : At (W.setCell ⟨b, 3, none⟩ (.int .u64 g)) b k n s g := by
  obtain ⟨h0, h1, h2, h3, hz, hl⟩ := h
  exact ⟨cell_off h0 (addr_ne b (by decide)), cell_off h1 (addr_ne b (by decide)), cell_off h2 (addr_ne b (by decide)), cell_at h3 rfl, fun o => (World.frozen?_setCell _ _ _ _).trans (hz o), by simpa [World.setCell] using hl⟩
theorem But.new {R D : Nat} {a w : World} (h : But R a w) (hD : a.heap.size ≤ D) (o : Nat) (v : Value) : But R a (w.setCell ⟨D, o, none⟩ v) :=
  ⟨h.os, h.tape, h.output, by simpa [World.setCell] using h.size, fun k hk hR => (Below.heap_setCell w ⟨D, o, none⟩ v k (by simp only; omega)).trans (h.block k hk hR)⟩
def getTwo : List UInt8 → Option (Val × List UInt8)
  | [] => none
  | d :: r => if d.toNat ≤ 1 then some (⟨2, (d.toNat : Int), ⟨#[]⟩, 0⟩, r) else none
def GetEnds (R : Nat) (l : List UInt8) (w w' : World) (e : Ending) : Prop :=
  (∃ x r, getL l = some (x, r) ∧ e = .returned (.tuple #[.agg #[.int .i64 x.k, .int .i64 x.n, .string x.s, .int .u64 x.f], .bool true]) ∧ RdAt w' R r ∧ But R w w') ∨
  (getL l = none ∧ e = .returned (.tuple #[.agg #[.int .i64 0, .int .i64 0, .string ⟨#[]⟩, .int .u64 0], .bool false]) ∧ But R w w')
/-- what stands behind the kinds' parting -/
structure GetMid (w W : World) (R A D : Nat) (l : List UInt8) (b : Bool) (x : Val) : Prop where
  one : At W A 0 0 ⟨#[]⟩ 0
  two : At W D x.k x.n x.s x.f
  but : But R w W
  fit : (b = true ∧ ∃ r, RdAt W R r ∧ getL l = if rightB x then some (x, r) else none) ∨ (b = false ∧ getL l = none)
def GetMids (w W : World) (R A D : Nat) (l : List UInt8) (bv : Value) : Prop := ∃ b x, bv = .bool b ∧ GetMid w W R A D l b x
theorem right_num (n : Int) : rightB ⟨1, n, ⟨#[]⟩, 0⟩ = true := right_of (.int rfl rfl rfl)
theorem right_none : rightB ⟨0, 0, ⟨#[]⟩, 0⟩ = true := right_of (.null rfl rfl rfl rfl)
theorem right_two (n : Int) : rightB ⟨2, n, ⟨#[]⟩, 0⟩ = decide (n = 0 ∨ n = 1) := by simp [rightB, empty_toList]
theorem right_three (s : ByteArray) : rightB ⟨3, 0, s, 0⟩ = decide (s.size ≤ 64) := by simp [rightB]
theorem right_four (f : Int) : rightB ⟨4, 0, ⟨#[]⟩, f⟩ = decide (canonF f = f) := by simp [rightB, empty_toList]
theorem right_more (k : Int) (h : 4 < k) : rightB ⟨k, 0, ⟨#[]⟩, 0⟩ = false := by
  have h1 : k ≠ 1 := by omega
  have h2 : k ≠ 2 := by omega
  have h3 : k ≠ 3 := by omega
  have h4 : k ≠ 4 := by omega
  have h0 : k ≠ 0 := by omega
  simp [rightB, h1, h2, h3, h4, h0]
set_option maxHeartbeats 16000000 in
set_option maxRecDepth 100000 in
theorem get_any (w : World) (R : Nat) (l : List UInt8) (h : RdAt w R l) (hl : l.length ≤ 1000000) :
    Calls Tryz.prog 18 #[.pointer (some ⟨R, 0, none⟩)] w fun e w' => GetEnds R l w w' e := by
  have Hat := Lib.hid (At.new w 0 0 ⟨#[]⟩ 0 26)
  have hbw := below_box1 w (.cells #[.int .i64 0, .int .i64 0, .string ⟨#[]⟩, .int .u64 0] 26)
  have H := Lib.hid (h.below hbw)
  have Hbut := Lib.hid (But.of (R := R) hbw)
  have hRA := h.lt
  clear h hbw
  go_enter Tryz.func18, Tryz.ntmps18
  go_wp2_with fail
  generalize (w.alloc _) = W0 at Hat H Hbut ⊢
  generalize hA : w.heap.size = A at *
  cases l with
  | nil =>
    refine (byte_end W0 R H.out).mono ?_
    rintro e w2 ⟨rfl, hok, hb⟩
    have hat := (Hat.out.but hb (by omega)).alloc (.cells #[.int .i64 0, .int .i64 0, .string ⟨#[]⟩, .int .u64 0] 26)
    have Hb := Lib.hid ((Hbut.out.trans hb).trans (But.of (below_box1 w2 (.cells #[.int .i64 0, .int .i64 0, .string ⟨#[]⟩, .int .u64 0] 26))))
    have z0 := hat.z 0; have z1 := hat.z 1; have z2 := hat.z 2; have z3 := hat.z 3
    obtain ⟨d0, d1, d2, d3, -, -⟩ := hat
    clear hok hb Hat H Hbut
    go_upto_region 3 with fail
    generalize w2.alloc _ = W3 at *
    go_wp2_with fail
    exact bodyPost_ret (v := .tuple #[.agg #[.int .i64 0, .int .i64 0, .string ⟨#[]⟩, .int .u64 0], .bool false]) (by simp [results, Tryz.results18, go_sem, d0, d1, d2, d3]) rfl (.inr ⟨rfl, rfl, (((Hb.out.new (by omega) _ _).new (by omega) _ _).new (by omega) _ _).new (by omega) _ _⟩)
  | cons c t =>
    obtain ⟨C, hC⟩ : ∃ C : Int, C = (c.toNat : Int) := ⟨_, rfl⟩
    have hC0 : 0 ≤ C := by omega
    have hC9 : C < 256 := by have := c.toNat_lt; omega
    have HB : Hid (Calls Tryz.prog 43 #[.pointer (some ⟨R, 0, none⟩)] W0 fun e w' => e = .returned (.tuple #[.int .u8 C, .bool true]) ∧ RdAt w' R t ∧ But R W0 w') := Lib.hid (by
      have := byte_ok W0 R c t H.out
      rwa [← hC] at this)
    have HC := Lib.hid hC
    have Hlen : Hid (t.length ≤ 1000000) := Lib.hid (by simp at hl; omega)
    clear hC hl
    refine HB.out.mono ?_
    rintro e w2 ⟨rfl, hok, hb⟩
    have hbox := below_box1 w2 (.cells #[.int .i64 C, .int .i64 0, .string ⟨#[]⟩, .int .u64 0] 26)
    have HA2 := Lib.hid ((Hat.out.but hb (by omega)).below hbox (Hat.out.but hb (by omega)).lt)
    have HD2 := Lib.hid (At.new w2 C 0 ⟨#[]⟩ 0 26)
    have HR2 := Lib.hid (hok.below hbox)
    have Hb2 := Lib.hid ((Hbut.out.trans hb).trans (But.of hbox))
    have hAD : A < w2.heap.size := (Hat.out.but hb (by omega)).lt
    clear hok hb hbox Hat H Hbut HB
    go_upto_region 3 with fail
    generalize w2.alloc _ = W3 at *
    generalize w2.heap.size = D at *
    have e0 := HD2.out.c0
    go_upto_block 0 with fail
    have hRD : R < D := by omega
    have hDA : D ≠ A := by omega
    have hDR : D ≠ R := by omega
    have hAR : A ≠ R := by omega
    have hwD : w.heap.size ≤ D := by omega
    go_cut [5] (fun bv wx => GetMids w wx R A D (c :: t) bv)
    case first =>
      by_cases k1 : C = 1
      · subst k1
        have Hg : Hid (getL (c :: t) = (readL 0 0 t).map fun p => (⟨1, unfoldN p.1, ⟨#[]⟩, 0⟩, p.2)) := Lib.hid (by rw [getL_cons, if_neg (by have := HC.out; omega), if_pos (by have := HC.out; omega)])
        go_wp2_with fail
        refine (rdNumber_any W3 R t HR2.out).mono ?_
        rintro e w4 (⟨u, r, h1, rfl, h2, h3⟩ | ⟨h1, rfl, h2, h3⟩)
        · have hA4 := Lib.hid (HA2.out.but h3 hAR)
          have hD4 := Lib.hid (HD2.out.but h3 hDR)
          have H1 := Lib.hid h1; have H2 := Lib.hid h2; have H3 := Lib.hid (Hb2.out.trans h3)
          clear h1 h2 h3
          have z1 := hD4.out.z 1
          have c1 := hD4.out.c1
          go_wp2_with fail
          go_meet
          exact ⟨true, ⟨1, unfoldN u, ⟨#[]⟩, 0⟩, rfl, hA4.out.off hDA _ _, hD4.out.setN _, H3.out.new hwD _ _, .inl ⟨rfl, r, H2.out.off hRD _ _, by rw [Hg.out, H1.out, right_num]; rfl⟩⟩
        · have hA4 := Lib.hid (HA2.out.but h3 hAR)
          have hD4 := Lib.hid (HD2.out.but h3 hDR)
          have H1 := Lib.hid h1; have H3 := Lib.hid (Hb2.out.trans h3)
          clear h1 h2 h3
          have z1 := hD4.out.z 1
          have c1 := hD4.out.c1
          go_wp2_with fail
          go_meet
          exact ⟨false, ⟨1, 0, ⟨#[]⟩, 0⟩, rfl, hA4.out.off hDA _ _, hD4.out.setN _, H3.out.new hwD _ _, .inr ⟨rfl, by rw [Hg.out, H1.out]; rfl⟩⟩
      by_cases k2 : C = 2
      · subst k2
        have Hg : Hid (getL (c :: t) = getTwo t) := Lib.hid (by rw [getL_cons, if_neg (by have := HC.out; omega), if_neg (by have := HC.out; omega), if_pos (by have := HC.out; omega)]; cases t <;> rfl)
        clear k1
        cases t with
        | nil =>
          go_wp2_with fail
          refine (byte_end W3 R HR2.out).mono ?_
          rintro e w4 ⟨rfl, h2, h3⟩
          have hA4 := Lib.hid (HA2.out.but h3 hAR)
          have hD4 := Lib.hid (HD2.out.but h3 hDR)
          have H3 := Lib.hid (Hb2.out.trans h3)
          clear h2 h3
          have z1 := hD4.out.z 1
          have c1 := hD4.out.c1
          go_wp2_with fail
          go_meet
          exact ⟨false, ⟨2, 0, ⟨#[]⟩, 0⟩, rfl, hA4.out.off hDA _ _, hD4.out.setN _, H3.out.new hwD _ _, .inr ⟨rfl, Hg.out⟩⟩
        | cons d r =>
          obtain ⟨E, hE⟩ : ∃ E : Int, E = (d.toNat : Int) := ⟨_, rfl⟩
          have hE0 : 0 ≤ E := by omega
          have hE9 : E < 256 := by have := d.toNat_lt; omega
          have HE := Lib.hid hE
          have hb := byte_ok W3 R d r HR2.out
          rw [← hE] at hb
          have HB := Lib.hid hb
          clear hb hE
          go_wp2_with fail
          refine HB.out.mono ?_
          rintro e w4 ⟨rfl, h2, h3⟩
          have hA4 := Lib.hid (HA2.out.but h3 hAR)
          have hD4 := Lib.hid (HD2.out.but h3 hDR)
          have H2 := Lib.hid h2; have H3 := Lib.hid (Hb2.out.trans h3)
          clear h2 h3
          have z1 := hD4.out.z 1
          have c1 := hD4.out.c1
          go_wp2_with fail
          go_meet
          refine ⟨true, ⟨2, E, ⟨#[]⟩, 0⟩, rfl, hA4.out.off hDA _ _, hD4.out.setN _, H3.out.new hwD _ _, .inl ⟨rfl, r, H2.out.off hRD _ _, ?_⟩⟩
          rw [Hg.out, right_two]
          have hh := HE.out
          subst hh
          by_cases hd : d.toNat ≤ 1
          · rw [decide_eq_true (by omega)]
            show (if d.toNat ≤ 1 then _ else _) = _
            rw [if_pos hd]; rfl
          · rw [decide_eq_false (by omega)]
            show (if d.toNat ≤ 1 then _ else _) = _
            rw [if_neg hd]; rfl
      by_cases k3 : C = 3
      · subst k3
        have Hg : Hid (getL (c :: t) = (readL 0 0 t).bind fun p => if p.1 ≤ 64 ∧ p.1 ≤ p.2.length then some (⟨3, 0, ⟨(p.2.take p.1).toArray⟩, 0⟩, p.2.drop p.1) else none) := Lib.hid (by rw [getL_cons, if_neg (by have := HC.out; omega), if_neg (by have := HC.out; omega), if_neg (by have := HC.out; omega), if_pos (by have := HC.out; omega)])
        clear k1 k2
        go_wp2_with fail
        refine (rdText_any W3 R t HR2.out Hlen.out).mono ?_
        rintro e w4 (⟨u, r, h1, hu, rfl, h2, h3⟩ | ⟨h1, rfl, h2, h3⟩)
        · have hA4 := Lib.hid (HA2.out.but h3 hAR)
          have hD4 := Lib.hid (HD2.out.but h3 hDR)
          have H1 := Lib.hid h1; have H2 := Lib.hid h2; have H3 := Lib.hid (Hb2.out.trans h3)
          have Hu := Lib.hid hu
          clear h1 h2 h3 hu
          have z1 := hD4.out.z 2
          have c1 := hD4.out.c2
          go_wp2_with fail
          go_meet
          refine ⟨true, ⟨3, 0, ⟨(r.take u).toArray⟩, 0⟩, rfl, hA4.out.off hDA _ _, hD4.out.setS _, H3.out.new hwD _ _, .inl ⟨rfl, _, H2.out.off hRD _ _, ?_⟩⟩
          rw [Hg.out, H1.out, right_three]
          have hsz : (ByteArray.mk (r.take u).toArray).size = u := by
            show (r.take u).toArray.size = u
            simp
            exact Nat.min_eq_left Hu.out
          rw [hsz]
          show (if u ≤ 64 ∧ u ≤ r.length then _ else _) = _
          by_cases h64 : u ≤ 64
          · rw [if_pos ⟨h64, Hu.out⟩, decide_eq_true h64]; rfl
          · rw [if_neg (fun h => h64 h.1), decide_eq_false h64]; rfl
        · have hA4 := Lib.hid (HA2.out.but h3 hAR)
          have hD4 := Lib.hid (HD2.out.but h3 hDR)
          have H1 := Lib.hid h1; have H3 := Lib.hid (Hb2.out.trans h3)
          clear h1 h2 h3
          have z1 := hD4.out.z 2
          have c1 := hD4.out.c2
          go_wp2_with fail
          go_meet
          refine ⟨false, ⟨3, 0, ⟨#[]⟩, 0⟩, rfl, hA4.out.off hDA _ _, hD4.out.setS _, H3.out.new hwD _ _, .inr ⟨rfl, ?_⟩⟩
          rw [Hg.out]
          rcases H1.out with h | ⟨u, r, h, h2⟩
          · rw [h]; rfl
          · rw [h]
            show (if u ≤ 64 ∧ u ≤ r.length then _ else _) = _
            rw [if_neg (by omega)]
      by_cases k4 : C = 4
      · subst k4
        have Hg : Hid (getL (c :: t) = if 8 ≤ t.length ∧ canonF (leV (t.take 8) : Nat) = ((leV (t.take 8) : Nat) : Int) then some (⟨4, 0, ⟨#[]⟩, ((leV (t.take 8) : Nat) : Int)⟩, t.drop 8) else none) := Lib.hid (by rw [getL_cons, if_neg (by have := HC.out; omega), if_neg (by have := HC.out; omega), if_neg (by have := HC.out; omega), if_neg (by have := HC.out; omega), if_pos (by have := HC.out; omega)])
        clear k1 k2 k3
        go_wp2_with fail
        refine (bits_any W3 R t HR2.out).mono ?_
        rintro e w4 ⟨b, U, rfl, h1, h3⟩
        have hA4 := Lib.hid (HA2.out.but h3 hAR)
        have hD4 := Lib.hid (HD2.out.but h3 hDR)
        have H1 := Lib.hid h1; have H3 := Lib.hid (Hb2.out.trans h3)
        clear h1 h3
        have z1 := hD4.out.z 3
        have c1 := hD4.out.c3
        go_wp2_with fail
        go_meet
        refine ⟨b, ⟨4, 0, ⟨#[]⟩, U⟩, rfl, hA4.out.off hDA _ _, hD4.out.setF _, H3.out.new hwD _ _, ?_⟩
        rcases H1.out with ⟨rfl, h8, rfl, hr⟩ | ⟨rfl, h8, -⟩
        · refine .inl ⟨rfl, _, hr.off hRD _ _, ?_⟩
          rw [Hg.out, right_four]
          by_cases hcn : canonF (leV (t.take 8) : Nat) = ((leV (t.take 8) : Nat) : Int)
          · rw [if_pos ⟨h8, hcn⟩, decide_eq_true hcn]; rfl
          · rw [if_neg (fun h => hcn h.2), decide_eq_false hcn]; rfl
        · exact .inr ⟨rfl, by rw [Hg.out, if_neg (by omega)]⟩
      · have b1 : (C == 1) = false := by rw [beq_eq_false_iff_ne]; exact k1
        have b2 : (C == 2) = false := by rw [beq_eq_false_iff_ne]; exact k2
        have b3 : (C == 3) = false := by rw [beq_eq_false_iff_ne]; exact k3
        have b4 : (C == 4) = false := by rw [beq_eq_false_iff_ne]; exact k4
        have Hfit : Hid (getL (c :: t) = if rightB ⟨C, 0, ⟨#[]⟩, 0⟩ then some (⟨C, 0, ⟨#[]⟩, 0⟩, t) else none) := Lib.hid (by
          have hc := HC.out
          rw [getL_cons]
          by_cases h0 : c.toNat = 0
          · have : C = 0 := by omega
            subst this
            rw [if_pos h0, right_none]; rfl
          · rw [if_neg h0, if_neg (by omega), if_neg (by omega), if_neg (by omega), if_neg (by omega), right_more C (by omega)]; rfl)
        clear k1 k2 k3 k4
        go_wp2_with fail
        go_meet
        exact ⟨true, ⟨C, 0, ⟨#[]⟩, 0⟩, rfl, HA2.out, HD2.out, Hb2.out, .inl ⟨rfl, t, HR2.out, Hfit.out⟩⟩
    case rest =>
      obtain ⟨b, x, rfl, hm⟩ := hcut
      clear HA2 HD2 HR2 Hb2 e0
      have Hm := Lib.hid hm
      clear hm
      rcases Hm.out.fit with ⟨rfl, r, h1, h2⟩ | ⟨rfl, h2⟩
      · have H1 := Lib.hid h1; have H2 := Lib.hid h2
        clear h1 h2
        obtain ⟨xk, xn, xs, xf⟩ := x
        obtain ⟨e0, e1, e2, e3, -, -⟩ := Hm.out.two
        simp only at e0 e1 e2 e3
        go_wp2_with fail
        refine (right_any wc ⟨xk, xn, xs, xf⟩).mono ?_
        rintro e w5 ⟨rfl, hb⟩
        have hA5 := Hm.out.one.below hb Hm.out.one.lt
        have hD5 := Hm.out.two.below hb Hm.out.two.lt
        have HR5 := Lib.hid (H1.out.below hb)
        have Hb5 := Lib.hid (Hm.out.but.trans (But.of hb))
        clear hb e0 e1 e2 e3
        have z0 := hA5.z 0; have z1 := hA5.z 1; have z2 := hA5.z 2; have z3 := hA5.z 3
        obtain ⟨d0, d1, d2, d3, -, -⟩ := hA5
        obtain ⟨e0, e1, e2, e3, -, -⟩ := hD5
        simp only at e0 e1 e2 e3
        have hrb := H2.out
        have HR6 : Hid (∀ (v0 v1 v2 v3 : Value), RdAt ((((w5.setCell ⟨A, 0, none⟩ v0).setCell ⟨A, 1, none⟩ v1).setCell ⟨A, 2, none⟩ v2).setCell ⟨A, 3, none⟩ v3) R r) := Lib.hid fun v0 v1 v2 v3 => (((HR5.out.off hRA _ _).off hRA _ _).off hRA _ _).off hRA _ _
        have Hb6 : Hid (∀ (v0 v1 v2 v3 : Value), But R w ((((w5.setCell ⟨A, 0, none⟩ v0).setCell ⟨A, 1, none⟩ v1).setCell ⟨A, 2, none⟩ v2).setCell ⟨A, 3, none⟩ v3)) := Lib.hid fun v0 v1 v2 v3 => (((Hb5.out.new (by omega) _ _).new (by omega) _ _).new (by omega) _ _).new (by omega) _ _
        cases hr : rightB ⟨xk, xn, xs, xf⟩ with
        | false =>
          rw [hr] at hrb
          have Hno := Lib.hid hrb
          clear hrb hr
          go_wp2_with fail
          exact bodyPost_ret (v := .tuple #[.agg #[.int .i64 0, .int .i64 0, .string ⟨#[]⟩, .int .u64 0], .bool false]) (by simp [results, Tryz.results18, go_sem, d0, d1, d2, d3]) rfl (.inr ⟨Hno.out, rfl, Hb6.out _ _ _ _⟩)
        | true =>
          rw [hr] at hrb
          have Hyes := Lib.hid hrb
          clear hrb hr
          go_wp2_with fail
          exact bodyPost_ret (v := .tuple #[.agg #[.int .i64 xk, .int .i64 xn, .string xs, .int .u64 xf], .bool true]) (by simp [results, Tryz.results18, go_sem, d0, d1, d2, d3]) rfl (.inl ⟨_, r, Hyes.out, rfl, HR6.out _ _ _ _, Hb6.out _ _ _ _⟩)
      · have H2 := Lib.hid h2
        have hA5 := Hm.out.one
        have Hb6 : Hid (∀ (v0 v1 v2 v3 : Value), But R w ((((wc.setCell ⟨A, 0, none⟩ v0).setCell ⟨A, 1, none⟩ v1).setCell ⟨A, 2, none⟩ v2).setCell ⟨A, 3, none⟩ v3)) := Lib.hid fun v0 v1 v2 v3 => (((Hm.out.but.new (by omega) _ _).new (by omega) _ _).new (by omega) _ _).new (by omega) _ _
        have z0 := hA5.z 0; have z1 := hA5.z 1; have z2 := hA5.z 2; have z3 := hA5.z 3
        obtain ⟨d0, d1, d2, d3, -, -⟩ := hA5
        clear h2
        go_wp2_with fail
        exact bodyPost_ret (v := .tuple #[.agg #[.int .i64 0, .int .i64 0, .string ⟨#[]⟩, .int .u64 0], .bool false]) (by simp [results, Tryz.results18, go_sem, d0, d1, d2, d3]) rfl (.inr ⟨H2.out, rfl, Hb6.out _ _ _ _⟩)
end Go.Proofs.YtacafhmagonngaaGreatDoor
namespace Go.Proofs.YtacafhmagonngaaGreatDoor
open Go.RowKit

set_option maxHeartbeats 8000000 in
set_option maxRecDepth 100000 in
theorem naturalR_any (k : Nat) : ∀ (w : World) (n : Nat), n < 128 ^ (k + 1) → k ≤ 9 → n < 18446744073709551616 →
    Calls Tryz.prog 51 #[.int .u64 (n : Int)] w fun e w' => ∃ v', e = .returned v' ∧ Buf w w' v' (natF k n) := by
  induction k with
  | zero =>
    intro w n hn _ _
    have hn1 : n < 128 := by simpa using hn
    have hb := Buf.lit w (UInt8.ofNat n) #[.int .u8 (n : Int)] (by rw [ofNat_toNat (by omega)])
    have HB := Lib.hid hb
    obtain ⟨N, hN⟩ : ∃ N : Int, N = (n : Int) := ⟨_, rfl⟩
    rw [← hN] at HB ⊢
    have hN1 : N < 128 := by omega
    have hN0 : 0 ≤ N := by omega
    have hw8 : IntKind.u8.wrap N = N := by rw [show IntKind.u8.wrap N = N % 256 from rfl]; omega
    clear hb hn hN
    go_enter Tryz.func51, Tryz.ntmps51
    go_wp2_with fail
    go_ret
    exact ⟨_, rfl, HB.out⟩
  | succ k ih =>
    intro w n hn hk h64
    obtain ⟨N, hN⟩ : ∃ N : Int, N = (n : Int) := ⟨_, rfl⟩
    by_cases hs : n < 128
    · have hb := Buf.lit w (UInt8.ofNat n) #[.int .u8 (n : Int)] (by rw [ofNat_toNat (by omega)])
      have hf : natF (k + 1) n = [UInt8.ofNat n] := by unfold natF; rw [if_pos hs]
      rw [hf]
      have HB := Lib.hid hb
      rw [← hN] at HB ⊢
      have hN1 : N < 128 := by omega
      have hN0 : 0 ≤ N := by omega
      have hw8 : IntKind.u8.wrap N = N := by rw [show IntKind.u8.wrap N = N % 256 from rfl]; omega
      clear hb hn hN ih hf
      go_enter Tryz.func51, Tryz.ntmps51
      go_wp2_with fail
      go_ret
      exact ⟨_, rfl, HB.out⟩
    · have hb := Buf.lit w (UInt8.ofNat (128 + n % 128)) #[.int .u8 ((128 + n % 128 : Nat) : Int)] (by rw [ofNat_toNat (by omega)])
      have hf : natF (k + 1) n = [UInt8.ofNat (128 + n % 128)] ++ natF k (n / 128) := by
        show (if n < 128 then _ else _) = _
        rw [if_neg hs]; rfl
      have HF := Lib.hid hf
      have hr : ∀ W, Calls Tryz.prog 51 #[.int .u64 (N / 128)] W fun e w' => ∃ v', e = .returned v' ∧ Buf W w' v' (natF k (n / 128)) := fun W => by
        have := ih W (n / 128) (by rw [Nat.pow_succ] at hn; omega) (by omega) (by omega)
        rwa [show ((n / 128 : Nat) : Int) = N / 128 from by omega] at this
      have HR := Lib.hid hr
      have hlen := natF_length k (n / 128)
      have Hlen : Hid ([UInt8.ofNat (128 + n % 128)].length + (natF k (n / 128)).length ≤ 1000000) := Lib.hid (by simp; omega)
      have hc : ((128 + n % 128 : Nat) : Int) = 128 + N % 128 := by omega
      rw [hc] at hb
      have HB := Lib.hid hb
      rw [← hN]
      have hN1 : ¬ N < 128 := by omega
      have hN0 : 0 ≤ N := by omega
      have hN9 : N < 18446744073709551616 := by omega
      have hw8 : IntKind.u8.wrap (128 + N % 128) = 128 + N % 128 := by rw [show IntKind.u8.wrap (128 + N % 128) = (128 + N % 128) % 256 from rfl]; omega
      clear hb hn hN ih hf hr hlen hc h64 hs
      go_enter Tryz.func51, Tryz.ntmps51
      go_wp2_with fail
      refine (HR.out _).mono ?_
      rintro e w1 ⟨v1, rfl, hb⟩
      have Hb := Lib.hid hb
      clear hb
      go_wp2_with (at_builtin; refine wpList_buf rfl (.tmp 12) (.tmp 15) rfl w _ _ _ _ _ HB.out Hlen.out Hb.out.below Hb.out.sl rfl rfl ?_; intro v' w2 hb1; have Hb1 := Lib.hid hb1; clear hb1)
      go_ret
      exact ⟨_, rfl, by rw [HF.out]; exact Hb1.out⟩
set_option maxHeartbeats 8000000 in
set_option maxRecDepth 100000 in
theorem foldedR_any (w : World) (n : Int) (h0 : -9223372036854775808 ≤ n) (h1 : n ≤ 9223372036854775807) :
    Calls Tryz.prog 52 #[.int .i64 n] w fun e w' => e = .returned (.int .u64 (foldN n : Int)) ∧ w' = w := by
  by_cases hn : 0 ≤ n
  · have hf : ((foldN n : Nat) : Int) = 2 * n := by unfold foldN; rw [if_pos hn]; omega
    rw [hf]
    clear hf
    go_enter Tryz.func52, Tryz.ntmps52
    go_wp2_with fail
    go_ret
    exact ⟨rfl, rfl⟩
  · have hf : ((foldN n : Nat) : Int) = 2 * -(n + 1) + 1 := by unfold foldN; rw [if_neg hn]; omega
    rw [hf]
    clear hf
    go_enter Tryz.func52, Tryz.ntmps52
    go_wp2_with fail
    go_ret
    exact ⟨rfl, rfl⟩
set_option maxHeartbeats 8000000 in
set_option maxRecDepth 100000 in
theorem unfoldedR_any (w : World) (u : Nat) (h1 : u < 18446744073709551616) :
    Calls Tryz.prog 49 #[.int .u64 (u : Int)] w fun e w' => e = .returned (.int .i64 (unfoldN u)) ∧ w' = w := by
  by_cases hn : u % 2 = 0
  · have hf : unfoldN u = (u : Int) / 2 := by unfold unfoldN; rw [if_pos hn]; omega
    rw [hf]
    have hm : (u : Int) % 2 = 0 := by omega
    clear hf
    go_enter Tryz.func49, Tryz.ntmps49
    go_wp2_with fail
    go_ret
    exact ⟨rfl, rfl⟩
  · have hf : unfoldN u = -((u : Int) / 2) - 1 := by unfold unfoldN; rw [if_neg hn]; omega
    rw [hf]
    have hm : ¬ (u : Int) % 2 = 0 := by omega
    clear hf
    go_enter Tryz.func49, Tryz.ntmps49
    go_wp2_with fail
    go_ret
    exact ⟨rfl, rfl⟩
end Go.Proofs.YtacafhmagonngaaGreatDoor
namespace Go.Proofs.YtacafhmagonngaaGreatDoor
open Go.RowKit

def ReadEnds (l : List UInt8) (w w' : World) (e : Ending) : Prop :=
  (∃ u k : Nat, readL 0 0 l = some (u, l.drop k) ∧ 0 < k ∧ k ≤ l.length ∧ k ≤ 10 ∧ u < 18446744073709551616 ∧ e = .returned (.tuple #[.int .u64 (u : Int), .int .i64 (k : Int)]) ∧ w' = w) ∨
  (readL 0 0 l = none ∧ e = .returned (.tuple #[.int .u64 0, .int .i64 0]) ∧ w' = w)
theorem drop_next {l : List UInt8} {j : Nat} {c : UInt8} (h : l[j]? = some c) : l.drop j = c :: l.drop (j + 1) := by
  have hl : j < l.length := (List.getElem?_eq_some_iff.1 h).1
  rw [List.getElem?_eq_getElem hl] at h
  rw [List.drop_eq_getElem_cons hl, Option.some.inj h]
set_option maxHeartbeats 8000000 in
set_option maxRecDepth 100000 in
theorem readR_any (w : World) (v : Value) (l : List UInt8) (hs : Sl w v l) :
    Calls Tryz.prog 48 #[v] w fun e w' => ReadEnds l w w' e := by
  have hform : ∃ (a : Option Addr) (c : Nat), v = .slice a l.length c ∧ (∀ j x, l[j]? = some x → ∃ b, a = some b ∧ w.cell? (b.add j) = some (.int .u8 (x.toNat : Int))) := by
    rcases hs with ⟨rfl, rfl⟩ | ⟨a, c, rfl, -, hc⟩
    · exact ⟨none, 0, rfl, fun j x h => by cases h⟩
    · refine ⟨some a, c, rfl, fun j x h => ⟨a, rfl, hc j _ ?_⟩⟩
      unfold encB
      rw [List.getElem?_map, h]
      rfl
  obtain ⟨a, cp, rfl, hcell⟩ := hform
  obtain ⟨N, hN⟩ : ∃ N, l.length = N := ⟨_, rfl⟩
  have Hcell := Lib.hid hcell; have HN := Lib.hid hN
  rw [hN]
  clear hs hcell hN
  go_enter Tryz.func48, Tryz.ntmps48
  go_wp2_with fail
  go_loopg [4, 5, 6] 9 (fun mm nv uv iv wr => ∃ (i acc : Nat) (NI UI II : Int), nv = .int .u64 NI ∧ uv = .int .u64 UI ∧ iv = .int .i64 II ∧ Hid (i + mm = 9 ∧ i ≤ N ∧ NI = (acc : Int) ∧ UI = ((128 ^ i : Nat) : Int) ∧ II = (i : Int) ∧ acc < 128 ^ i ∧ readL i acc (l.drop i) = readL 0 0 l) ∧ wr = w)
  case atStart => exact ⟨0, 0, 0, 1, 0, rfl, rfl, rfl, Lib.hid ⟨rfl, Nat.zero_le _, rfl, rfl, rfl, by decide, rfl⟩, rfl⟩
  case round =>
    obtain ⟨i, acc, NI, UI, II, rfl, rfl, rfl, HI, rfl⟩ := hrel
    have hI0 : 0 ≤ II := by have := HI.out.2.2.2.2.1; omega
    have hI9 : II ≤ 9 := by have := HI.out.2.2.2.2.1; have := HI.out.1; omega
    by_cases hiN : i < N
    · have hIN : II < (N : Int) := by have := HI.out.2.2.2.2.1; omega
      have hIn : II.toNat = i := by have := HI.out.2.2.2.2.1; omega
      have hil : i < l.length := by have := HN.out; omega
      obtain ⟨c, hc⟩ : ∃ c, l[i]? = some c := ⟨l[i], List.getElem?_eq_getElem hil⟩
      obtain ⟨b, hb1, hb2⟩ := Hcell.out i c hc
      subst hb1
      have hdn := drop_next hc
      obtain ⟨C, hC⟩ : ∃ C : Int, C = (c.toNat : Int) := ⟨_, rfl⟩
      rw [← hC] at hb2
      have hC0 : 0 ≤ C := by omega
      have hC9 : C < 256 := by have := c.toNat_lt; omega
      have Hstep : Hid (readL i acc (c :: l.drop (i + 1)) = (if (i = 9 ∧ 1 < c.toNat) ∨ (0 < i ∧ c.toNat = 0) then none else if c.toNat < 128 then some (acc + c.toNat * 128 ^ i, l.drop (i + 1)) else readL (i + 1) (acc + (c.toNat - 128) * 128 ^ i) (l.drop (i + 1)))) := Lib.hid rfl
      have Hcur : Hid (readL 0 0 l = readL i acc (c :: l.drop (i + 1))) := Lib.hid (by rw [← hdn]; exact HI.out.2.2.2.2.2.2.symm)
      have HC := Lib.hid hC; have Hil := Lib.hid hil
      have h128 : (128 : Nat) ^ i ≤ 128 ^ 9 := Nat.pow_le_pow_right (by decide) (by have := HI.out.1; omega)
      have e9 : (128 : Nat) ^ 9 = 9223372036854775808 := by decide
      have hpos : 0 < (128 : Nat) ^ i := Nat.pow_pos (by decide)
      have HU : Hid (0 < UI ∧ UI ≤ 9223372036854775808) := Lib.hid (by have := HI.out.2.2.2.1; omega)
      have HNI : Hid (0 ≤ NI ∧ NI < UI) := Lib.hid (by have := HI.out.2.2.2.1; have := HI.out.2.2.1; have := HI.out.2.2.2.2.2.1; omega)
      clear hc hdn hC hil h128 e9 hpos hiN
      by_cases hF : (i = 9 ∧ 1 < c.toNat) ∨ (0 < i ∧ c.toNat = 0)
      · have Hno : Hid (readL 0 0 l = none) := Lib.hid (by rw [Hcur.out, Hstep.out, if_pos hF])
        have hFI : (II = 9 ∧ 1 < C) ∨ (0 < II ∧ C = 0) := by have := HI.out.2.2.2.2.1; have := HC.out; omega
        clear hF
        rcases hFI with ⟨rfl, hC1⟩ | ⟨hS, rfl⟩
        all_goals
          go_wp2_with fail
          all_goals
            go_ret2
            exact .inr ⟨Hno.out, rfl, rfl⟩
      · have hFI1 : ¬ (II = 9 ∧ 1 < C) := by have := HI.out.2.2.2.2.1; have := HC.out; omega
        have hFI2 : ¬ (0 < II ∧ C = 0) := by have := HI.out.2.2.2.2.1; have := HC.out; omega
        have Hst2 : Hid (readL 0 0 l = if c.toNat < 128 then some (acc + c.toNat * 128 ^ i, l.drop (i + 1)) else readL (i + 1) (acc + (c.toNat - 128) * 128 ^ i) (l.drop (i + 1))) := Lib.hid (by rw [Hcur.out, Hstep.out, if_neg hF])
        clear hF Hstep Hcur
        obtain ⟨M, hM⟩ : ∃ M : Int, C % 128 = M := ⟨_, rfl⟩
        obtain ⟨P, hP⟩ : ∃ P : Int, M * UI = P := ⟨_, rfl⟩
        have hMP : ∃ m : Nat, M = (m : Int) ∧ m < 128 ∧ P = ((m * 128 ^ i : Nat) : Int) ∧ m * 128 ^ i ≤ 127 * 128 ^ i := by
          refine ⟨M.toNat, by omega, by omega, ?_, Nat.mul_le_mul_right _ (by omega)⟩
          rw [← hP, HI.out.2.2.2.1, Int.natCast_mul]
          congr 1
          omega
        obtain ⟨m, hm1, hm2, hm3, hm4⟩ := hMP
        by_cases hlt : c.toNat < 128
        · have hC1 : C < 128 := by have := HC.out; omega
          have hmc : m = c.toNat := by have := HC.out; omega
          have hP9 : P < 9223372036854775808 + 9223372036854775808 - NI ∧ 0 ≤ P := by
            have h1 := HI.out.2.2.2.1; have h2 := HI.out.2.2.1; have h3 := HI.out.2.2.2.2.2.1
            by_cases h9 : i = 9
            · have : m ≤ 1 := by have := HI.out.2.2.2.2.1; have := HC.out; omega
              subst h9
              have e9 : (128 : Nat) ^ 9 = 9223372036854775808 := by decide
              rw [e9] at *
              omega
            · have h8 : (128 : Nat) ^ i ≤ 128 ^ 8 := Nat.pow_le_pow_right (by decide) (by have := HI.out.1; omega)
              have e8 : (128 : Nat) ^ 8 = 72057594037927936 := by decide
              omega
          obtain ⟨V, hV⟩ : ∃ V : Int, NI + P = V := ⟨_, rfl⟩
          have hwP : IntKind.u64.wrap P = P := by rw [IntKind.wrap_u64]; have := HNI.out; omega
          have hwV : IntKind.u64.wrap V = V := by rw [IntKind.wrap_u64]; have := HNI.out; omega
          have Hend : Hid (readL 0 0 l = some (acc + c.toNat * 128 ^ i, l.drop (i + 1)) ∧ acc + c.toNat * 128 ^ i < 18446744073709551616 ∧ V = ((acc + c.toNat * 128 ^ i : Nat) : Int)) := Lib.hid (by
            have h2 := HI.out.2.2.1
            rw [hmc] at hm3
            refine ⟨by rw [Hst2.out, if_pos hlt], by omega, by omega⟩)
          by_cases h9 : II = 9
          · have hC2 : C = 1 := by omega
            have hi9 : i = 9 := by have := HI.out.2.2.2.2.1; omega
            have Hk := Lib.hid hi9
            subst h9
            subst hC2
            obtain rfl : M = 1 := by omega
            rw [Int.one_mul] at hP
            subst hP
            clear hM
            clear hlt hm1 hm2 hm3 hm4 hmc hP9 hi9
            go_wp2_with fail
            go_ret2
            exact .inl ⟨_, 10, by have := Hend.out.1; rw [Hk.out] at this ⊢; exact this, by decide, by have := Hil.out; have := Hk.out; omega, by decide, Hend.out.2.1, by rw [← Hend.out.2.2]; rfl, rfl⟩
          · have hk : II + 1 ≤ 10 := by omega
            have Hk : Hid (((i + 1 : Nat) : Int) = II + 1) := Lib.hid (by have := HI.out.2.2.2.2.1; omega)
            clear hlt hm1 hm2 hm3 hm4 hmc hP9 hFI1
            go_wp2_with fail
            all_goals
              go_ret2
              exact .inl ⟨_, i + 1, Hend.out.1, Nat.succ_pos _, Hil.out, by have := HI.out.1; omega, Hend.out.2.1, by rw [← Hend.out.2.2, Hk.out]; rfl, rfl⟩
        · have hC1 : ¬ C < 128 := by have := HC.out; omega
          have hi9 : i < 9 := by have := HI.out.1; have := HI.out.2.2.2.2.1; have := HC.out; omega
          have hmc : m = c.toNat - 128 := by have := HC.out; omega
          have h8 : (128 : Nat) ^ i ≤ 128 ^ 8 := Nat.pow_le_pow_right (by decide) (by omega)
          have e8 : (128 : Nat) ^ 8 = 72057594037927936 := by decide
          obtain ⟨V, hV⟩ : ∃ V : Int, NI + P = V := ⟨_, rfl⟩
          have hwP : IntKind.u64.wrap P = P := by rw [IntKind.wrap_u64]; omega
          have hVr : 0 ≤ V ∧ V < 18446744073709551616 := by have h1 := HI.out.2.2.2.1; have h2 := HI.out.2.2.1; have h3 := HI.out.2.2.2.2.2.1; omega
          have hwV : IntKind.u64.wrap V = V := by rw [IntKind.wrap_u64]; omega
          obtain ⟨T, hT⟩ : ∃ T : Int, UI * 128 = T := ⟨_, rfl⟩
          have hwT : IntKind.u64.wrap T = T := by rw [IntKind.wrap_u64]; have h1 := HI.out.2.2.2.1; omega
          have HNx : Hid (i + 1 + (8 - i) = 9 ∧ i + 1 ≤ N ∧ V = ((acc + (c.toNat - 128) * 128 ^ i : Nat) : Int) ∧ T = ((128 ^ (i + 1) : Nat) : Int) ∧ II + 1 = ((i + 1 : Nat) : Int) ∧ acc + (c.toNat - 128) * 128 ^ i < 128 ^ (i + 1) ∧ readL (i + 1) (acc + (c.toNat - 128) * 128 ^ i) (l.drop (i + 1)) = readL 0 0 l) := Lib.hid (by
            have h1 := HI.out.2.2.2.1; have h2 := HI.out.2.2.1; have h3 := HI.out.2.2.2.2.2.1
            have h4 := HI.out.2.2.2.2.1; have h5 := Hil.out; have h6 := HN.out
            rw [hmc] at hm3 hm4
            refine ⟨by omega, by omega, by omega, by rw [Nat.pow_succ]; omega, by omega, by rw [Nat.pow_succ]; omega, by rw [Hst2.out, if_neg hlt]⟩)
          have Hi9 := Lib.hid hi9
          have hII : II < 9 := by have := HI.out.2.2.2.2.1; omega
          clear hlt hm1 hm2 hm3 hm4 hmc hi9 h8 e8 hVr hFI1 hI9
          go_wp2_with fail
          all_goals
            go_roundg (8 - i)
            case measure => have := HI.out.1; have := Hi9.out; omega
            case rel => exact ⟨i + 1, _, V, T, II + 1, by go_num, by go_num, by go_num, HNx.out, rfl⟩
    · have hIN : ¬ II < (N : Int) := by have := HI.out.2.2.2.2.1; omega
      have Hno : Hid (readL 0 0 l = none) := Lib.hid (by
        rw [← HI.out.2.2.2.2.2.2, List.drop_eq_nil_of_le (by have := HN.out; omega)]
        cases i <;> rfl)
      clear hiN
      go_wp2_with fail
      go_ret2
      exact .inr ⟨Hno.out, rfl, rfl⟩
end Go.Proofs.YtacafhmagonngaaGreatDoor
namespace Go.Proofs.YtacafhmagonngaaGreatDoor
open Go.RowKit

/-- a slice behind its first bytes -/
theorem Sl.cut {w : World} {a : Addr} {c N k : Nat} {l : List UInt8} (hN : l.length = N) (h1 : N ≤ c) (hk : k ≤ N) (hc : ∀ j u, (encB l)[j]? = some u → w.cell? (a.add j) = some u) :
    (c = k → Sl w (.slice (some a) (N - k) 0) (l.drop k)) ∧ (¬ c = k → Sl w (.slice (some (a.add k)) (N - k) (c - k)) (l.drop k)) := by
  have hl : (l.drop k).length = N - k := by rw [List.length_drop, hN]
  refine ⟨fun h => ?_, fun h => ?_⟩
  · have : l.drop k = [] := List.eq_nil_of_length_eq_zero (by omega)
    refine .inr ⟨a, 0, by rw [hl], by omega, fun j v hj => ?_⟩
    rw [this] at hj
    simp at hj
  · refine .inr ⟨a.add k, c - k, by rw [hl], by omega, fun j v hj => ?_⟩
    rw [Addr.add_add]
    refine hc _ v ?_
    unfold encB at hj ⊢
    rw [List.getElem?_map] at hj ⊢
    rwa [List.getElem?_drop] at hj
theorem conv_at (w : World) (a : Addr) (c u : Nat) (l : List UInt8) (hu : u ≤ l.length) (hc : 0 < u → ∀ j v, (encB l)[j]? = some v → w.cell? (a.add j) = some v) :
    (convert 39 9 (.slice (some a) u c)).run Tryz.prog w = .ok (.string ⟨(l.take u).toArray⟩) w := by
  have hlu : (l.take u).length = u := by rw [List.length_take]; omega
  have := run_convert_bytes_back (P := Tryz.prog) w 39 9 5 a c (l.take u) Tryz.underlying39 Tryz.underlying5 Tryz.underlying9 (fun j hj => by
    refine hc (by rw [hlu] at hj; omega) j _ ?_
    unfold encB
    rw [List.getElem?_map, List.getElem?_eq_getElem (by rw [List.length_take] at hj; omega)]
    simp)
  rwa [hlu] at this
theorem At.drew1 {W : World} {b : Nat} {k n : Int} {s : ByteArray} {f : Int} (h : At W b k n s f) : At W.drew b k n s f := h.below (Below.refl _ _).drew h.lt
def RGetEnds (l : List UInt8) (w w' : World) (e : Ending) : Prop :=
  (∃ (x : Val) (k : Nat), getL l = some (x, l.drop k) ∧ 0 < k ∧ k ≤ l.length ∧ e = .returned (.tuple #[.agg #[.int .i64 x.k, .int .i64 x.n, .string x.s, .int .u64 x.f], .int .i64 (k : Int)]) ∧ Below w.heap.size w w') ∨
  (getL l = none ∧ e = .returned (.tuple #[.agg #[.int .i64 0, .int .i64 0, .string ⟨#[]⟩, .int .u64 0], .int .i64 0]) ∧ Below w.heap.size w w')
structure RMid (w W : World) (A D : Nat) (l : List UInt8) (k : Nat) (x : Val) : Prop where
  one : At W A 0 0 ⟨#[]⟩ 0
  two : At W D x.k x.n x.s x.f
  bel : Below A w W
  k0 : 0 < k
  k1 : k ≤ l.length
  f0 : 0 ≤ x.f
  f1 : x.f < 18446744073709551616
  fit : getL l = if rightB x then some (x, l.drop k) else none
def RMids (w W : World) (A D : Nat) (l : List UInt8) (nv : Value) : Prop := ∃ (k : Nat) (K : Int) (x : Val), nv = .int .i64 K ∧ K = (k : Int) ∧ RMid w W A D l k x
set_option maxHeartbeats 32000000 in
set_option maxRecDepth 100000 in
theorem getR_any (w : World) (v : Value) (l : List UInt8) (hs : Sl w v l) (hl : l.length ≤ 100000) :
    Calls Tryz.prog 19 #[v] w fun e w' => RGetEnds l w w' e := by
  have Hat := Lib.hid (At.new w 0 0 ⟨#[]⟩ 0 26)
  have Hbw := Lib.hid (below_box1 w (.cells #[.int .i64 0, .int .i64 0, .string ⟨#[]⟩, .int .u64 0] 26))
  cases l with
  | nil =>
    have hform : ∃ a c, v = .slice a 0 c := by
      rcases hs with ⟨rfl, -⟩ | ⟨a, c, rfl, -, -⟩
      · exact ⟨none, 0, rfl⟩
      · exact ⟨some a, c, rfl⟩
    obtain ⟨a, c, rfl⟩ := hform
    clear hs hl
    go_enter Tryz.func19, Tryz.ntmps19
    go_upto_region 1 with fail
    generalize (w.alloc _) = W0 at Hat Hbw ⊢
    generalize hA : w.heap.size = A at *
    have z0 := Hat.out.z 0; have z1 := Hat.out.z 1; have z2 := Hat.out.z 2; have z3 := Hat.out.z 3
    obtain ⟨d0, d1, d2, d3, -, -⟩ := Hat.out
    go_wp2_with fail
    exact bodyPost_ret (v := .tuple #[.agg #[.int .i64 0, .int .i64 0, .string ⟨#[]⟩, .int .u64 0], .int .i64 0]) (by simp [results, Tryz.results19, go_sem, d0, d1, d2, d3]) rfl (.inr ⟨rfl, rfl, by rw [hA]; exact (((Hbw.out.setCell (Nat.le_refl _) _).setCell (Nat.le_refl _) _).setCell (Nat.le_refl _) _).setCell (Nat.le_refl _) _⟩)
  | cons c t =>
    rcases hs with ⟨-, h⟩ | ⟨a, cp, rfl, hcp, hcell⟩
    · cases h
    have hc0 := hcell 0 (.int .u8 (c.toNat : Int)) rfl
    rw [Addr.add_zero'] at hc0
    obtain ⟨C, hC⟩ : ∃ C : Int, C = (c.toNat : Int) := ⟨_, rfl⟩
    rw [← hC] at hc0
    have hC0 : 0 ≤ C := by omega
    have hC9 : C < 256 := by have := c.toNat_lt; omega
    have HC := Lib.hid hC
    obtain ⟨N, hN⟩ : ∃ N, (c :: t).length = N := ⟨_, rfl⟩
    have HN := Lib.hid hN
    have htl : t.length + 1 = N := by rw [← hN]; rfl
    have Htl := Lib.hid htl
    rw [hN]
    have hN0 : ((N : Int) == 0) = false := by rw [beq_eq_false_iff_ne]; omega
    have hNp : 0 < (N : Int) := by omega
    have HN9 : Hid (N ≤ 100000) := Lib.hid (by omega)
    have Hcp : Hid (N ≤ cp) := Lib.hid (by omega)
    have hal := World.block_lt_of_cell? w a hc0
    have hmove : ∀ {W : World}, Below w.heap.size w W → ∀ j u, (encB (c :: t))[j]? = some u → W.cell? (a.add j) = some u := fun {W} hb j u hj => by
      have h1 := hcell j u hj
      exact (hb.cell (World.block_lt_of_cell? w _ h1)).trans h1
    have Hmove : Hid (∀ W : World, Below w.heap.size w W → ∀ j u, (encB (c :: t))[j]? = some u → W.cell? (a.add j) = some u) := Lib.hid fun W => hmove
    have hc1 := hmove Hbw.out 0 (.int .u8 (c.toNat : Int)) rfl
    rw [Addr.add_zero', ← hC] at hc1
    clear hcell hmove hC hN hl hcp htl hc0
    go_enter Tryz.func19, Tryz.ntmps19
    go_upto_region 1 with fail
    generalize (w.alloc _) = W0 at Hat Hbw hc1 ⊢
    generalize hA : w.heap.size = A at *
    have hAlt := Hat.out.lt
    go_upto_region 4 with fail
    have hbox := below_box1 W0 (.cells #[.int .i64 C, .int .i64 0, .string ⟨#[]⟩, .int .u64 0] 26)
    have HA2 := Lib.hid (Hat.out.below hbox hAlt)
    have HD2 := Lib.hid (At.new W0 C 0 ⟨#[]⟩ 0 26)
    have Hb2 := Lib.hid (Hbw.out.trans (hbox.mono (Nat.le_of_lt hAlt)))
    clear hbox Hat Hbw hc1
    generalize W0.alloc _ = W2 at *
    generalize W0.heap.size = D at *
    have hc2 := Hmove.out W2 Hb2.out 0 (.int .u8 (c.toNat : Int)) rfl
    rw [Addr.add_zero', ← HC.out] at hc2
    have hAD : A ≠ D := by omega
    have hDA : D ≠ A := by omega
    have hAD2 : A ≤ D := by omega
    go_upto_block 0 with fail
    go_cut [5] (fun nv wx => RMids w wx A D (c :: t) nv)
    case first =>
      have HZW : Hid (∀ (v0 v1 v2 v3 : Value), Below w.heap.size w ((((W2.setCell ⟨A, 0, none⟩ v0).setCell ⟨A, 1, none⟩ v1).setCell ⟨A, 2, none⟩ v2).setCell ⟨A, 3, none⟩ v3)) := Lib.hid fun v0 v1 v2 v3 => by rw [hA]; exact (((Hb2.out.setCell (Nat.le_refl _) _).setCell (Nat.le_refl _) _).setCell (Nat.le_refl _) _).setCell (Nat.le_refl _) _
      have HDW : Hid (∀ (o : Nat) (u : Value), Below A w (W2.setCell ⟨D, o, none⟩ u)) := Lib.hid fun o u => Hb2.out.setCell hAD2 _
      have HRd : Hid (∀ xv, Sl W2 xv t → Calls Tryz.prog 48 #[xv] W2 fun e w' => ReadEnds t W2 w' e) := Lib.hid fun xv h => readR_any W2 xv t h
      have Hsl : Hid ((cp = 1 → Sl W2 (.slice (some a) (N - 1) 0) t) ∧ (¬ cp = 1 → Sl W2 (.slice (some (a.add 1)) (N - 1) (cp - 1)) t)) := Lib.hid (Sl.cut HN.out Hcp.out (by have := Htl.out; omega) (Hmove.out W2 Hb2.out))
      have z0 := HA2.out.z 0; have z1 := HA2.out.z 1; have z2 := HA2.out.z 2; have z3 := HA2.out.z 3
      have y1 := HD2.out.z 1; have y2 := HD2.out.z 2; have y3 := HD2.out.z 3
      obtain ⟨d0, d1, d2, d3, -, -⟩ := HA2.out
      obtain ⟨g0, g1, g2, g3, -, -⟩ := HD2.out
      have hN9 : (N : Int) ≤ 100000 := by have := HN9.out; omega
      by_cases k0 : C = 0
      · subst k0
        have Hfit : Hid (getL (c :: t) = if rightB ⟨0, 0, ⟨#[]⟩, 0⟩ then some (⟨0, 0, ⟨#[]⟩, 0⟩, (c :: t).drop 1) else none) := Lib.hid (by rw [getL_cons, if_pos (by have := HC.out; omega), right_none]; rfl)
        go_wp2_with fail
        go_meet
        exact ⟨1, 1, ⟨0, 0, ⟨#[]⟩, 0⟩, rfl, rfl, HA2.out, HD2.out, Hb2.out, by decide, by simp, by decide, by decide, Hfit.out⟩
      by_cases k1 : C = 1
      · subst k1
        have Hg : Hid (getL (c :: t) = (readL 0 0 t).map fun p => (⟨1, unfoldN p.1, ⟨#[]⟩, 0⟩, p.2)) := Lib.hid (by rw [getL_cons, if_neg (by have := HC.out; omega), if_pos (by have := HC.out; omega)])
        clear k0
        go_wp2_with fail
        case inl h =>
          subst h
          refine (HRd.out _ (Hsl.out.1 rfl)).mono ?_
          rintro e w4 (⟨u, k, h1, h2, h3, h4, h5, he, rfl⟩ | ⟨h1, rfl, rfl⟩)
          · obtain ⟨K, hK⟩ : ∃ K : Int, K = (k : Int) := ⟨_, rfl⟩
            obtain ⟨U, hU⟩ : ∃ U : Int, U = (u : Int) := ⟨_, rfl⟩
            rw [← hK, ← hU] at he
            subst he
            have hK0 : (K == 0) = false := by rw [beq_eq_false_iff_ne]; omega
            have hK1 : 0 < K := by omega
            have hK2 : K ≤ 10 := by omega
            have Hu := unfoldedR_any w4 u h5
            rw [← hU] at Hu
            have HU := Lib.hid Hu
            have Hend : Hid (0 < 1 + k ∧ 1 + k ≤ (c :: t).length ∧ 1 + K = ((1 + k : Nat) : Int) ∧ getL (c :: t) = if rightB ⟨1, unfoldN u, ⟨#[]⟩, 0⟩ then some (⟨1, unfoldN u, ⟨#[]⟩, 0⟩, (c :: t).drop (1 + k)) else none) := Lib.hid ⟨by omega, by simp; omega, by omega, by rw [Hg.out, h1, right_num, show 1 + k = k + 1 from Nat.add_comm 1 k]; rfl⟩
            clear h1 h2 h3 h4 h5 hK hU Hu
            go_wp2_with fail
            refine HU.out.mono ?_
            rintro e w5 ⟨rfl, rfl⟩
            go_wp2_with fail
            go_meet
            exact ⟨1 + k, 1 + K, ⟨1, unfoldN u, ⟨#[]⟩, 0⟩, rfl, Hend.out.2.2.1, HA2.out.off hDA _ _, HD2.out.setN _, HDW.out _ _, Hend.out.1, Hend.out.2.1, by simp, by simp, Hend.out.2.2.2⟩
          · have Hno : Hid (getL (c :: t) = none) := Lib.hid (by rw [Hg.out, h1]; rfl)
            clear h1
            go_wp2_with fail
            exact bodyPost_ret (v := .tuple #[.agg #[.int .i64 0, .int .i64 0, .string ⟨#[]⟩, .int .u64 0], .int .i64 0]) (by simp [results, Tryz.results19, go_sem, d0, d1, d2, d3]) rfl (.inr ⟨Hno.out, rfl, HZW.out _ _ _ _⟩)

        case inr h =>
          refine (HRd.out _ (Hsl.out.2 h)).mono ?_
          rintro e w4 (⟨u, k, h1, h2, h3, h4, h5, he, rfl⟩ | ⟨h1, rfl, rfl⟩)
          · obtain ⟨K, hK⟩ : ∃ K : Int, K = (k : Int) := ⟨_, rfl⟩
            obtain ⟨U, hU⟩ : ∃ U : Int, U = (u : Int) := ⟨_, rfl⟩
            rw [← hK, ← hU] at he
            subst he
            have hK0 : (K == 0) = false := by rw [beq_eq_false_iff_ne]; omega
            have hK1 : 0 < K := by omega
            have hK2 : K ≤ 10 := by omega
            have Hu := unfoldedR_any w4 u h5
            rw [← hU] at Hu
            have HU := Lib.hid Hu
            have Hend : Hid (0 < 1 + k ∧ 1 + k ≤ (c :: t).length ∧ 1 + K = ((1 + k : Nat) : Int) ∧ getL (c :: t) = if rightB ⟨1, unfoldN u, ⟨#[]⟩, 0⟩ then some (⟨1, unfoldN u, ⟨#[]⟩, 0⟩, (c :: t).drop (1 + k)) else none) := Lib.hid ⟨by omega, by simp; omega, by omega, by rw [Hg.out, h1, right_num, show 1 + k = k + 1 from Nat.add_comm 1 k]; rfl⟩
            clear h1 h2 h3 h4 h5 hK hU Hu
            go_wp2_with fail
            refine HU.out.mono ?_
            rintro e w5 ⟨rfl, rfl⟩
            go_wp2_with fail
            go_meet
            exact ⟨1 + k, 1 + K, ⟨1, unfoldN u, ⟨#[]⟩, 0⟩, rfl, Hend.out.2.2.1, HA2.out.off hDA _ _, HD2.out.setN _, HDW.out _ _, Hend.out.1, Hend.out.2.1, by simp, by simp, Hend.out.2.2.2⟩
          · have Hno : Hid (getL (c :: t) = none) := Lib.hid (by rw [Hg.out, h1]; rfl)
            clear h1
            go_wp2_with fail
            exact bodyPost_ret (v := .tuple #[.agg #[.int .i64 0, .int .i64 0, .string ⟨#[]⟩, .int .u64 0], .int .i64 0]) (by simp [results, Tryz.results19, go_sem, d0, d1, d2, d3]) rfl (.inr ⟨Hno.out, rfl, HZW.out _ _ _ _⟩)

      by_cases k2 : C = 2
      · subst k2
        have Hg : Hid (getL (c :: t) = getTwo t) := Lib.hid (by rw [getL_cons, if_neg (by have := HC.out; omega), if_neg (by have := HC.out; omega), if_pos (by have := HC.out; omega)]; cases t <;> rfl)
        clear k0 k1
        cases t with
        | nil =>
          have hN1 : (N : Int) = 1 := by have := Htl.out; simp at this; omega
          have hN2 : ((N : Int) < 2) := by omega
          go_wp2_with fail
          exact bodyPost_ret (v := .tuple #[.agg #[.int .i64 0, .int .i64 0, .string ⟨#[]⟩, .int .u64 0], .int .i64 0]) (by simp [results, Tryz.results19, go_sem, d0, d1, d2, d3]) rfl (.inr ⟨Hg.out, rfl, HZW.out _ _ _ _⟩)
        | cons d r =>
          obtain ⟨E, hE⟩ : ∃ E : Int, E = (d.toNat : Int) := ⟨_, rfl⟩
          have hE0 : 0 ≤ E := by omega
          have hE9 : E < 256 := by have := d.toNat_lt; omega
          have hcE : W2.cell? ⟨a.block, a.off + 1, none⟩ = some (.int .u8 E) := by
            have := Hmove.out W2 Hb2.out 1 (.int .u8 (d.toNat : Int)) rfl
            rw [← hE] at this
            simpa [Addr.add] using this
          have hN2 : ¬ ((N : Int) < 2) := by have := Htl.out; simp at this; omega
          have hN3 : 1 < (N : Int) := by omega
          by_cases hE1 : E ≤ 1
          · have Hend : Hid (getL (c :: d :: r) = if rightB ⟨2, E, ⟨#[]⟩, 0⟩ then some (⟨2, E, ⟨#[]⟩, 0⟩, (c :: d :: r).drop 2) else none) := Lib.hid (by
              rw [Hg.out, right_two, decide_eq_true (by omega)]
              show (if d.toNat ≤ 1 then _ else _) = _
              rw [if_pos (by omega), hE]; rfl)
            clear hE
            go_wp2_with fail
            go_meet
            exact ⟨2, 2, ⟨2, E, ⟨#[]⟩, 0⟩, rfl, rfl, HA2.out.off hDA _ _, HD2.out.setN _, HDW.out _ _, by decide, by simp, by simp, by simp, Hend.out⟩
          · have Hno : Hid (getL (c :: d :: r) = none) := Lib.hid (by
              rw [Hg.out]
              show (if d.toNat ≤ 1 then _ else _) = _
              rw [if_neg (by omega)])
            clear hE
            go_wp2_with fail
            exact bodyPost_ret (v := .tuple #[.agg #[.int .i64 0, .int .i64 0, .string ⟨#[]⟩, .int .u64 0], .int .i64 0]) (by simp [results, Tryz.results19, go_sem, d0, d1, d2, d3]) rfl (.inr ⟨Hno.out, rfl, HZW.out _ _ _ _⟩)
      by_cases k3 : C = 3
      · subst k3
        have Hg : Hid (getL (c :: t) = (readL 0 0 t).bind fun p => if p.1 ≤ 64 ∧ p.1 ≤ p.2.length then some (⟨3, 0, ⟨(p.2.take p.1).toArray⟩, 0⟩, p.2.drop p.1) else none) := Lib.hid (by rw [getL_cons, if_neg (by have := HC.out; omega), if_neg (by have := HC.out; omega), if_neg (by have := HC.out; omega), if_pos (by have := HC.out; omega)])
        clear k0 k1 k2
        go_wp2_with fail
        case inl h =>
          subst h
          refine (HRd.out _ (Hsl.out.1 rfl)).mono ?_
          rintro e w4 (⟨u, k, h1, h2, h3, h4, h5, he, rfl⟩ | ⟨h1, rfl, rfl⟩)
          · obtain ⟨K, hK⟩ : ∃ K : Int, K = (k : Int) := ⟨_, rfl⟩
            obtain ⟨U, hU⟩ : ∃ U : Int, U = (u : Int) := ⟨_, rfl⟩
            rw [← hK, ← hU] at he
            subst he
            have hK0 : (K == 0) = false := by rw [beq_eq_false_iff_ne]; omega
            have hK1 : 0 < K := by omega
            have hK2 : K ≤ 10 := by omega
            have hU0 : 0 ≤ U := by omega
            have hld : (t.drop k).length = N - 1 - k := by rw [List.length_drop]; have := Htl.out; omega
            have hkN : k + 1 ≤ N := by have := Htl.out; omega
            have hKN : 0 ≤ (N : Int) - 1 - K := by omega
            by_cases hu64 : u ≤ 64
            · have hU64 : U ≤ 64 := by omega
              by_cases hul : u ≤ N - 1 - k
              · have hUl : U ≤ (N : Int) - 1 - K := by omega
                obtain ⟨k1, hk1⟩ : ∃ k1 : Nat, k1 = 1 + k := ⟨_, rfl⟩
                have ht1 : (1 + K).toNat = k1 := by omega
                obtain ⟨k2, hk2⟩ : ∃ k2 : Nat, k2 = 1 + k + u := ⟨_, rfl⟩
                have ht2 : (1 + K + U).toNat = k2 := by omega
                have ht3 : k2 - k1 = u := by omega
                have hdd : (c :: t).drop k1 = t.drop k := by rw [hk1, Nat.add_comm 1 k]; rfl
                have hb1 : 1 + K + U ≤ (N : Int) := by omega
                have hb2 : (N : Int) ≤ (1 : Int) := by have := Hcp.out; omega
                have hsz : (ByteArray.mk ((t.drop k).take u).toArray).size = u := by
                  show ((t.drop k).take u).toArray.size = u
                  simp
                  rw [List.length_drop] at hld
                  omega
                have Hend : Hid (0 < 1 + (k + u) ∧ 1 + (k + u) ≤ (c :: t).length ∧ 1 + (K + U) = ((1 + (k + u) : Nat) : Int) ∧ getL (c :: t) = if rightB ⟨3, 0, ⟨((t.drop k).take u).toArray⟩, 0⟩ then some (⟨3, 0, ⟨((t.drop k).take u).toArray⟩, 0⟩, (c :: t).drop (1 + (k + u))) else none) := Lib.hid ⟨by omega, by rw [HN.out]; omega, by omega, by
                  rw [Hg.out, h1, right_three, hsz, decide_eq_true hu64]
                  show (if u ≤ 64 ∧ u ≤ (t.drop k).length then _ else _) = _
                  rw [if_pos ⟨hu64, by omega⟩, List.drop_drop, show 1 + (k + u) = (k + u) + 1 from by omega]
                  rfl⟩
                have hcl : ∀ j v, (encB (t.drop k))[j]? = some v → w4.cell? ((a.add k1).add j) = some v := fun j v hj => by
                  rw [Addr.add_add]
                  refine Hmove.out w4 Hb2.out _ v ?_
                  rw [← hdd] at hj
                  unfold encB at hj ⊢
                  rw [List.getElem?_map] at hj ⊢
                  rwa [List.getElem?_drop] at hj
                have hcpk : 1 = k1 → u = 0 := fun e => by have := Hcp.out; omega
                have Hcl := Lib.hid hcl; have Hcpk := Lib.hid hcpk
                have Hul : Hid (u ≤ (t.drop k).length) := Lib.hid (by omega)
                generalize hsS : (⟨((t.drop k).take u).toArray⟩ : ByteArray) = S at *
                have HS := Lib.hid hsS
                clear h1 h2 h3 h4 h5 hK hU hld hkN hul hu64 hk1 hk2 hdd hsz hcl hcpk hsS
                by_cases hck : 1 = k1
                · have hu0 := Hcpk.out hck
                  have hcv : (convert 39 9 (.slice (some a) u 0)).run Tryz.prog w4 = .ok (.string S) w4 := by
                    rw [← HS.out]
                    exact conv_at w4 a 0 u (t.drop k) Hul.out (fun h => by omega)
                  subst hck
                  clear hu0
                  go_wp2_with fail
                  all_goals
                    go_meet
                    exact ⟨1 + (k + u), 1 + (K + U), ⟨3, 0, S, 0⟩, rfl, Hend.out.2.2.1, HA2.out.off hDA _ _, HD2.out.setS _, HDW.out _ _, Hend.out.1, Hend.out.2.1, by simp, by simp, Hend.out.2.2.2⟩
                · have hcv : (convert 39 9 (.slice (some (a.add k1)) u (1 - k1))).run Tryz.prog w4 = .ok (.string S) w4 := by
                    rw [← HS.out]
                    exact conv_at w4 (a.add k1) (1 - k1) u (t.drop k) Hul.out (fun _ => Hcl.out)
                  go_wp2_with fail
                  all_goals
                    go_meet
                    exact ⟨1 + (k + u), 1 + (K + U), ⟨3, 0, S, 0⟩, rfl, Hend.out.2.2.1, HA2.out.off hDA _ _, HD2.out.setS _, HDW.out _ _, Hend.out.1, Hend.out.2.1, by simp, by simp, Hend.out.2.2.2⟩
              · have hUl : (N : Int) - 1 - K < U := by omega
                have Hno : Hid (getL (c :: t) = none) := Lib.hid (by
                  rw [Hg.out, h1]
                  show (if u ≤ 64 ∧ u ≤ (t.drop k).length then _ else _) = _
                  rw [if_neg (by omega)])
                clear h1 h2 h3 h4 h5 hK hU hld hkN hul hu64
                go_wp2_with fail
                exact bodyPost_ret (v := .tuple #[.agg #[.int .i64 0, .int .i64 0, .string ⟨#[]⟩, .int .u64 0], .int .i64 0]) (by simp [results, Tryz.results19, go_sem, d0, d1, d2, d3]) rfl (.inr ⟨Hno.out, rfl, HZW.out _ _ _ _⟩)
            · have hU64 : 64 < U := by omega
              have Hno : Hid (getL (c :: t) = none) := Lib.hid (by
                rw [Hg.out, h1]
                show (if u ≤ 64 ∧ u ≤ (t.drop k).length then _ else _) = _
                rw [if_neg (by omega)])
              clear h1 h2 h3 h4 h5 hK hU hld hkN hu64 hKN
              go_wp2_with fail
              exact bodyPost_ret (v := .tuple #[.agg #[.int .i64 0, .int .i64 0, .string ⟨#[]⟩, .int .u64 0], .int .i64 0]) (by simp [results, Tryz.results19, go_sem, d0, d1, d2, d3]) rfl (.inr ⟨Hno.out, rfl, HZW.out _ _ _ _⟩)
          · have Hno : Hid (getL (c :: t) = none) := Lib.hid (by rw [Hg.out, h1]; rfl)
            clear h1
            go_wp2_with fail
            exact bodyPost_ret (v := .tuple #[.agg #[.int .i64 0, .int .i64 0, .string ⟨#[]⟩, .int .u64 0], .int .i64 0]) (by simp [results, Tryz.results19, go_sem, d0, d1, d2, d3]) rfl (.inr ⟨Hno.out, rfl, HZW.out _ _ _ _⟩)

        case inr h =>
          refine (HRd.out _ (Hsl.out.2 h)).mono ?_
          rintro e w4 (⟨u, k, h1, h2, h3, h4, h5, he, rfl⟩ | ⟨h1, rfl, rfl⟩)
          · obtain ⟨K, hK⟩ : ∃ K : Int, K = (k : Int) := ⟨_, rfl⟩
            obtain ⟨U, hU⟩ : ∃ U : Int, U = (u : Int) := ⟨_, rfl⟩
            rw [← hK, ← hU] at he
            subst he
            have hK0 : (K == 0) = false := by rw [beq_eq_false_iff_ne]; omega
            have hK1 : 0 < K := by omega
            have hK2 : K ≤ 10 := by omega
            have hU0 : 0 ≤ U := by omega
            have hld : (t.drop k).length = N - 1 - k := by rw [List.length_drop]; have := Htl.out; omega
            have hkN : k + 1 ≤ N := by have := Htl.out; omega
            have hKN : 0 ≤ (N : Int) - 1 - K := by omega
            by_cases hu64 : u ≤ 64
            · have hU64 : U ≤ 64 := by omega
              by_cases hul : u ≤ N - 1 - k
              · have hUl : U ≤ (N : Int) - 1 - K := by omega
                obtain ⟨k1, hk1⟩ : ∃ k1 : Nat, k1 = 1 + k := ⟨_, rfl⟩
                have ht1 : (1 + K).toNat = k1 := by omega
                obtain ⟨k2, hk2⟩ : ∃ k2 : Nat, k2 = 1 + k + u := ⟨_, rfl⟩
                have ht2 : (1 + K + U).toNat = k2 := by omega
                have ht3 : k2 - k1 = u := by omega
                have hdd : (c :: t).drop k1 = t.drop k := by rw [hk1, Nat.add_comm 1 k]; rfl
                have hb1 : 1 + K + U ≤ (N : Int) := by omega
                have hb2 : (N : Int) ≤ (cp : Int) := by have := Hcp.out; omega
                have hsz : (ByteArray.mk ((t.drop k).take u).toArray).size = u := by
                  show ((t.drop k).take u).toArray.size = u
                  simp
                  rw [List.length_drop] at hld
                  omega
                have Hend : Hid (0 < 1 + (k + u) ∧ 1 + (k + u) ≤ (c :: t).length ∧ 1 + (K + U) = ((1 + (k + u) : Nat) : Int) ∧ getL (c :: t) = if rightB ⟨3, 0, ⟨((t.drop k).take u).toArray⟩, 0⟩ then some (⟨3, 0, ⟨((t.drop k).take u).toArray⟩, 0⟩, (c :: t).drop (1 + (k + u))) else none) := Lib.hid ⟨by omega, by rw [HN.out]; omega, by omega, by
                  rw [Hg.out, h1, right_three, hsz, decide_eq_true hu64]
                  show (if u ≤ 64 ∧ u ≤ (t.drop k).length then _ else _) = _
                  rw [if_pos ⟨hu64, by omega⟩, List.drop_drop, show 1 + (k + u) = (k + u) + 1 from by omega]
                  rfl⟩
                have hcl : ∀ j v, (encB (t.drop k))[j]? = some v → w4.cell? ((a.add k1).add j) = some v := fun j v hj => by
                  rw [Addr.add_add]
                  refine Hmove.out w4 Hb2.out _ v ?_
                  rw [← hdd] at hj
                  unfold encB at hj ⊢
                  rw [List.getElem?_map] at hj ⊢
                  rwa [List.getElem?_drop] at hj
                have hcpk : cp = k1 → u = 0 := fun e => by have := Hcp.out; omega
                have Hcl := Lib.hid hcl; have Hcpk := Lib.hid hcpk
                have Hul : Hid (u ≤ (t.drop k).length) := Lib.hid (by omega)
                generalize hsS : (⟨((t.drop k).take u).toArray⟩ : ByteArray) = S at *
                have HS := Lib.hid hsS
                clear h1 h2 h3 h4 h5 hK hU hld hkN hul hu64 hk1 hk2 hdd hsz hcl hcpk hsS
                by_cases hck : cp = k1
                · have hu0 := Hcpk.out hck
                  have hcv : (convert 39 9 (.slice (some a) u 0)).run Tryz.prog w4 = .ok (.string S) w4 := by
                    rw [← HS.out]
                    exact conv_at w4 a 0 u (t.drop k) Hul.out (fun h => by omega)
                  subst hck
                  clear hu0
                  go_wp2_with fail
                  all_goals
                    go_meet
                    exact ⟨1 + (k + u), 1 + (K + U), ⟨3, 0, S, 0⟩, rfl, Hend.out.2.2.1, HA2.out.off hDA _ _, HD2.out.setS _, HDW.out _ _, Hend.out.1, Hend.out.2.1, by simp, by simp, Hend.out.2.2.2⟩
                · have hcv : (convert 39 9 (.slice (some (a.add k1)) u (cp - k1))).run Tryz.prog w4 = .ok (.string S) w4 := by
                    rw [← HS.out]
                    exact conv_at w4 (a.add k1) (cp - k1) u (t.drop k) Hul.out (fun _ => Hcl.out)
                  go_wp2_with fail
                  all_goals
                    go_meet
                    exact ⟨1 + (k + u), 1 + (K + U), ⟨3, 0, S, 0⟩, rfl, Hend.out.2.2.1, HA2.out.off hDA _ _, HD2.out.setS _, HDW.out _ _, Hend.out.1, Hend.out.2.1, by simp, by simp, Hend.out.2.2.2⟩
              · have hUl : (N : Int) - 1 - K < U := by omega
                have Hno : Hid (getL (c :: t) = none) := Lib.hid (by
                  rw [Hg.out, h1]
                  show (if u ≤ 64 ∧ u ≤ (t.drop k).length then _ else _) = _
                  rw [if_neg (by omega)])
                clear h1 h2 h3 h4 h5 hK hU hld hkN hul hu64
                go_wp2_with fail
                exact bodyPost_ret (v := .tuple #[.agg #[.int .i64 0, .int .i64 0, .string ⟨#[]⟩, .int .u64 0], .int .i64 0]) (by simp [results, Tryz.results19, go_sem, d0, d1, d2, d3]) rfl (.inr ⟨Hno.out, rfl, HZW.out _ _ _ _⟩)
            · have hU64 : 64 < U := by omega
              have Hno : Hid (getL (c :: t) = none) := Lib.hid (by
                rw [Hg.out, h1]
                show (if u ≤ 64 ∧ u ≤ (t.drop k).length then _ else _) = _
                rw [if_neg (by omega)])
              clear h1 h2 h3 h4 h5 hK hU hld hkN hu64 hKN
              go_wp2_with fail
              exact bodyPost_ret (v := .tuple #[.agg #[.int .i64 0, .int .i64 0, .string ⟨#[]⟩, .int .u64 0], .int .i64 0]) (by simp [results, Tryz.results19, go_sem, d0, d1, d2, d3]) rfl (.inr ⟨Hno.out, rfl, HZW.out _ _ _ _⟩)
          · have Hno : Hid (getL (c :: t) = none) := Lib.hid (by rw [Hg.out, h1]; rfl)
            clear h1
            go_wp2_with fail
            exact bodyPost_ret (v := .tuple #[.agg #[.int .i64 0, .int .i64 0, .string ⟨#[]⟩, .int .u64 0], .int .i64 0]) (by simp [results, Tryz.results19, go_sem, d0, d1, d2, d3]) rfl (.inr ⟨Hno.out, rfl, HZW.out _ _ _ _⟩)

      by_cases k4 : C = 4
      · subst k4
        have Hg : Hid (getL (c :: t) = if 8 ≤ t.length ∧ canonF (leV (t.take 8) : Nat) = ((leV (t.take 8) : Nat) : Int) then some (⟨4, 0, ⟨#[]⟩, ((leV (t.take 8) : Nat) : Int)⟩, t.drop 8) else none) := Lib.hid (by rw [getL_cons, if_neg (by have := HC.out; omega), if_neg (by have := HC.out; omega), if_neg (by have := HC.out; omega), if_neg (by have := HC.out; omega), if_pos (by have := HC.out; omega)])
        clear k0 k1 k2 k3
        by_cases h9 : N < 9
        · have hN8 : (N : Int) < 9 := by omega
          have Hno : Hid (getL (c :: t) = none) := Lib.hid (by rw [Hg.out, if_neg (by have := Htl.out; omega)])
          clear h9
          go_wp2_with fail
          exact bodyPost_ret (v := .tuple #[.agg #[.int .i64 0, .int .i64 0, .string ⟨#[]⟩, .int .u64 0], .int .i64 0]) (by simp [results, Tryz.results19, go_sem, d0, d1, d2, d3]) rfl (.inr ⟨Hno.out, rfl, HZW.out _ _ _ _⟩)
        · have hN8 : ¬ (N : Int) < 9 := by omega
          have H9 := Lib.hid h9
          clear h9
          go_wp2_with fail
          go_loopg [10] 8 (fun mm kv wr => ∃ (F KI : Int), kv = .int .i64 KI ∧ Hid (KI = (mm : Int) ∧ mm ≤ 8 ∧ F = ((leV ((t.take 8).drop mm) : Nat) : Int)) ∧ At wr D 4 0 ⟨#[]⟩ F ∧ At wr A 0 0 ⟨#[]⟩ 0 ∧ Below A w wr)
          case atStart =>
            refine ⟨0, 8, rfl, Lib.hid ⟨rfl, Nat.le_refl _, ?_⟩, HD2.out, HA2.out, Hb2.out⟩
            rw [List.drop_eq_nil_of_le (by rw [List.length_take]; omega)]
            rfl
          case round =>
            obtain ⟨F, KI, rfl, HI, hD3, hA3, hb3⟩ := hrel
            have HD3 := Lib.hid hD3; have HA3 := Lib.hid hA3; have Hb3 := Lib.hid hb3
            clear hD3 hA3 hb3 d0 d1 d2 d3 g0 g1 g2 g3 z0 z1 z2 z3 y1 y2 y3 hc2
            have hK0 : 0 ≤ KI := by have := HI.out.1; omega
            have hK8 : KI ≤ 8 := by have := HI.out.1; have := HI.out.2.1; omega
            have ht8 : (t.take 8).length = 8 := by rw [List.length_take]; have := Htl.out; have := H9.out; omega
            by_cases hm : gk = 0
            · have hK1 : ¬ 0 < KI := by have := HI.out.1; omega
              have hF : F = ((leV (t.take 8) : Nat) : Int) := by have := HI.out.2.2; rwa [hm, List.drop_zero] at this
              have hlt := leV_lt (t.take 8)
              rw [ht8] at hlt
              have e8 : (256 : Nat) ^ 8 = 18446744073709551616 := by decide
              have Hend : Hid (9 ≤ (c :: t).length ∧ 0 ≤ F ∧ F < 18446744073709551616 ∧ getL (c :: t) = if rightB ⟨4, 0, ⟨#[]⟩, F⟩ then some (⟨4, 0, ⟨#[]⟩, F⟩, (c :: t).drop 9) else none) := Lib.hid ⟨by have := HN.out; have := H9.out; omega, by omega, by omega, by
                rw [Hg.out, right_four, hF]
                by_cases hcn : canonF (leV (t.take 8) : Nat) = ((leV (t.take 8) : Nat) : Int)
                · rw [if_pos ⟨by have := Htl.out; have := H9.out; omega, hcn⟩, decide_eq_true hcn]; rfl
                · rw [if_neg (fun h => hcn h.2), decide_eq_false hcn]; rfl⟩
              clear hm hF hlt e8 ht8
              go_wp2_with fail
              go_meet
              exact ⟨9, 9, ⟨4, 0, ⟨#[]⟩, F⟩, rfl, rfl, HA3.out, HD3.out, Hb3.out, by decide, Hend.out.1, Hend.out.2.1, Hend.out.2.2.1, Hend.out.2.2.2⟩
            · obtain ⟨m, rfl⟩ : ∃ m, gk = m + 1 := ⟨gk - 1, by omega⟩
              have hK1 : 0 < KI := by have := HI.out.1; omega
              have hm8 : m < 8 := by have := HI.out.2.1; omega
              have hmt : m < (t.take 8).length := by omega
              have htm : t[m]? = some ((t.take 8)[m]) := by
                rw [List.getElem_take]
                exact List.getElem?_eq_getElem _
              obtain ⟨x, hx⟩ : ∃ x, x = (t.take 8)[m] := ⟨_, rfl⟩
              obtain ⟨E, hE⟩ : ∃ E : Int, E = (x.toNat : Int) := ⟨_, rfl⟩
              have hcE : wr.cell? (a.add (m + 1)) = some (.int .u8 E) := Hmove.out wr Hb3.out (m + 1) _ (by
                show (encB t)[m]? = _
                unfold encB
                rw [List.getElem?_map, htm, ← hx, hE]
                rfl)
              rw [Addr.add_succ'] at hcE
              have hKn : KI.toNat = m + 1 := by have := HI.out.1; omega
              have hKN : KI < (N : Int) := by have := H9.out; omega
              have hE0 : 0 ≤ E := by omega
              have hE9 : E < 256 := by have := x.toNat_lt; omega
              have hdr : (t.take 8).drop m = x :: (t.take 8).drop (m + 1) := by rw [hx]; exact List.drop_eq_getElem_cons hmt
              have hlt := leV_lt ((t.take 8).drop (m + 1))
              have hle : (256 : Nat) ^ ((t.take 8).drop (m + 1)).length ≤ 256 ^ 7 := Nat.pow_le_pow_right (by decide) (by rw [List.length_drop]; omega)
              have e7 : (256 : Nat) ^ 7 = 72057594037927936 := by decide
              have hF := HI.out.2.2
              obtain ⟨P, hP⟩ : ∃ P : Int, F * 256 = P := ⟨_, rfl⟩
              have hwP : IntKind.u64.wrap P = P := by rw [IntKind.wrap_u64]; omega
              obtain ⟨V, hV⟩ : ∃ V : Int, P + E = V := ⟨_, rfl⟩
              have hwV : IntKind.u64.wrap V = V := by rw [IntKind.wrap_u64]; omega
              have HN2 : Hid (KI - 1 = (m : Int) ∧ m ≤ 8 ∧ V = ((leV ((t.take 8).drop m) : Nat) : Int)) := Lib.hid ⟨by have := HI.out.1; omega, by omega, by
                rw [hdr]
                show V = ((x.toNat + 256 * leV ((t.take 8).drop (m + 1)) : Nat) : Int)
                omega⟩
              have y3 := HD3.out.z 3
              have g3 := HD3.out.c3
              clear hm hmt htm hx hE hdr hlt hle e7 hF ht8 hm8
              go_wp2_with fail
              go_region
              go_wp2_with fail
              go_roundg m
              case measure => omega
              case rel => exact ⟨V, KI - 1, rfl, HN2.out, (HD3.out.setF V).drew1, (HA3.out.off hDA _ _).drew1, (Hb3.out.setCell hAD2 _).drew⟩
      have hC5 : Hid (getL (c :: t) = none) := Lib.hid (by rw [getL_cons, if_neg (by have := HC.out; omega), if_neg (by have := HC.out; omega), if_neg (by have := HC.out; omega), if_neg (by have := HC.out; omega), if_neg (by have := HC.out; omega)])
      have b0 : (C == 0) = false := by rw [beq_eq_false_iff_ne]; exact k0
      have b1 : (C == 1) = false := by rw [beq_eq_false_iff_ne]; exact k1
      have b2 : (C == 2) = false := by rw [beq_eq_false_iff_ne]; exact k2
      have b3 : (C == 3) = false := by rw [beq_eq_false_iff_ne]; exact k3
      have b4 : (C == 4) = false := by rw [beq_eq_false_iff_ne]; exact k4
      clear k0 k1 k2 k3 k4
      go_wp2_with fail
      exact bodyPost_ret (v := .tuple #[.agg #[.int .i64 0, .int .i64 0, .string ⟨#[]⟩, .int .u64 0], .int .i64 0]) (by simp [results, Tryz.results19, go_sem, d0, d1, d2, d3]) rfl (.inr ⟨hC5.out, rfl, HZW.out _ _ _ _⟩)

    case rest =>
      obtain ⟨k, K, x, rfl, hK, hm⟩ := hcut
      have HK := Lib.hid hK
      have Hm := Lib.hid hm
      clear HA2 HD2 Hb2 hc2 hm hK
      obtain ⟨xk, xn, xs, xf⟩ := x
      obtain ⟨e0, e1, e2, e3, -, -⟩ := Hm.out.two
      simp only at e0 e1 e2 e3
      go_wp2_with fail
      refine (rightR_any wc ⟨xk, xn, xs, xf⟩ Hm.out.f0 Hm.out.f1).mono ?_
      rintro e w5 ⟨rfl, hb⟩
      have hA5 := Hm.out.one.below hb Hm.out.one.lt
      have hD5 := Hm.out.two.below hb Hm.out.two.lt
      have Hb5 := Lib.hid (Hm.out.bel.trans (hb.mono (Nat.le_of_lt Hm.out.one.lt)))
      clear hb e0 e1 e2 e3
      have z0 := hA5.z 0; have z1 := hA5.z 1; have z2 := hA5.z 2; have z3 := hA5.z 3
      obtain ⟨d0, d1, d2, d3, -, -⟩ := hA5
      obtain ⟨e0, e1, e2, e3, -, -⟩ := hD5
      simp only at e0 e1 e2 e3
      have hrb := Hm.out.fit
      have Hb6 : Hid (∀ (v0 v1 v2 v3 : Value), Below w.heap.size w ((((w5.setCell ⟨A, 0, none⟩ v0).setCell ⟨A, 1, none⟩ v1).setCell ⟨A, 2, none⟩ v2).setCell ⟨A, 3, none⟩ v3)) := Lib.hid fun v0 v1 v2 v3 => by rw [hA]; exact (((Hb5.out.setCell (Nat.le_refl _) _).setCell (Nat.le_refl _) _).setCell (Nat.le_refl _) _).setCell (Nat.le_refl _) _
      cases hr : rightB ⟨xk, xn, xs, xf⟩ with
      | false =>
        rw [hr] at hrb
        have Hno := Lib.hid hrb
        clear hrb hr
        go_wp2_with fail
        exact bodyPost_ret (v := .tuple #[.agg #[.int .i64 0, .int .i64 0, .string ⟨#[]⟩, .int .u64 0], .int .i64 0]) (by simp [results, Tryz.results19, go_sem, d0, d1, d2, d3]) rfl (.inr ⟨Hno.out, rfl, Hb6.out _ _ _ _⟩)
      | true =>
        rw [hr] at hrb
        have Hyes := Lib.hid hrb
        clear hrb hr
        go_wp2_with fail
        exact bodyPost_ret (v := .tuple #[.agg #[.int .i64 xk, .int .i64 xn, .string xs, .int .u64 xf], .int .i64 K]) (by simp [results, Tryz.results19, go_sem, d0, d1, d2, d3]) rfl (.inl ⟨_, k, Hyes.out, Hm.out.k0, Hm.out.k1, by rw [HK.out], Hb6.out _ _ _ _⟩)
end Go.Proofs.YtacafhmagonngaaGreatDoor
