/- Joined texts: Vs0; Vs1. -/
import Derived.Test.YtfniehgggbobaaaGreatDoorGD
import Derived.Laws.AppendOwnNone
import Derived.Lib.AppendStr
set_option linter.unusedVariables false
set_option linter.unusedSimpArgs false
namespace Go.Proofs.YtfniehgggbobaaaGreatDoor
open Go.RowKit

/-- a number's bytes, seven bits each -/
def natF : Nat → Nat → List UInt8
  | 0, n => [UInt8.ofNat n]
  | k + 1, n => if n < 128 then [UInt8.ofNat n] else UInt8.ofNat (128 + n % 128) :: natF k (n / 128)
abbrev natL (n : Nat) : List UInt8 := natF 9 n
/-- the number at the beginning of bytes -/
def readL : Nat → Nat → List UInt8 → Option (Nat × List UInt8)
  | _, _, [] => none
  | i, acc, c :: t =>
    if (i = 9 ∧ 1 < c.toNat) ∨ (0 < i ∧ c.toNat = 0) then none
    else if c.toNat < 128 then some (acc + c.toNat * 128 ^ i, t)
    else readL (i + 1) (acc + (c.toNat - 128) * 128 ^ i) t
theorem ofNat_toNat {n : Nat} (h : n < 256) : (UInt8.ofNat n).toNat = n := by
  rw [UInt8.toNat_ofNat', Nat.mod_eq_of_lt (show n < 2 ^ 8 from h)]
theorem natF_length (k : Nat) : ∀ n, (natF k n).length ≤ k + 1 := by
  induction k with
  | zero => intro n; exact Nat.le_refl _
  | succ k ih =>
    intro n
    unfold natF
    split
    · simp
    · have := ih (n / 128); simp; omega
theorem natF_pos (k n : Nat) : 0 < (natF k n).length := by
  cases k with
  | zero => exact Nat.one_pos
  | succ k => unfold natF; split <;> simp
theorem read_natF (k : Nat) : ∀ (i acc n : Nat) (t : List UInt8), i + k = 9 → n * 128 ^ i < 18446744073709551616 → (0 < i → 0 < n) → readL i acc (natF k n ++ t) = some (acc + n * 128 ^ i, t) := by
  induction k with
  | zero =>
    intro i acc n t hi hn hp
    have h9 : i = 9 := by omega
    subst h9
    have hn2 : n = 1 := by have := hp (by decide); omega
    subst hn2
    show (if _ then _ else _) = _
    rw [if_neg (by rintro (⟨-, h⟩ | ⟨-, h⟩) <;> exact absurd h (by decide)), if_pos (by decide)]
    rfl
  | succ k ih =>
    intro i acc n t hi hn hp
    unfold natF
    by_cases h : n < 128
    · rw [if_pos h]
      show (if _ then _ else _) = _
      rw [ofNat_toNat (by omega)]
      rw [if_neg (by
        rintro (⟨h1, h2⟩ | ⟨h1, h2⟩)
        · omega
        · have := hp h1; omega), if_pos h]
      rfl
    · rw [if_neg h]
      show (if _ then _ else _) = _
      rw [ofNat_toNat (by omega)]
      rw [if_neg (by rintro (⟨h1, h2⟩ | ⟨h1, h2⟩) <;> omega), if_neg (by omega)]
      have e : (acc + (128 + n % 128 - 128) * 128 ^ i) + n / 128 * 128 ^ (i + 1) = acc + n * 128 ^ i := by
        have h1 : 128 + n % 128 - 128 = n % 128 := by omega
        have h2 : n * 128 ^ i = (n % 128) * 128 ^ i + n / 128 * 128 ^ (i + 1) := by
          rw [Nat.pow_succ, Nat.mul_comm (128 ^ i) 128, ← Nat.mul_assoc, ← Nat.add_mul]
          rw [Nat.mod_add_div']
        rw [h1, h2, Nat.add_assoc]
      have hle : n / 128 * 128 ^ (i + 1) ≤ n * 128 ^ i := by
        rw [Nat.pow_succ, Nat.mul_comm (128 ^ i) 128, ← Nat.mul_assoc]
        exact Nat.mul_le_mul_right _ (Nat.div_mul_le_self _ _)
      show readL (i + 1) (acc + (128 + n % 128 - 128) * 128 ^ i) (natF k (n / 128) ++ t) = _
      rw [ih (i + 1) _ (n / 128) t (by omega) (by omega) (fun _ => by omega), e]
theorem read_natL (n : Nat) (t : List UInt8) (h : n < 18446744073709551616) : readL 0 0 (natL n ++ t) = some (n, t) := by
  have := read_natF 9 0 0 n t rfl (by omega) (fun h => by omega)
  simpa using this
/-- a number as a natural one, and back -/
def foldN (n : Int) : Nat := if 0 ≤ n then (2 * n).toNat else (-2 * n - 1).toNat
def unfoldN (u : Nat) : Int := if u % 2 = 0 then ((u / 2 : Nat) : Int) else -((u / 2 : Nat) : Int) - 1
theorem unfold_fold (n : Int) : unfoldN (foldN n) = n := by
  unfold foldN unfoldN
  split <;> split <;> omega
theorem foldN_lt {n : Int} (h0 : -9223372036854775808 ≤ n) (h1 : n ≤ 9223372036854775807) : foldN n < 18446744073709551616 := by
  unfold foldN
  split <;> omega
theorem unfoldN_rng {u : Nat} (h : u < 18446744073709551616) : -9223372036854775808 ≤ unfoldN u ∧ unfoldN u ≤ 9223372036854775807 := by
  unfold unfoldN
  split <;> omega
/-- a number in so many bytes -/
def leN : Nat → Nat → List UInt8
  | 0, _ => []
  | k + 1, n => UInt8.ofNat (n % 256) :: leN k (n / 256)
def leV : List UInt8 → Nat
  | [] => 0
  | c :: t => c.toNat + 256 * leV t
theorem leN_length (k : Nat) : ∀ n, (leN k n).length = k := by
  induction k with
  | zero => intro n; rfl
  | succ k ih => intro n; show (leN k (n / 256)).length + 1 = k + 1; rw [ih]
theorem leV_leN (k : Nat) : ∀ n, n < 256 ^ k → leV (leN k n) = n := by
  induction k with
  | zero => intro n h; simp at h; subst h; rfl
  | succ k ih =>
    intro n h
    show (UInt8.ofNat (n % 256)).toNat + 256 * leV (leN k (n / 256)) = n
    rw [ofNat_toNat (by omega), ih (n / 256) (by rw [Nat.pow_succ] at h; omega)]
    omega
theorem leV_lt (l : List UInt8) : leV l < 256 ^ l.length := by
  induction l with
  | nil => exact Nat.one_pos
  | cons c t ih =>
    have := c.toNat_lt
    show c.toNat + 256 * leV t < 256 ^ (t.length + 1)
    rw [Nat.pow_succ]
    omega
theorem readL_lt (l : List UInt8) : ∀ (i acc u : Nat) (r : List UInt8), i ≤ 9 → acc < 128 ^ i → readL i acc l = some (u, r) → u < 18446744073709551616 ∧ r.length < l.length := by
  induction l with
  | nil => intro i acc u r _ _ h; cases h
  | cons c t ih =>
    intro i acc u r hi ha h
    have hc := c.toNat_lt
    unfold readL at h
    split at h
    · cases h
    · rename_i h1
      split at h
      · rename_i h2
        simp only [Option.some.injEq, Prod.mk.injEq] at h
        obtain ⟨rfl, rfl⟩ := h
        refine ⟨?_, by simp⟩
        by_cases h9 : i = 9
        · subst h9
          have : c.toNat ≤ 1 := by omega
          have e : (128 : Nat) ^ 9 = 9223372036854775808 := by decide
          rw [e] at ha ⊢
          omega
        · have h8 : 128 ^ (i + 1) ≤ 128 ^ 9 := Nat.pow_le_pow_right (by decide) (by omega)
          have h3 : acc + c.toNat * 128 ^ i < 128 ^ (i + 1) := by
            have : c.toNat * 128 ^ i ≤ 127 * 128 ^ i := Nat.mul_le_mul_right _ (by omega)
            rw [Nat.pow_succ]
            omega
          have e : (128 : Nat) ^ 9 = 9223372036854775808 := by decide
          omega
      · rename_i h2
        have h9 : i ≠ 9 := by omega
        have h3 : acc + (c.toNat - 128) * 128 ^ i < 128 ^ (i + 1) := by
          have : (c.toNat - 128) * 128 ^ i ≤ 127 * 128 ^ i := Nat.mul_le_mul_right _ (by omega)
          rw [Nat.pow_succ]
          omega
        obtain ⟨e1, e2⟩ := ih (i + 1) _ u r (by omega) h3 h
        exact ⟨e1, by simp; omega⟩
/-- a value's bytes -/
def putL (v : Val) : List UInt8 :=
  if v.k = 1 then 1 :: natL (foldN v.n)
  else if v.k = 2 then [2, UInt8.ofNat v.n.toNat]
  else if v.k = 3 then 3 :: (natL v.s.size ++ v.s.data.toList)
  else if v.k = 4 then 4 :: leN 8 v.f.toNat
  else [0]
/-- the value at the beginning of bytes -/
def getL : List UInt8 → Option (Val × List UInt8)
  | [] => none
  | c :: t =>
    if c.toNat = 0 then some (⟨0, 0, ⟨#[]⟩, 0⟩, t)
    else if c.toNat = 1 then (readL 0 0 t).map fun p => (⟨1, unfoldN p.1, ⟨#[]⟩, 0⟩, p.2)
    else if c.toNat = 2 then (match t with
      | [] => none
      | d :: r => if d.toNat ≤ 1 then some (⟨2, (d.toNat : Int), ⟨#[]⟩, 0⟩, r) else none)
    else if c.toNat = 3 then (readL 0 0 t).bind fun p => if p.1 ≤ 64 ∧ p.1 ≤ p.2.length then some (⟨3, 0, ⟨(p.2.take p.1).toArray⟩, 0⟩, p.2.drop p.1) else none
    else if c.toNat = 4 then (if 8 ≤ t.length ∧ canonF (leV (t.take 8) : Nat) = ((leV (t.take 8) : Nat) : Int) then some (⟨4, 0, ⟨#[]⟩, ((leV (t.take 8) : Nat) : Int)⟩, t.drop 8) else none)
    else none
theorem getL_cons (c : UInt8) (t : List UInt8) : getL (c :: t) = (
    if c.toNat = 0 then some (⟨0, 0, ⟨#[]⟩, 0⟩, t)
    else if c.toNat = 1 then (readL 0 0 t).map fun p => (⟨1, unfoldN p.1, ⟨#[]⟩, 0⟩, p.2)
    else if c.toNat = 2 then (match t with
      | [] => none
      | d :: r => if d.toNat ≤ 1 then some (⟨2, (d.toNat : Int), ⟨#[]⟩, 0⟩, r) else none)
    else if c.toNat = 3 then (readL 0 0 t).bind fun p => if p.1 ≤ 64 ∧ p.1 ≤ p.2.length then some (⟨3, 0, ⟨(p.2.take p.1).toArray⟩, 0⟩, p.2.drop p.1) else none
    else if c.toNat = 4 then (if 8 ≤ t.length ∧ canonF (leV (t.take 8) : Nat) = ((leV (t.take 8) : Nat) : Int) then some (⟨4, 0, ⟨#[]⟩, ((leV (t.take 8) : Nat) : Int)⟩, t.drop 8) else none)
    else none) := rfl
theorem get_put {v : Val} (h : RightC v) (w : v.Wf) (t : List UInt8) : getL (putL v ++ t) = some (v, t) := by
  obtain ⟨k, n, s, f⟩ := v
  obtain ⟨-, -, n0, n1, f0, f1⟩ := w
  simp only at n0 n1 f0 f1
  rcases h with ⟨hk, hn, hs, hf⟩ | ⟨hk, hs, hf⟩ | ⟨hk, hs, hf, hn⟩ | ⟨hk, hn, hf, hs⟩ | ⟨hk, hn, hs, hf⟩
  · simp only at hk hn hs hf
    subst hk hn hs hf
    rfl
  · simp only at hk hs hf
    subst hk hs hf
    show (readL 0 0 (natL (foldN n) ++ t)).map _ = _
    rw [read_natL _ _ (foldN_lt n0 n1)]
    simp [unfold_fold]
  · simp only at hk hs hf hn
    subst hk hs hf
    rcases hn with rfl | rfl <;> rfl
  · simp only at hk hn hf hs
    subst hk hn hf
    show (readL 0 0 ((natL s.size ++ s.data.toList) ++ t)).bind _ = _
    have hl : s.data.toList.length = s.size := (Lib.size_eq s).symm
    rw [List.append_assoc, read_natL _ _ (by omega)]
    show (if _ then _ else _) = _
    rw [if_pos ⟨hs, by simp [List.length_append, hl]⟩]
    have e1 : (s.data.toList ++ t).take s.size = s.data.toList := by rw [← hl]; simp
    have e2 : (s.data.toList ++ t).drop s.size = t := by rw [← hl]; simp
    simp only [e1, e2]
  · simp only at hk hn hs hf
    subst hk hn hs
    rw [show putL ⟨4, 0, ⟨#[]⟩, f⟩ ++ t = 4 :: (leN 8 f.toNat ++ t) from rfl, getL_cons, if_neg (by decide), if_neg (by decide), if_neg (by decide), if_neg (by decide), if_pos (by decide)]
    generalize hL : leN 8 f.toNat = L at *
    have hl := leN_length 8 f.toNat
    rw [hL] at hl
    have e1 : (L ++ t).take 8 = L := by
      have := List.take_left (l₁ := L) (l₂ := t); rwa [hl] at this
    have e2 : (L ++ t).drop 8 = t := by
      have := List.drop_left (l₁ := L) (l₂ := t); rwa [hl] at this
    have e3 : ((leV L : Nat) : Int) = f := by rw [← hL, leV_leN 8 _ (by omega)]; omega
    rw [e1, e2, e3, if_pos ⟨by rw [List.length_append, hl]; omega, hf⟩]
theorem put_inj {v w : Val} (hv : RightC v) (hw : RightC w) (wv : v.Wf) (ww : w.Wf) (h : putL v = putL w) : v = w := by
  have h1 := get_put hv wv []
  have h2 := get_put hw ww []
  rw [h, h2] at h1
  simp only [Option.some.injEq, Prod.mk.injEq, and_true] at h1
  exact h1.symm
theorem get_right {l r : List UInt8} {v : Val} (h : getL l = some (v, r)) : RightC v ∧ v.Wf ∧ r.length < l.length := by
  cases l with
  | nil => cases h
  | cons c t =>
    rw [getL_cons] at h
    split at h
    · simp only [Option.some.injEq, Prod.mk.injEq] at h
      obtain ⟨rfl, rfl⟩ := h
      exact ⟨.null rfl rfl rfl rfl, ⟨by simp, by simp, by simp, by simp, by simp, by simp⟩, by simp⟩
    split at h
    · simp only [Option.map_eq_some_iff, Prod.mk.injEq] at h
      obtain ⟨⟨u, r2⟩, h1, rfl, rfl⟩ := h
      obtain ⟨h2, h3⟩ := readL_lt t 0 0 u r2 (by decide) (by decide) h1
      obtain ⟨h4, h5⟩ := unfoldN_rng h2
      exact ⟨.int rfl rfl rfl, ⟨by simp, by simp, h4, h5, by simp, by simp⟩, by simp; omega⟩
    split at h
    · cases t with
      | nil => cases h
      | cons d t2 =>
        simp only at h
        split at h
        · rename_i hd
          simp only [Option.some.injEq, Prod.mk.injEq] at h
          obtain ⟨rfl, rfl⟩ := h
          exact ⟨.bool rfl rfl rfl (by simp only; omega), ⟨by simp, by simp, by simp only; omega, by simp only; omega, by simp, by simp⟩, by simp; omega⟩
        · cases h
    split at h
    · simp only [Option.bind_eq_some_iff] at h
      obtain ⟨⟨u, r2⟩, h1, h2⟩ := h
      simp only at h2
      split at h2
      · rename_i hu
        simp only [Option.some.injEq, Prod.mk.injEq] at h2
        obtain ⟨rfl, rfl⟩ := h2
        obtain ⟨_, h3⟩ := readL_lt t 0 0 u r2 (by decide) (by decide) h1
        refine ⟨.bytes rfl rfl rfl ?_, ⟨by simp, by simp, by simp, by simp, by simp, by simp⟩, by simp [List.length_drop]; omega⟩
        show (r2.take u).toArray.size ≤ 64
        simp; omega
      · cases h2
    split at h
    · split at h
      · rename_i h8
        simp only [Option.some.injEq, Prod.mk.injEq] at h
        obtain ⟨rfl, rfl⟩ := h
        have hlt := leV_lt (t.take 8)
        have hl8 : (t.take 8).length = 8 := by rw [List.length_take]; omega
        rw [hl8] at hlt
        refine ⟨.float rfl rfl rfl h8.2, ⟨by simp, by simp, by simp, by simp, by simp only; omega, ?_⟩, by simp [List.length_drop]; omega⟩
        simp only
        have e : (256 : Nat) ^ 8 = 18446744073709551616 := by decide
        omega
      · cases h
    · cases h
end Go.Proofs.YtfniehgggbobaaaGreatDoor
namespace Go.Proofs.YtfniehgggbobaaaGreatDoor
open Go.RowKit

/-- a slice of bytes, wherever it lies -/
def Sl (w : World) (v : Value) (l : List UInt8) : Prop := (v = .slice none 0 0 ∧ l = []) ∨ ∃ a c, v = .slice (some a) l.length c ∧ l.length ≤ c ∧ ∀ j u, (encB l)[j]? = some u → w.cell? (a.add j) = some u
theorem Buf.sl {w wr : World} {v : Value} {l : List UInt8} (h : Buf w wr v l) : Sl wr v l := by
  have ho := h.own
  rcases h.own.2 with ⟨hv, hn⟩ | ⟨g, cap, cur, hv, _, _, hcap, _⟩
  · exact .inl ⟨hv, List.eq_nil_of_length_eq_zero hn⟩
  · subst hv
    exact .inr ⟨_, _, rfl, hcap, fun j u hj => ho.cells rfl j _ hj⟩
theorem Buf.lit (w : World) (z : UInt8) (arr : Array Value) (h : arr = #[.int .u8 (z.toNat : Int)]) : Buf w (w.alloc (.cells arr 5)) (.slice (some ⟨w.heap.size, 0, none⟩) 1 1) [z] := by
  subst h
  exact ⟨(Below.refl _ _).alloc (Nat.le_refl _) _, rfl, .inr ⟨w.heap.size, 1, _, rfl, Nat.le_refl _, heap_alloc_new w _, Nat.le_refl _, by decide, rfl, rfl⟩⟩
theorem enc_len (l : List UInt8) : (encB l).length = l.length * 1 := by simp [encB]
theorem buf_grown {w wr W w1 : World} {v v' : Value} {l bs : List UInt8} (hB : Buf w wr v l) (hb : Below wr.heap.size wr W) (h1 : w1.ownsRow w.heap.size 5 1 v' (l.length + bs.length) (encB l ++ encB bs)) (h2 : W.grownBy w1 v.ownBlock) : Buf w w1 v' (l ++ bs) := by
  refine ⟨?_, ?_⟩
  · refine (hB.below.trans (hb.mono hB.below.size)).grown h2 (Nat.le_trans hB.below.size hb.size) ?_
    intro k hk
    exact (hB.own.lt k hk).1
  · rw [List.length_append, show encB (l ++ bs) = encB l ++ encB bs from List.map_append]
    exact h1
/-- what an append of a slice of bytes does to a slice of the call's own -/
theorem run_buf (W : World) (ty : TypeId) (w wr : World) (v xv : Value) (l bs : List UInt8) (hB : Buf w wr v l) (hlen : l.length + bs.length ≤ 1000000) (hb : Below wr.heap.size wr W) (hX : Sl W xv bs) :
    ∃ v' w1, (Builtin.append_ #[29, 29] ty #[v, xv]).run Tryz.prog W = .ok v' w1 ∧ Buf w w1 v' (l ++ bs) := by
  obtain ⟨i0, hi0, hz0, hz1, hz2⟩ := info_parts infoU8
  rcases hX with ⟨rfl, rfl⟩ | ⟨ad, c, rfl, -, hc⟩
  · refine ⟨v, W, run_append_owned_none (P := Tryz.prog) (w := W) w.heap.size 29 ty 5 i0 1 Tryz.underlying29 hi0 v l.length (encB l) (own_later hB.own hb), ?_⟩
    rw [List.append_nil]
    exact hB.later hb
  · obtain ⟨v', w1, hr, h2, h3, h4⟩ := run_append_own (P := Tryz.prog) W w.heap.size 29 ty 5 i0 (.int .u8 0) 1 1 Tryz.underlying29 hi0 hz0 hz1 hz2 rfl (by decide) v l.length (encB l) (own_later hB.own hb) ad bs.length c (encB bs) (enc_len bs) hc
      (fun u hu => by obtain ⟨j, hj⟩ := List.getElem?_of_mem hu; exact encB_get bs j u hj) (by unfold maxLen; omega) (by omega) (Nat.le_trans hB.below.size hb.size)
    exact ⟨v', w1, hr, buf_grown hB hb h2 h3⟩
theorem wpList_buf {ops : Array Oper} {rest : List Oper} {o : Oper} {a : Act} {Q : Exit → Act → World → Prop} {W : World} (hgd : o.guard = none) (s x : Operand)
    (ho : o.op = .call { callee := .builtin .append, args := #[s, x], argTypes := #[29, 29] })
    (w wr : World) (v xv : Value) (l bs : List UInt8) (hB : Buf w wr v l) (hlen : l.length + bs.length ≤ 1000000) (hb : Below wr.heap.size wr W) (hX : Sl W xv bs)
    (hs : a.eval s = v) (hx : a.eval x = xv)
    (h : ∀ v' w1, Buf w w1 v' (l ++ bs) → wpList Tryz.prog ops Q rest (a.put o.dst v') w1) : wpList Tryz.prog ops Q (o :: rest) a W := by
  refine wpList_plain hgd fun K hK => ?_
  obtain ⟨v', w1, hr, h2⟩ := run_buf W o.type w wr v xv l bs hB hlen hb hX
  unfold Oper.wp execOp
  simp only [ho, resolve, invoke, builtin, Sem.run_bind, Sem.run_pure, Result.andThen_ok, List.map_toArray, List.map_cons, List.map_nil, hs, hx, hr]
  exact hK _ _ (h v' w1 h2)
theorem step_buf {ops : Array Oper} {o : Oper} {a : Act} {K : Act → World → Prop} {Q : Exit → Act → World → Prop} {E : Prop} {W : World} (hgd : o.guard = none) (s x : Operand)
    (ho : o.op = .call { callee := .builtin .append, args := #[s, x], argTypes := #[29, 29] })
    (w wr : World) (v xv : Value) (l bs : List UInt8) (hB : Buf w wr v l) (hlen : l.length + bs.length ≤ 1000000) (hb : Below wr.heap.size wr W) (hX : Sl W xv bs)
    (hs : a.eval s = v) (hx : a.eval x = xv)
    (h : ∀ v' w1, Buf w w1 v' (l ++ bs) → K (a.put o.dst v') w1) :
    if Region.wanted o (yielded ops a.tmps) = true then Oper.wp Tryz.prog o a W K Q else E := by
  have hw : Region.wanted o (yielded ops a.tmps) = true := by simp [Region.wanted, hgd]
  rw [if_pos hw]
  obtain ⟨v', w1, hr, h2⟩ := run_buf W o.type w wr v xv l bs hB hlen hb hX
  unfold Oper.wp execOp
  simp only [ho, resolve, invoke, builtin, Sem.run_bind, Sem.run_pure, Result.andThen_ok, List.map_toArray, List.map_cons, List.map_nil, hs, hx, hr]
  exact h v' w1 h2
theorem strCells_enc (s : ByteArray) : Lib.strCells s = encB s.data.toList := by
  unfold Lib.strCells encB
  first | rfl | simp
theorem run_bufS (W : World) (ty : TypeId) (w wr : World) (v : Value) (l : List UInt8) (s : ByteArray) (hB : Buf w wr v l) (hlen : l.length + s.size ≤ 1000000) (hb : Below wr.heap.size wr W) :
    ∃ v' w1, (Builtin.append_ #[29, 9] ty #[v, .string s]).run Tryz.prog W = .ok v' w1 ∧ Buf w w1 v' (l ++ s.data.toList) := by
  obtain ⟨i0, hi0, hz0, hz1, hz2⟩ := info_parts infoU8
  obtain ⟨v', w1, hr, h2, h3, h4⟩ := Lib.run_append_own_string (P := Tryz.prog) W w.heap.size 29 9 ty 5 i0 Tryz.underlying29 Tryz.underlying9 hi0 hz0 hz1 hz2 v l.length (encB l) (own_later hB.own hb) s (by unfold maxLen; omega) (by omega) (Nat.le_trans hB.below.size hb.size)
  rw [strCells_enc, Lib.size_eq] at h2
  exact ⟨v', w1, hr, buf_grown hB hb h2 h3⟩
theorem wpList_bufS {ops : Array Oper} {rest : List Oper} {o : Oper} {a : Act} {Q : Exit → Act → World → Prop} {W : World} (hgd : o.guard = none) (s x : Operand)
    (ho : o.op = .call { callee := .builtin .append, args := #[s, x], argTypes := #[29, 9] })
    (w wr : World) (v : Value) (l : List UInt8) (t : ByteArray) (hB : Buf w wr v l) (hlen : l.length + t.size ≤ 1000000) (hb : Below wr.heap.size wr W)
    (hs : a.eval s = v) (hx : a.eval x = .string t)
    (h : ∀ v' w1, Buf w w1 v' (l ++ t.data.toList) → wpList Tryz.prog ops Q rest (a.put o.dst v') w1) : wpList Tryz.prog ops Q (o :: rest) a W := by
  refine wpList_plain hgd fun K hK => ?_
  obtain ⟨v', w1, hr, h2⟩ := run_bufS W o.type w wr v l t hB hlen hb
  unfold Oper.wp execOp
  simp only [ho, resolve, invoke, builtin, Sem.run_bind, Sem.run_pure, Result.andThen_ok, List.map_toArray, List.map_cons, List.map_nil, hs, hx, hr]
  exact hK _ _ (h v' w1 h2)
theorem step_bufS {ops : Array Oper} {o : Oper} {a : Act} {K : Act → World → Prop} {Q : Exit → Act → World → Prop} {E : Prop} {W : World} (hgd : o.guard = none) (s x : Operand)
    (ho : o.op = .call { callee := .builtin .append, args := #[s, x], argTypes := #[29, 9] })
    (w wr : World) (v : Value) (l : List UInt8) (t : ByteArray) (hB : Buf w wr v l) (hlen : l.length + t.size ≤ 1000000) (hb : Below wr.heap.size wr W)
    (hs : a.eval s = v) (hx : a.eval x = .string t)
    (h : ∀ v' w1, Buf w w1 v' (l ++ t.data.toList) → K (a.put o.dst v') w1) :
    if Region.wanted o (yielded ops a.tmps) = true then Oper.wp Tryz.prog o a W K Q else E := by
  have hw : Region.wanted o (yielded ops a.tmps) = true := by simp [Region.wanted, hgd]
  rw [if_pos hw]
  obtain ⟨v', w1, hr, h2⟩ := run_bufS W o.type w wr v l t hB hlen hb
  unfold Oper.wp execOp
  simp only [ho, resolve, invoke, builtin, Sem.run_bind, Sem.run_pure, Result.andThen_ok, List.map_toArray, List.map_cons, List.map_nil, hs, hx, hr]
  exact h v' w1 h2
set_option maxHeartbeats 8000000 in
set_option maxRecDepth 100000 in
theorem clone_any (w : World) (v : Value) (l : List UInt8) (hs : Sl w v l) (hl : l.length ≤ 1000000) :
    Calls Tryz.prog 90 #[v] w fun e w' => ∃ v', e = .returned v' ∧ Buf w w' v' l := by
  obtain ⟨i0, hi, hz0, hz1, hz2⟩ := info_parts infoU8
  have q22 : ∀ (w : World) (a : Option Addr) (n c n' c' : Nat), (binOp .eql 29 (.slice a n c) (.slice none n' c')).run Tryz.prog w = .ok (.bool a.isNone) w := fun w a n c n' c' => Lib.run_eql_slice_nil w _ _ a n c n' c' Tryz.underlying29
  rcases hs with ⟨rfl, rfl⟩ | ⟨a, c, rfl, -, hc⟩
  · go_enter Tryz.func90, Tryz.ntmps90
    go_wp2_with fail
    go_ret
    exact ⟨_, rfl, Buf.start w⟩
  · have A := Lib.hid hc
    clear hc
    go_enter Tryz.func90, Tryz.ntmps90
    go_wp2_with (at_builtin; refine wpList_append_own _ rfl _ _ 29 rfl w.heap.size 5 i0 (.int .u8 0) 1 1 Tryz.underlying29 hi hz0 hz1 hz2 rfl (by decide) _ _ _ rfl (World.ownsRow_made w #[] 0 (Nat.le_refl _) (Nat.zero_le _) rfl) a l.length c (encB l) rfl ?qc1 ?qc2 ?qc3 ?qc4 ?qc5 ?qc6 ?_)
    case qc1 => simp [encB]
    case qc2 =>
      intro j u hj
      exact Lib.cell?_alloc_some _ (A.out j u hj)
    case qc3 =>
      intro u hu
      obtain ⟨j, hj⟩ := List.getElem?_of_mem hu
      exact encB_get l j u hj
    case qc4 => unfold maxLen; omega
    case qc5 => omega
    case qc6 => simp
    intro v' w1 hown hgrow hnil
    go_wp2_with fail
    go_ret
    exact ⟨v', rfl, ((Below.refl _ w).alloc (Nat.le_refl _) _).grown hgrow (by simp) (by intro k hk; simp [Value.ownBlock] at hk; omega), by simpa using hown⟩
theorem or128 (c : Nat) (h : c < 256) : bits BinOp.or .u8 (c : Int) 128 = ((128 + c % 128 : Nat) : Int) := by
  have h2 := (bits_nat .u8 8 (by decide) wraps_u8 c 128 h (by decide)).2
  have h3 : ∀ c, c < 256 → c ||| 128 = 128 + c % 128 := by decide +kernel
  rw [h3 c h] at h2
  exact h2
set_option maxHeartbeats 8000000 in
set_option maxRecDepth 100000 in
theorem natural_any (w : World) (v : Value) (l : List UInt8) (n : Nat) (hs : Sl w v l) (hl : l.length ≤ 100000) (hn : n < 18446744073709551616) :
    Calls Tryz.prog 59 #[v, .int .u64 (n : Int)] w fun e w' => ∃ v', e = .returned v' ∧ Buf w w' v' (l ++ natL n) := by
  have Hc := Lib.hid (clone_any w v l hs (by omega))
  have Hn := Lib.hid hn
  have Hl := Lib.hid hl
  clear hs hn hl
  obtain ⟨N, hN⟩ : ∃ N : Int, N = (n : Int) := ⟨_, rfl⟩
  rw [← hN]
  have HN := Lib.hid hN
  clear hN
  go_enter Tryz.func59, Tryz.ntmps59
  go_wp2_with fail
  refine Hc.out.mono ?_
  rintro e w1 ⟨v1, rfl, hb⟩
  have Hb := Lib.hid hb
  clear hb Hc
  go_wp2_with fail
  go_loopg [1, 5] 9 (fun mm nv out wr => ∃ (cur : Nat) (I : Int) (pre : List UInt8), nv = .int .u64 I ∧ Hid (I = (cur : Int) ∧ pre ++ natF mm cur = natL n ∧ cur * 128 ^ (9 - mm) < 18446744073709551616 ∧ pre.length + mm ≤ 9 ∧ mm ≤ 9) ∧ Buf w wr out (l ++ pre))
  case atStart => exact ⟨n, N, [], rfl, Lib.hid ⟨HN.out, rfl, by simpa using Hn.out, by decide, by decide⟩, by rw [List.append_nil]; exact Hb.out⟩
  case round =>
    obtain ⟨cur, I, pre, rfl, HI, hb⟩ := hrel
    have Hb2 := Lib.hid hb
    clear hb Hb
    have hI0 : 0 ≤ I := by have := HI.out.1; omega
    have hal : (l ++ pre).length + 1 ≤ 1000000 := by have := HI.out.2.2.2.1; have := Hl.out; rw [List.length_append]; omega
    have Hal := Lib.hid hal
    clear hal
    by_cases hm : cur < 128
    · have hI1 : I < 128 := by have := HI.out.1; omega
      obtain ⟨z, hz⟩ : ∃ z, z = UInt8.ofNat cur := ⟨_, rfl⟩
      have hzn : (z.toNat : Int) = I := by rw [hz, ofNat_toNat (by omega)]; exact HI.out.1.symm
      have Hzn := Lib.hid hzn
      have hnat : natF gk cur = [z] := by
        rw [hz]
        cases gk with
        | zero => rfl
        | succ k => unfold natF; rw [if_pos hm]
      have hall : l ++ pre ++ [z] = l ++ natL n := by rw [← HI.out.2.1, hnat, List.append_assoc]
      have Hall := Lib.hid hall
      have hw8 : IntKind.u8.wrap I = I := by rw [show IntKind.u8.wrap I = I % 256 from rfl]; omega
      clear hm hz hzn hnat hall
      go_wp2_with (at_builtin; refine wpList_buf rfl (.tmp 18) (.tmp 21) rfl w wr _ _ _ [z] Hb2.out Hal.out ((Below.refl _ _).alloc (Nat.le_refl _) _) (Buf.lit wr z _ (by rw [Hzn.out])).sl rfl rfl ?_; intro v' w1 hb1; have Hb1 := Lib.hid hb1; clear hb1)
      go_ret
      exact ⟨_, rfl, by rw [← Hall.out]; exact Hb1.out⟩
    · have hI1 : ¬ I < 128 := by have := HI.out.1; omega
      have hgk : gk ≠ 0 := by
        intro e
        have h3 := HI.out.2.2.1
        rw [e] at h3
        have e2 : (128 : Nat) ^ (9 - 0) = 9223372036854775808 := by decide
        rw [e2] at h3
        omega
      obtain ⟨k, rfl⟩ : ∃ k, gk = k + 1 := ⟨gk - 1, by omega⟩
      obtain ⟨z, hz⟩ : ∃ z, z = UInt8.ofNat (128 + cur % 128) := ⟨_, rfl⟩
      have hcI : (cur : Int) = I := HI.out.1.symm
      have hzn : (z.toNat : Int) = 128 + I % 128 := by rw [hz, ofNat_toNat (by omega)]; omega
      have hor := or128 (cur % 256) (by omega)
      rw [show ((128 + cur % 256 % 128 : Nat) : Int) = 128 + I % 128 from by omega, show ((cur % 256 : Nat) : Int) = I % 256 from by omega] at hor
      have Hzn := Lib.hid hzn
      have hnat : natF (k + 1) cur = z :: natF k (cur / 128) := by rw [hz]; show (if cur < 128 then _ else _) = _; rw [if_neg hm]
      have hst : (pre ++ [z]) ++ natF k (cur / 128) = natL n := by rw [← HI.out.2.1, hnat, List.append_assoc]; rfl
      have hle : cur / 128 * 128 ^ (9 - k) < 18446744073709551616 := by
        have h3 := HI.out.2.2.1
        have hk := HI.out.2.2.2.2
        rw [show 9 - k = (9 - (k + 1)) + 1 from by omega, Nat.pow_succ, Nat.mul_comm (128 ^ (9 - (k + 1))) 128, ← Nat.mul_assoc]
        exact Nat.lt_of_le_of_lt (Nat.mul_le_mul_right _ (Nat.div_mul_le_self _ _)) h3
      have HN2 : Hid (I / 128 = ((cur / 128 : Nat) : Int) ∧ (pre ++ [z]) ++ natF k (cur / 128) = natL n ∧ cur / 128 * 128 ^ (9 - k) < 18446744073709551616 ∧ (pre ++ [z]).length + k ≤ 9 ∧ k ≤ 9) := Lib.hid ⟨by omega, hst, hle, by rw [List.length_append]; have := HI.out.2.2.2.1; simp; omega, by have := HI.out.2.2.2.2; omega⟩
      have hw8 : IntKind.u8.wrap I = I % 256 := rfl
      have hI9 : I < 18446744073709551616 := by
        have h3 := HI.out.2.2.1
        have : cur ≤ cur * 128 ^ (9 - (k + 1)) := Nat.le_mul_of_pos_right _ (Nat.pow_pos (by decide))
        omega
      clear hm hz hzn hnat hst hle hgk hcI
      go_wp2_with (at_builtin; refine wpList_buf rfl (.tmp 12) (.tmp 16) rfl w wr _ _ _ [z] Hb2.out Hal.out ((Below.refl _ _).alloc (Nat.le_refl _) _) (Buf.lit wr z _ (by rw [Hzn.out])).sl rfl rfl ?_; intro v' w1 hb1; have Hb1 := Lib.hid hb1; clear hb1)
      go_roundg k
      case measure => omega
      case rel => exact ⟨cur / 128, I / 128, pre ++ [z], by go_num, HN2.out, by rw [← List.append_assoc]; exact Hb1.out⟩
end Go.Proofs.YtfniehgggbobaaaGreatDoor
