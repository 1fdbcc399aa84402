/- Joined texts: Vs0; Vs1; Vs2. -/
import Derived.Test.YtfkghfmgeholeaaGreatDoorGD
import Derived.Laws.AppendOwnNone
import Derived.Lib.AppendStr
set_option linter.unusedVariables false
set_option linter.unusedSimpArgs false
namespace Go.Proofs.YtfkghfmgeholeaaGreatDoor
open Go.RowKit

/-- a number's bytes, seven bits each -/
def natF : Nat → Nat → List UInt8
  | 0, n => [UInt8.ofNat n]
  | k + 1, n => if n < 128 then [UInt8.ofNat n] else UInt8.ofNat (128 + n % 128) :: natF k (n / 128)
abbrev natL (n : Nat) : List UInt8 := natF 9 n
/-- the number at the beginning of bytes -/
def readL : Nat → Nat → List UInt8 → Option (Nat × List UInt8)
  | _, _, [] => none
  | i, acc, c :: t =>
    if (i = 9 ∧ 1 < c.toNat) ∨ (0 < i ∧ c.toNat = 0) then none
    else if c.toNat < 128 then some (acc + c.toNat * 128 ^ i, t)
    else readL (i + 1) (acc + (c.toNat - 128) * 128 ^ i) t
theorem ofNat_toNat {n : Nat} (h : n < 256) : (UInt8.ofNat n).toNat = n := by
  rw [UInt8.toNat_ofNat', Nat.mod_eq_of_lt (show n < 2 ^ 8 from h)]
theorem natF_length (k : Nat) : ∀ n, (natF k n).length ≤ k + 1 := by
  induction k with
  | zero => intro n; exact Nat.le_refl _
  | succ k ih =>
    intro n
    unfold natF
    split
    · simp
    · have := ih (n / 128); simp; omega
theorem natF_pos (k n : Nat) : 0 < (natF k n).length := by
  cases k with
  | zero => exact Nat.one_pos
  | succ k => unfold natF; split <;> simp
theorem read_natF (k : Nat) : ∀ (i acc n : Nat) (t : List UInt8), i + k = 9 → n * 128 ^ i < 18446744073709551616 → (0 < i → 0 < n) → readL i acc (natF k n ++ t) = some (acc + n * 128 ^ i, t) := by
  induction k with
  | zero =>
    intro i acc n t hi hn hp
    have h9 : i = 9 := by omega
    subst h9
    have hn2 : n = 1 := by have := hp (by decide); omega
    subst hn2
    show (if _ then _ else _) = _
    rw [if_neg (by rintro (⟨-, h⟩ | ⟨-, h⟩) <;> exact absurd h (by decide)), if_pos (by decide)]
    rfl
  | succ k ih =>
    intro i acc n t hi hn hp
    unfold natF
    by_cases h : n < 128
    · rw [if_pos h]
      show (if _ then _ else _) = _
      rw [ofNat_toNat (by omega)]
      rw [if_neg (by
        rintro (⟨h1, h2⟩ | ⟨h1, h2⟩)
        · omega
        · have := hp h1; omega), if_pos h]
      rfl
    · rw [if_neg h]
      show (if _ then _ else _) = _
      rw [ofNat_toNat (by omega)]
      rw [if_neg (by rintro (⟨h1, h2⟩ | ⟨h1, h2⟩) <;> omega), if_neg (by omega)]
      have e : (acc + (128 + n % 128 - 128) * 128 ^ i) + n / 128 * 128 ^ (i + 1) = acc + n * 128 ^ i := by
        have h1 : 128 + n % 128 - 128 = n % 128 := by omega
        have h2 : n * 128 ^ i = (n % 128) * 128 ^ i + n / 128 * 128 ^ (i + 1) := by
          rw [Nat.pow_succ, Nat.mul_comm (128 ^ i) 128, ← Nat.mul_assoc, ← Nat.add_mul]
          rw [Nat.mod_add_div']
        rw [h1, h2, Nat.add_assoc]
      have hle : n / 128 * 128 ^ (i + 1) ≤ n * 128 ^ i := by
        rw [Nat.pow_succ, Nat.mul_comm (128 ^ i) 128, ← Nat.mul_assoc]
        exact Nat.mul_le_mul_right _ (Nat.div_mul_le_self _ _)
      show readL (i + 1) (acc + (128 + n % 128 - 128) * 128 ^ i) (natF k (n / 128) ++ t) = _
      rw [ih (i + 1) _ (n / 128) t (by omega) (by omega) (fun _ => by omega), e]
theorem read_natL (n : Nat) (t : List UInt8) (h : n < 18446744073709551616) : readL 0 0 (natL n ++ t) = some (n, t) := by
  have := read_natF 9 0 0 n t rfl (by omega) (fun h => by omega)
  simpa using this
/-- a number as a natural one, and back -/
def foldN (n : Int) : Nat := if 0 ≤ n then (2 * n).toNat else (-2 * n - 1).toNat
def unfoldN (u : Nat) : Int := if u % 2 = 0 then ((u / 2 : Nat) : Int) else -((u / 2 : Nat) : Int) - 1
theorem unfold_fold (n : Int) : unfoldN (foldN n) = n := by
  unfold foldN unfoldN
  split <;> split <;> omega
theorem foldN_lt {n : Int} (h0 : -9223372036854775808 ≤ n) (h1 : n ≤ 9223372036854775807) : foldN n < 18446744073709551616 := by
  unfold foldN
  split <;> omega
theorem unfoldN_rng {u : Nat} (h : u < 18446744073709551616) : -9223372036854775808 ≤ unfoldN u ∧ unfoldN u ≤ 9223372036854775807 := by
  unfold unfoldN
  split <;> omega
/-- a number in so many bytes -/
def leN : Nat → Nat → List UInt8
  | 0, _ => []
  | k + 1, n => UInt8.ofNat (n % 256) :: leN k (n / 256)
def leV : List UInt8 → Nat
  | [] => 0
  | c :: t => c.toNat + 256 * leV t
theorem leN_length (k : Nat) : ∀ n, (leN k n).length = k := by
  induction k with
  | zero => intro n; rfl
  | succ k ih => intro n; show (leN k (n / 256)).length + 1 = k + 1; rw [ih]
theorem leV_leN (k : Nat) : ∀ n, n < 256 ^ k → leV (leN k n) = n := by
  induction k with
  | zero => intro n h; simp at h; subst h; rfl
  | succ k ih =>
    intro n h
    show (UInt8.ofNat (n % 256)).toNat + 256 * leV (leN k (n / 256)) = n
    rw [ofNat_toNat (by omega), ih (n / 256) (by rw [Nat.pow_succ] at h; omega)]
    omega
theorem leV_lt (l : List UInt8) : leV l < 256 ^ l.length := by
  induction l with
  | nil => exact Nat.one_pos
  | cons c t ih =>
    have := c.toNat_lt
    show c.toNat + 256 * leV t < 256 ^ (t.length + 1)
    rw [Nat.pow_succ]
    omega
theorem readL_lt (l : List UInt8) : ∀ (i acc u : Nat) (r : List UInt8), i ≤ 9 → acc < 128 ^ i → readL i acc l = some (u, r) → u < 18446744073709551616 ∧ r.length < l.length := by
  induction l with
  | nil => intro i acc u r _ _ h; cases h
  | cons c t ih =>
    intro i acc u r hi ha h
    have hc := c.toNat_lt
    unfold readL at h
    split at h
    · cases h
    · rename_i h1
      split at h
      · rename_i h2
        simp only [Option.some.injEq, Prod.mk.injEq] at h
        obtain ⟨rfl, rfl⟩ := h
        refine ⟨?_, by simp⟩
        by_cases h9 : i = 9
        · subst h9
          have : c.toNat ≤ 1 := by omega
          have e : (128 : Nat) ^ 9 = 9223372036854775808 := by decide
          rw [e] at ha ⊢
          omega
        · have h8 : 128 ^ (i + 1) ≤ 128 ^ 9 := Nat.pow_le_pow_right (by decide) (by omega)
          have h3 : acc + c.toNat * 128 ^ i < 128 ^ (i + 1) := by
            have : c.toNat * 128 ^ i ≤ 127 * 128 ^ i := Nat.mul_le_mul_right _ (by omega)
            rw [Nat.pow_succ]
            omega
          have e : (128 : Nat) ^ 9 = 9223372036854775808 := by decide
          omega
      · rename_i h2
        have h9 : i ≠ 9 := by omega
        have h3 : acc + (c.toNat - 128) * 128 ^ i < 128 ^ (i + 1) := by
          have : (c.toNat - 128) * 128 ^ i ≤ 127 * 128 ^ i := Nat.mul_le_mul_right _ (by omega)
          rw [Nat.pow_succ]
          omega
        obtain ⟨e1, e2⟩ := ih (i + 1) _ u r (by omega) h3 h
        exact ⟨e1, by simp; omega⟩
/-- a value's bytes -/
def putL (v : Val) : List UInt8 :=
  if v.k = 1 then 1 :: natL (foldN v.n)
  else if v.k = 2 then [2, UInt8.ofNat v.n.toNat]
  else if v.k = 3 then 3 :: (natL v.s.size ++ v.s.data.toList)
  else if v.k = 4 then 4 :: leN 8 v.f.toNat
  else [0]
/-- the value at the beginning of bytes -/
def getL : List UInt8 → Option (Val × List UInt8)
  | [] => none
  | c :: t =>
    if c.toNat = 0 then some (⟨0, 0, ⟨#[]⟩, 0⟩, t)
    else if c.toNat = 1 then (readL 0 0 t).map fun p => (⟨1, unfoldN p.1, ⟨#[]⟩, 0⟩, p.2)
    else if c.toNat = 2 then (match t with
      | [] => none
      | d :: r => if d.toNat ≤ 1 then some (⟨2, (d.toNat : Int), ⟨#[]⟩, 0⟩, r) else none)
    else if c.toNat = 3 then (readL 0 0 t).bind fun p => if p.1 ≤ 64 ∧ p.1 ≤ p.2.length then some (⟨3, 0, ⟨(p.2.take p.1).toArray⟩, 0⟩, p.2.drop p.1) else none
    else if c.toNat = 4 then (if 8 ≤ t.length ∧ canonF (leV (t.take 8) : Nat) = ((leV (t.take 8) : Nat) : Int) then some (⟨4, 0, ⟨#[]⟩, ((leV (t.take 8) : Nat) : Int)⟩, t.drop 8) else none)
    else none
theorem getL_cons (c : UInt8) (t : List UInt8) : getL (c :: t) = (
    if c.toNat = 0 then some (⟨0, 0, ⟨#[]⟩, 0⟩, t)
    else if c.toNat = 1 then (readL 0 0 t).map fun p => (⟨1, unfoldN p.1, ⟨#[]⟩, 0⟩, p.2)
    else if c.toNat = 2 then (match t with
      | [] => none
      | d :: r => if d.toNat ≤ 1 then some (⟨2, (d.toNat : Int), ⟨#[]⟩, 0⟩, r) else none)
    else if c.toNat = 3 then (readL 0 0 t).bind fun p => if p.1 ≤ 64 ∧ p.1 ≤ p.2.length then some (⟨3, 0, ⟨(p.2.take p.1).toArray⟩, 0⟩, p.2.drop p.1) else none
    else if c.toNat = 4 then (if 8 ≤ t.length ∧ canonF (leV (t.take 8) : Nat) = ((leV (t.take 8) : Nat) : Int) then some (⟨4, 0, ⟨#[]⟩, ((leV (t.take 8) : Nat) : Int)⟩, t.drop 8) else none)
    else none) := rfl
theorem get_put {v : Val} (h : RightC v) (w : v.Wf) (t : List UInt8) : getL (putL v ++ t) = some (v, t) := by
  obtain ⟨k, n, s, f⟩ := v
  obtain ⟨-, -, n0, n1, f0, f1⟩ := w
  simp only at n0 n1 f0 f1
  rcases h with ⟨hk, hn, hs, hf⟩ | ⟨hk, hs, hf⟩ | ⟨hk, hs, hf, hn⟩ | ⟨hk, hn, hf, hs⟩ | ⟨hk, hn, hs, hf⟩
  · simp only at hk hn hs hf
    subst hk hn hs hf
    rfl
  · simp only at hk hs hf
    subst hk hs hf
    show (readL 0 0 (natL (foldN n) ++ t)).map _ = _
    rw [read_natL _ _ (foldN_lt n0 n1)]
    simp [unfold_fold]
  · simp only at hk hs hf hn
    subst hk hs hf
    rcases hn with rfl | rfl <;> rfl
  · simp only at hk hn hf hs
    subst hk hn hf
    show (readL 0 0 ((natL s.size ++ s.data.toList) ++ t)).bind _ = _
    have hl : s.data.toList.length = s.size := (Lib.size_eq s).symm
    rw [List.append_assoc, read_natL _ _ (by omega)]
    show (if _ then _ else _) = _
    rw [if_pos ⟨hs, by simp [List.length_append, hl]⟩]
    have e1 : (s.data.toList ++ t).take s.size = s.data.toList := by rw [← hl]; simp
    have e2 : (s.data.toList ++ t).drop s.size = t := by rw [← hl]; simp
    simp only [e1, e2]
  · simp only at hk hn hs hf
    subst hk hn hs
    rw [show putL ⟨4, 0, ⟨#[]⟩, f⟩ ++ t = 4 :: (leN 8 f.toNat ++ t) from rfl, getL_cons, if_neg (by decide), if_neg (by decide), if_neg (by decide), if_neg (by decide), if_pos (by decide)]
    generalize hL : leN 8 f.toNat = L at *
    have hl := leN_length 8 f.toNat
    rw [hL] at hl
    have e1 : (L ++ t).take 8 = L := by
      have := List.take_left (l₁ := L) (l₂ := t); rwa [hl] at this
    have e2 : (L ++ t).drop 8 = t := by
      have := List.drop_left (l₁ := L) (l₂ := t); rwa [hl] at this
    have e3 : ((leV L : Nat) : Int) = f := by rw [← hL, leV_leN 8 _ (by omega)]; omega
    rw [e1, e2, e3, if_pos ⟨by rw [List.length_append, hl]; omega, hf⟩]
theorem put_inj {v w : Val} (hv : RightC v) (hw : RightC w) (wv : v.Wf) (ww : w.Wf) (h : putL v = putL w) : v = w := by
  have h1 := get_put hv wv []
  have h2 := get_put hw ww []
  rw [h, h2] at h1
  simp only [Option.some.injEq, Prod.mk.injEq, and_true] at h1
  exact h1.symm
theorem get_right {l r : List UInt8} {v : Val} (h : getL l = some (v, r)) : RightC v ∧ v.Wf ∧ r.length < l.length := by
  cases l with
  | nil => cases h
  | cons c t =>
    rw [getL_cons] at h
    split at h
    · simp only [Option.some.injEq, Prod.mk.injEq] at h
      obtain ⟨rfl, rfl⟩ := h
      exact ⟨.null rfl rfl rfl rfl, ⟨by simp, by simp, by simp, by simp, by simp, by simp⟩, by simp⟩
    split at h
    · simp only [Option.map_eq_some_iff, Prod.mk.injEq] at h
      obtain ⟨⟨u, r2⟩, h1, rfl, rfl⟩ := h
      obtain ⟨h2, h3⟩ := readL_lt t 0 0 u r2 (by decide) (by decide) h1
      obtain ⟨h4, h5⟩ := unfoldN_rng h2
      exact ⟨.int rfl rfl rfl, ⟨by simp, by simp, h4, h5, by simp, by simp⟩, by simp; omega⟩
    split at h
    · cases t with
      | nil => cases h
      | cons d t2 =>
        simp only at h
        split at h
        · rename_i hd
          simp only [Option.some.injEq, Prod.mk.injEq] at h
          obtain ⟨rfl, rfl⟩ := h
          exact ⟨.bool rfl rfl rfl (by simp only; omega), ⟨by simp, by simp, by simp only; omega, by simp only; omega, by simp, by simp⟩, by simp; omega⟩
        · cases h
    split at h
    · simp only [Option.bind_eq_some_iff] at h
      obtain ⟨⟨u, r2⟩, h1, h2⟩ := h
      simp only at h2
      split at h2
      · rename_i hu
        simp only [Option.some.injEq, Prod.mk.injEq] at h2
        obtain ⟨rfl, rfl⟩ := h2
        obtain ⟨_, h3⟩ := readL_lt t 0 0 u r2 (by decide) (by decide) h1
        refine ⟨.bytes rfl rfl rfl ?_, ⟨by simp, by simp, by simp, by simp, by simp, by simp⟩, by simp [List.length_drop]; omega⟩
        show (r2.take u).toArray.size ≤ 64
        simp; omega
      · cases h2
    split at h
    · split at h
      · rename_i h8
        simp only [Option.some.injEq, Prod.mk.injEq] at h
        obtain ⟨rfl, rfl⟩ := h
        have hlt := leV_lt (t.take 8)
        have hl8 : (t.take 8).length = 8 := by rw [List.length_take]; omega
        rw [hl8] at hlt
        refine ⟨.float rfl rfl rfl h8.2, ⟨by simp, by simp, by simp, by simp, by simp only; omega, ?_⟩, by simp [List.length_drop]; omega⟩
        simp only
        have e : (256 : Nat) ^ 8 = 18446744073709551616 := by decide
        omega
      · cases h
    · cases h
end Go.Proofs.YtfkghfmgeholeaaGreatDoor
namespace Go.Proofs.YtfkghfmgeholeaaGreatDoor
open Go.RowKit

/-- a slice of bytes, wherever it lies -/
def Sl (w : World) (v : Value) (l : List UInt8) : Prop := (v = .slice none 0 0 ∧ l = []) ∨ ∃ a c, v = .slice (some a) l.length c ∧ l.length ≤ c ∧ ∀ j u, (encB l)[j]? = some u → w.cell? (a.add j) = some u
theorem Buf.sl {w wr : World} {v : Value} {l : List UInt8} (h : Buf w wr v l) : Sl wr v l := by
  have ho := h.own
  rcases h.own.2 with ⟨hv, hn⟩ | ⟨g, cap, cur, hv, _, _, hcap, _⟩
  · exact .inl ⟨hv, List.eq_nil_of_length_eq_zero hn⟩
  · subst hv
    exact .inr ⟨_, _, rfl, hcap, fun j u hj => ho.cells rfl j _ hj⟩
theorem Buf.lit (w : World) (z : UInt8) (arr : Array Value) (h : arr = #[.int .u8 (z.toNat : Int)]) : Buf w (w.alloc (.cells arr 5)) (.slice (some ⟨w.heap.size, 0, none⟩) 1 1) [z] := by
  subst h
  exact ⟨(Below.refl _ _).alloc (Nat.le_refl _) _, rfl, .inr ⟨w.heap.size, 1, _, rfl, Nat.le_refl _, heap_alloc_new w _, Nat.le_refl _, by decide, rfl, rfl⟩⟩
theorem enc_len (l : List UInt8) : (encB l).length = l.length * 1 := by simp [encB]
theorem buf_grown {w wr W w1 : World} {v v' : Value} {l bs : List UInt8} (hB : Buf w wr v l) (hb : Below wr.heap.size wr W) (h1 : w1.ownsRow w.heap.size 5 1 v' (l.length + bs.length) (encB l ++ encB bs)) (h2 : W.grownBy w1 v.ownBlock) : Buf w w1 v' (l ++ bs) := by
  refine ⟨?_, ?_⟩
  · refine (hB.below.trans (hb.mono hB.below.size)).grown h2 (Nat.le_trans hB.below.size hb.size) ?_
    intro k hk
    exact (hB.own.lt k hk).1
  · rw [List.length_append, show encB (l ++ bs) = encB l ++ encB bs from List.map_append]
    exact h1
/-- what an append of a slice of bytes does to a slice of the call's own -/
theorem run_buf (W : World) (ty : TypeId) (w wr : World) (v xv : Value) (l bs : List UInt8) (hB : Buf w wr v l) (hlen : l.length + bs.length ≤ 1000000) (hb : Below wr.heap.size wr W) (hX : Sl W xv bs) :
    ∃ v' w1, (Builtin.append_ #[169, 169] ty #[v, xv]).run Tryz.prog W = .ok v' w1 ∧ Buf w w1 v' (l ++ bs) := by
  obtain ⟨i0, hi0, hz0, hz1, hz2⟩ := info_parts infoU8
  rcases hX with ⟨rfl, rfl⟩ | ⟨ad, c, rfl, -, hc⟩
  · refine ⟨v, W, run_append_owned_none (P := Tryz.prog) (w := W) w.heap.size 169 ty 5 i0 1 Tryz.underlying169 hi0 v l.length (encB l) (own_later hB.own hb), ?_⟩
    rw [List.append_nil]
    exact hB.later hb
  · obtain ⟨v', w1, hr, h2, h3, h4⟩ := run_append_own (P := Tryz.prog) W w.heap.size 169 ty 5 i0 (.int .u8 0) 1 1 Tryz.underlying169 hi0 hz0 hz1 hz2 rfl (by decide) v l.length (encB l) (own_later hB.own hb) ad bs.length c (encB bs) (enc_len bs) hc
      (fun u hu => by obtain ⟨j, hj⟩ := List.getElem?_of_mem hu; exact encB_get bs j u hj) (by unfold maxLen; omega) (by omega) (Nat.le_trans hB.below.size hb.size)
    exact ⟨v', w1, hr, buf_grown hB hb h2 h3⟩
theorem wpList_buf {ops : Array Oper} {rest : List Oper} {o : Oper} {a : Act} {Q : Exit → Act → World → Prop} {W : World} (hgd : o.guard = none) (s x : Operand)
    (ho : o.op = .call { callee := .builtin .append, args := #[s, x], argTypes := #[169, 169] })
    (w wr : World) (v xv : Value) (l bs : List UInt8) (hB : Buf w wr v l) (hlen : l.length + bs.length ≤ 1000000) (hb : Below wr.heap.size wr W) (hX : Sl W xv bs)
    (hs : a.eval s = v) (hx : a.eval x = xv)
    (h : ∀ v' w1, Buf w w1 v' (l ++ bs) → wpList Tryz.prog ops Q rest (a.put o.dst v') w1) : wpList Tryz.prog ops Q (o :: rest) a W := by
  refine wpList_plain hgd fun K hK => ?_
  obtain ⟨v', w1, hr, h2⟩ := run_buf W o.type w wr v xv l bs hB hlen hb hX
  unfold Oper.wp execOp
  simp only [ho, resolve, invoke, builtin, Sem.run_bind, Sem.run_pure, Result.andThen_ok, List.map_toArray, List.map_cons, List.map_nil, hs, hx, hr]
  exact hK _ _ (h v' w1 h2)
theorem step_buf {ops : Array Oper} {o : Oper} {a : Act} {K : Act → World → Prop} {Q : Exit → Act → World → Prop} {E : Prop} {W : World} (hgd : o.guard = none) (s x : Operand)
    (ho : o.op = .call { callee := .builtin .append, args := #[s, x], argTypes := #[169, 169] })
    (w wr : World) (v xv : Value) (l bs : List UInt8) (hB : Buf w wr v l) (hlen : l.length + bs.length ≤ 1000000) (hb : Below wr.heap.size wr W) (hX : Sl W xv bs)
    (hs : a.eval s = v) (hx : a.eval x = xv)
    (h : ∀ v' w1, Buf w w1 v' (l ++ bs) → K (a.put o.dst v') w1) :
    if Region.wanted o (yielded ops a.tmps) = true then Oper.wp Tryz.prog o a W K Q else E := by
  have hw : Region.wanted o (yielded ops a.tmps) = true := by simp [Region.wanted, hgd]
  rw [if_pos hw]
  obtain ⟨v', w1, hr, h2⟩ := run_buf W o.type w wr v xv l bs hB hlen hb hX
  unfold Oper.wp execOp
  simp only [ho, resolve, invoke, builtin, Sem.run_bind, Sem.run_pure, Result.andThen_ok, List.map_toArray, List.map_cons, List.map_nil, hs, hx, hr]
  exact h v' w1 h2
theorem strCells_enc (s : ByteArray) : Lib.strCells s = encB s.data.toList := by
  unfold Lib.strCells encB
  first | rfl | simp
theorem run_bufS (W : World) (ty : TypeId) (w wr : World) (v : Value) (l : List UInt8) (s : ByteArray) (hB : Buf w wr v l) (hlen : l.length + s.size ≤ 1000000) (hb : Below wr.heap.size wr W) :
    ∃ v' w1, (Builtin.append_ #[169, 9] ty #[v, .string s]).run Tryz.prog W = .ok v' w1 ∧ Buf w w1 v' (l ++ s.data.toList) := by
  obtain ⟨i0, hi0, hz0, hz1, hz2⟩ := info_parts infoU8
  obtain ⟨v', w1, hr, h2, h3, h4⟩ := Lib.run_append_own_string (P := Tryz.prog) W w.heap.size 169 9 ty 5 i0 Tryz.underlying169 Tryz.underlying9 hi0 hz0 hz1 hz2 v l.length (encB l) (own_later hB.own hb) s (by unfold maxLen; omega) (by omega) (Nat.le_trans hB.below.size hb.size)
  rw [strCells_enc, Lib.size_eq] at h2
  exact ⟨v', w1, hr, buf_grown hB hb h2 h3⟩
theorem wpList_bufS {ops : Array Oper} {rest : List Oper} {o : Oper} {a : Act} {Q : Exit → Act → World → Prop} {W : World} (hgd : o.guard = none) (s x : Operand)
    (ho : o.op = .call { callee := .builtin .append, args := #[s, x], argTypes := #[169, 9] })
    (w wr : World) (v : Value) (l : List UInt8) (t : ByteArray) (hB : Buf w wr v l) (hlen : l.length + t.size ≤ 1000000) (hb : Below wr.heap.size wr W)
    (hs : a.eval s = v) (hx : a.eval x = .string t)
    (h : ∀ v' w1, Buf w w1 v' (l ++ t.data.toList) → wpList Tryz.prog ops Q rest (a.put o.dst v') w1) : wpList Tryz.prog ops Q (o :: rest) a W := by
  refine wpList_plain hgd fun K hK => ?_
  obtain ⟨v', w1, hr, h2⟩ := run_bufS W o.type w wr v l t hB hlen hb
  unfold Oper.wp execOp
  simp only [ho, resolve, invoke, builtin, Sem.run_bind, Sem.run_pure, Result.andThen_ok, List.map_toArray, List.map_cons, List.map_nil, hs, hx, hr]
  exact hK _ _ (h v' w1 h2)
theorem step_bufS {ops : Array Oper} {o : Oper} {a : Act} {K : Act → World → Prop} {Q : Exit → Act → World → Prop} {E : Prop} {W : World} (hgd : o.guard = none) (s x : Operand)
    (ho : o.op = .call { callee := .builtin .append, args := #[s, x], argTypes := #[169, 9] })
    (w wr : World) (v : Value) (l : List UInt8) (t : ByteArray) (hB : Buf w wr v l) (hlen : l.length + t.size ≤ 1000000) (hb : Below wr.heap.size wr W)
    (hs : a.eval s = v) (hx : a.eval x = .string t)
    (h : ∀ v' w1, Buf w w1 v' (l ++ t.data.toList) → K (a.put o.dst v') w1) :
    if Region.wanted o (yielded ops a.tmps) = true then Oper.wp Tryz.prog o a W K Q else E := by
  have hw : Region.wanted o (yielded ops a.tmps) = true := by simp [Region.wanted, hgd]
  rw [if_pos hw]
  obtain ⟨v', w1, hr, h2⟩ := run_bufS W o.type w wr v l t hB hlen hb
  unfold Oper.wp execOp
  simp only [ho, resolve, invoke, builtin, Sem.run_bind, Sem.run_pure, Result.andThen_ok, List.map_toArray, List.map_cons, List.map_nil, hs, hx, hr]
  exact h v' w1 h2
theorem or128 (c : Nat) (h : c < 256) : bits BinOp.or .u8 (c : Int) 128 = ((128 + c % 128 : Nat) : Int) := by
  have h2 := (bits_nat .u8 8 (by decide) wraps_u8 c 128 h (by decide)).2
  have h3 : ∀ c, c < 256 → c ||| 128 = 128 + c % 128 := by decide +kernel
  rw [h3 c h] at h2
  exact h2
end Go.Proofs.YtfkghfmgeholeaaGreatDoor
namespace Go.Proofs.YtfkghfmgeholeaaGreatDoor
open Go.RowKit

/-- as it was but for block R -/
structure But (R : Nat) (w w' : World) : Prop where
  os : w'.os = w.os
  tape : w'.tape = w.tape
  output : w'.output = w.output
  size : w.heap.size ≤ w'.heap.size
  block : ∀ k, k < w.heap.size → k ≠ R → w'.heap[k]? = w.heap[k]?
theorem But.refl (R : Nat) (w : World) : But R w w := ⟨rfl, rfl, rfl, Nat.le_refl _, fun _ _ _ => rfl⟩
theorem But.trans {R : Nat} {a b c : World} (h : But R a b) (k : But R b c) : But R a c :=
  ⟨k.os.trans h.os, k.tape.trans h.tape, k.output.trans h.output, Nat.le_trans h.size k.size, fun i hi hR => (k.block i (Nat.lt_of_lt_of_le hi h.size) hR).trans (h.block i hi hR)⟩
theorem But.of {R : Nat} {a b : World} (h : Below a.heap.size a b) : But R a b := ⟨h.os, h.tape, h.output, h.size, fun k hk _ => h.block k hk⟩
theorem But.set {R : Nat} {a w : World} (h : But R a w) (o : Nat) (v : Value) : But R a (w.setCell ⟨R, o, none⟩ v) :=
  h.trans ⟨rfl, rfl, rfl, by simp [World.setCell], fun k hk hR => Below.heap_setCell _ _ _ _ hR⟩
theorem But.below {R B : Nat} {a w : World} (h : But R a w) (hB : B ≤ R) (hs : B ≤ a.heap.size) : Below B a w := ⟨h.os, h.tape, h.output, h.size, fun k hk => h.block k (by omega) (by omega)⟩
theorem But.cell {R : Nat} {w w' : World} (h : But R w w') {p : Addr} {v : Value} (hp : w.cell? p = some v) (hR : p.block ≠ R) : w'.cell? p = some v :=
  (World.cell?_of_block (w := w) (h.block p.block (World.block_lt_of_cell? w _ hp) hR)).trans hp
theorem But.frozen {R : Nat} {w w' : World} (h : But R w w') {p : Addr} (hp : p.block < w.heap.size) (hR : p.block ≠ R) : w'.frozen? p = w.frozen? p := World.frozen?_of_block (w := w) (h.block p.block hp hR)
theorem At.but {w w' : World} {b R : Nat} {k n : Int} {s : ByteArray} {f : Int} (h : At w b k n s f) (hb : But R w w') (hB : b ≠ R) : At w' b k n s f where
  c0 := hb.cell h.c0 hB
  c1 := hb.cell h.c1 hB
  c2 := hb.cell h.c2 hB
  c3 := hb.cell h.c3 hB
  z := fun o => (hb.frozen h.lt hB).trans (h.z o)
  lt := Nat.lt_of_lt_of_le h.lt hb.size
/-- a slice of bytes that doesn't lie in block R -/
def SlB (w : World) (R : Nat) (v : Value) (l : List UInt8) : Prop := (v = .slice none 0 0 ∧ l = []) ∨ ∃ g off c, v = .slice (some ⟨g, off, none⟩) l.length c ∧ l.length ≤ c ∧ g < R ∧ ∀ j u, (encB l)[j]? = some u → w.cell? ⟨g, off + j, none⟩ = some u
theorem SlB.but {w w' : World} {R : Nat} {v : Value} {l : List UInt8} (h : SlB w R v l) (hb : But R w w') : SlB w' R v l := by
  rcases h with h | ⟨g, off, c, h1, h2, h3, h4⟩
  · exact .inl h
  · exact .inr ⟨g, off, c, h1, h2, h3, fun j u hj => hb.cell (h4 j u hj) (Nat.ne_of_lt h3)⟩
/-- a reader that isn't bad -/
structure RdAt (w : World) (R : Nat) (l : List UInt8) : Prop where
  c0 : ∃ v, w.cell? ⟨R, 0, none⟩ = some v ∧ SlB w R v l
  c1 : w.cell? ⟨R, 1, none⟩ = some (.bool false)
  z : ∀ o, w.frozen? ⟨R, o, none⟩ = false
  lt : R < w.heap.size
/-- a reader that is bad -/
structure RdBad (w : World) (R : Nat) : Prop where
  c0 : ∃ v, w.cell? ⟨R, 0, none⟩ = some v
  c1 : w.cell? ⟨R, 1, none⟩ = some (.bool true)
  z : ∀ o, w.frozen? ⟨R, o, none⟩ = false
  lt : R < w.heap.size
theorem RdAt.below {w w' : World} {R : Nat} {l : List UInt8} (h : RdAt w R l) (hb : Below w.heap.size w w') : RdAt w' R l where
  c0 := by
    obtain ⟨v, h1, h2⟩ := h.c0
    exact ⟨v, (hb.cell h.lt).trans h1, h2.but (But.of hb)⟩
  c1 := (hb.cell h.lt).trans h.c1
  z := fun o => (hb.frozen h.lt).trans (h.z o)
  lt := Nat.lt_of_lt_of_le h.lt hb.size
theorem RdBad.below {w w' : World} {R : Nat} (h : RdBad w R) (hb : Below w.heap.size w w') : RdBad w' R where
  c0 := by
    obtain ⟨v, h1⟩ := h.c0
    exact ⟨v, (hb.cell h.lt).trans h1⟩
  c1 := (hb.cell h.lt).trans h.c1
  z := fun o => (hb.frozen h.lt).trans (h.z o)
  lt := Nat.lt_of_lt_of_le h.lt hb.size
theorem RdAt.off {w : World} {R D : Nat} {l : List UInt8} (h : RdAt w R l) (hD : R < D) (o : Nat) (u : Value) : RdAt (w.setCell ⟨D, o, none⟩ u) R l := by
  obtain ⟨⟨v, h1, h2⟩, c1, z, lt⟩ := h
  have ne : ∀ b i : Nat, b ≤ R → (⟨D, o, none⟩ : Addr) ≠ ⟨b, i, none⟩ := fun b i hb h => by injection h with h _; omega
  refine ⟨⟨v, cell_off h1 (ne R 0 (Nat.le_refl _)), ?_⟩, cell_off c1 (ne R 1 (Nat.le_refl _)), fun i => (World.frozen?_setCell _ _ _ _).trans (z i), by simpa [World.setCell] using lt⟩
  rcases h2 with h | ⟨g, off, c, e1, e2, e3, e4⟩
  · exact .inl h
  · exact .inr ⟨g, off, c, e1, e2, e3, fun j u hj => cell_off (e4 j u hj) (ne g _ (by omega))⟩
theorem addr_ne (b : Nat) {i j : Nat} (e : i ≠ j) : (⟨b, i, none⟩ : Addr) ≠ ⟨b, j, none⟩ := fun h => by injection h with _ h; exact e h
theorem RdAt.moved {w : World} {R : Nat} {l r : List UInt8} {v : Value} (h : RdAt w R l) (hv : SlB w R v r) : RdAt (w.setCell ⟨R, 0, none⟩ v) R r where
  c0 := by
    obtain ⟨u, h1, h2⟩ := h.c0
    exact ⟨v, World.cell?_setCell_same _ _ _ h1, hv.but ((But.refl R w).set 0 v)⟩
  c1 := cell_off h.c1 (addr_ne R (by decide))
  z := fun o => (World.frozen?_setCell _ _ _ _).trans (h.z o)
  lt := by simpa [World.setCell] using h.lt
theorem RdAt.bad {w : World} {R : Nat} {l : List UInt8} (h : RdAt w R l) : RdBad (w.setCell ⟨R, 1, none⟩ (.bool true)) R where
  c0 := by
    obtain ⟨u, h1, h2⟩ := h.c0
    exact ⟨u, cell_off h1 (addr_ne R (by decide))⟩
  c1 := cell_at h.c1 rfl
  z := fun o => (World.frozen?_setCell _ _ _ _).trans (h.z o)
  lt := by simpa [World.setCell] using h.lt
theorem RdBad.bad {w : World} {R : Nat} (h : RdBad w R) : RdBad (w.setCell ⟨R, 1, none⟩ (.bool true)) R where
  c0 := by
    obtain ⟨u, h1⟩ := h.c0
    exact ⟨u, cell_off h1 (addr_ne R (by decide))⟩
  c1 := cell_at h.c1 rfl
  z := fun o => (World.frozen?_setCell _ _ _ _).trans (h.z o)
  lt := by simpa [World.setCell] using h.lt
theorem SlB.tail {w : World} {R g off c : Nat} {b : UInt8} {t : List UInt8} (h1 : (b :: t).length ≤ c) (hR : g < R) (hc : ∀ j u, (encB (b :: t))[j]? = some u → w.cell? ⟨g, off + j, none⟩ = some u) :
    (c = 1 → SlB w R (.slice (some ⟨g, off, none⟩) ((b :: t).length - 1) 0) t) ∧ (c ≠ 1 → SlB w R (.slice (some ⟨g, off + 1, none⟩) ((b :: t).length - 1) (c - 1)) t) := by
  refine ⟨fun h => ?_, fun h => ?_⟩
  · have : t = [] := List.eq_nil_of_length_eq_zero (by simp at h1; omega)
    subst this
    exact .inr ⟨g, off, 0, rfl, Nat.le_refl _, hR, fun j u hj => by simp at hj⟩
  · refine .inr ⟨g, off + 1, c - 1, rfl, by simp at h1; omega, hR, fun j u hj => ?_⟩
    have := hc (j + 1) u hj
    rwa [show off + 1 + j = off + (j + 1) from by omega]
end Go.Proofs.YtfkghfmgeholeaaGreatDoor
