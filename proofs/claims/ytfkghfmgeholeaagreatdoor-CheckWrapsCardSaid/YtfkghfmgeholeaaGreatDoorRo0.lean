/- Rows of any elements that a call makes: appended, read. -/
import Derived.Test.YtfkghfmgeholeaaGreatDoorGG
set_option linter.unusedVariables false
set_option linter.unusedSimpArgs false
namespace Go.Proofs.YtfkghfmgeholeaaGreatDoor
open Go.RowKit

/-- how an element lies in cells -/
structure Ety (α : Type) where
  T : TypeId
  S : TypeId
  k : Nat
  bytes : Nat
  enc : α → List Value
  und : Tryz.prog.underlying S = some (.slice T)
  info : ∃ z : Value, z.cells.size = k ∧ (Tryz.prog.info? T).map (fun i => (i.zero, i.size, i.bytes)) = some (some z, k, bytes)
  pos : 0 < k
  small : bytes ≤ 1000
  len : ∀ x, (enc x).length = k
  one : ∀ x, ∀ u ∈ enc x, u.oneCell' = true
section
variable {α : Type} {E : Ety α}
def Ety.all (E : Ety α) (l : List α) : List Value := l.flatMap E.enc
theorem Ety.all_append (a b : List α) : E.all (a ++ b) = E.all a ++ E.all b := List.flatMap_append
theorem Ety.all_len (l : List α) : (E.all l).length = l.length * E.k := by
  induction l with
  | nil => rw [List.length_nil, Nat.zero_mul]; rfl
  | cons t l ih => show (E.enc t ++ E.all l).length = _; rw [List.length_append, ih, List.length_cons, E.len, Nat.add_mul, Nat.one_mul, Nat.add_comm]
theorem Ety.all_one (x : α) : E.all [x] = E.enc x := by simp [Ety.all]
theorem Ety.all_get {l : List α} {i : Nat} {x : α} (h : l[i]? = some x) (j : Nat) (hj : j < E.k) : (E.all l)[i * E.k + j]? = (E.enc x)[j]? := by
  induction l generalizing i with
  | nil => simp at h
  | cons a l ih =>
    show (E.enc a ++ E.all l)[i * E.k + j]? = _
    cases i with
    | zero =>
      simp at h
      subst h
      rw [List.getElem?_append_left (by rw [E.len]; omega), Nat.zero_mul, Nat.zero_add]
    | succ i =>
      rw [List.getElem?_append_right (by rw [E.len, Nat.add_mul]; omega), show (i + 1) * E.k + j - (E.enc a).length = i * E.k + j from by rw [E.len, Nat.add_mul]; omega]
      exact ih (by simpa using h)
theorem Ety.all_ones (l : List α) : ∀ u ∈ E.all l, u.oneCell' = true := by
  intro u hu
  obtain ⟨t, -, h⟩ := List.mem_flatMap.1 hu
  exact E.one t u h
/-- a slice that the call owns -/
structure RBuf (E : Ety α) (w wr : World) (v : Value) (l : List α) : Prop where
  below : Below w.heap.size w wr
  own : wr.ownsRow w.heap.size E.T E.k v l.length (E.all l)
theorem RBuf.start (w : World) : RBuf E w w (.slice none 0 0) [] := ⟨Below.refl _ _, by simp [Ety.all], .inl ⟨rfl, rfl⟩⟩
theorem RBuf.later {w wr W : World} {v : Value} {l : List α} (h : RBuf E w wr v l) (hb : Below wr.heap.size wr W) : RBuf E w W v l :=
  ⟨h.below.trans (hb.mono h.below.size), own_later h.own hb⟩
/-- a slice, wherever it lies -/
def RSl (E : Ety α) (w : World) (v : Value) (l : List α) : Prop := (v = .slice none 0 0 ∧ l = []) ∨ ∃ a c, v = .slice (some a) l.length c ∧ l.length ≤ c ∧ ∀ j u, (E.all l)[j]? = some u → w.cell? (a.add j) = some u
theorem RSl.map {w W : World} {v : Value} {l : List α} (h : RSl E w v l) (hw : ∀ a u, w.cell? a = some u → W.cell? a = some u) : RSl E W v l := by
  rcases h with h | ⟨a, c, h1, h2, h3⟩
  · exact .inl h
  · exact .inr ⟨a, c, h1, h2, fun j u hj => hw _ _ (h3 j u hj)⟩
theorem RSl.later {w W : World} {v : Value} {l : List α} (h : RSl E w v l) (hb : Below w.heap.size w W) : RSl E W v l :=
  h.map fun a u hc => (hb.cell (World.block_lt_of_cell? w _ hc)).trans hc
theorem RBuf.sl {w wr : World} {v : Value} {l : List α} (h : RBuf E w wr v l) : RSl E wr v l := by
  have ho := h.own
  rcases h.own.2 with ⟨hv, hn⟩ | ⟨g, cap, cur, hv, _, _, hcap, _⟩
  · exact .inl ⟨hv, List.eq_nil_of_length_eq_zero hn⟩
  · subst hv
    exact .inr ⟨_, _, rfl, hcap, fun j u hj => ho.cells rfl j _ hj⟩
theorem RBuf.form {w wr : World} {v : Value} {l : List α} (h : RBuf E w wr v l) : (v = .slice none 0 0 ∧ l = []) ∨ ∃ g c, v = .slice (some ⟨g, 0, none⟩) l.length c ∧ l.length ≤ c ∧ w.heap.size ≤ g ∧ g < wr.heap.size ∧ (∀ o, wr.frozen? ⟨g, o, none⟩ = false) ∧ ∀ j u, (E.all l)[j]? = some u → wr.cell? ⟨g, j, none⟩ = some u := by
  have ho := h.own
  rcases h.own.2 with ⟨hv, hn⟩ | ⟨g, cap, cur, hv, hge, hblk, hcap, _⟩
  · exact .inl ⟨hv, List.eq_nil_of_length_eq_zero hn⟩
  · subst hv
    refine .inr ⟨g, cap, rfl, hcap, hge, (h.own.lt g rfl).2, fun o => ?_, fun j u hj => ?_⟩
    · simp [World.frozen?, hblk]
    · have := ho.cells rfl j _ hj
      have e : (⟨g, 0, none⟩ : Addr).add j = ⟨g, j, none⟩ := by unfold Addr.add; split <;> simp_all
      rwa [e] at this
theorem rbuf_grown {w wr W w1 : World} {v v' : Value} {l bs : List α} (hB : RBuf E w wr v l) (hb : Below wr.heap.size wr W) (h1 : w1.ownsRow w.heap.size E.T E.k v' (l.length + bs.length) (E.all l ++ E.all bs)) (h2 : W.grownBy w1 v.ownBlock) : RBuf E w w1 v' (l ++ bs) := by
  refine ⟨?_, ?_⟩
  · refine (hB.below.trans (hb.mono hB.below.size)).grown h2 (Nat.le_trans hB.below.size hb.size) ?_
    intro k hk
    exact (hB.own.lt k hk).1
  · rw [List.length_append, Ety.all_append]
    exact h1
/-- what an append does to a slice of the call's own -/
theorem run_rbuf (W : World) (ty : TypeId) (w wr : World) (v xv : Value) (l bs : List α) (hB : RBuf E w wr v l) (hlen : l.length + bs.length ≤ 100000000) (hb : Below wr.heap.size wr W) (hX : RSl E W xv bs) :
    ∃ v' w1, (Builtin.append_ #[E.S, E.S] ty #[v, xv]).run Tryz.prog W = .ok v' w1 ∧ RBuf E w w1 v' (l ++ bs) ∧ W.grownBy w1 v.ownBlock := by
  obtain ⟨z, hz, hinf⟩ := E.info
  obtain ⟨i0, hi0, hz0, hz1, hz2⟩ := info_parts hinf
  rcases hX with ⟨rfl, rfl⟩ | ⟨ad, c, rfl, -, hc⟩
  · refine ⟨v, W, run_append_owned_none (P := Tryz.prog) (w := W) w.heap.size E.S ty E.T i0 E.k E.und hi0 v l.length (E.all l) (own_later hB.own hb), ?_, ?_⟩
    · rw [List.append_nil]
      exact hB.later hb
    · exact World.grownBy.refl _ _
  · obtain ⟨v', w1, hr, h2, h3, h4⟩ := run_append_own (P := Tryz.prog) W w.heap.size E.S ty E.T i0 z E.k E.bytes E.und hi0 hz0 hz1 hz2 hz E.pos v l.length (E.all l) (own_later hB.own hb) ad bs.length c (E.all bs) (E.all_len bs) hc
      (E.all_ones bs) (by unfold maxLen; omega) (by
        have := E.small
        calc (l.length + bs.length) * E.bytes ≤ 100000000 * 1000 := Nat.mul_le_mul hlen this
          _ ≤ _ := by decide) (Nat.le_trans hB.below.size hb.size)
    exact ⟨v', w1, hr, rbuf_grown hB hb h2 h3, h3⟩
theorem wpList_rbuf {ops : Array Oper} {rest : List Oper} {o : Oper} {a : Act} {Q : Exit → Act → World → Prop} {W : World} (E : Ety α) (hgd : Region.wanted o (yielded ops a.tmps) = true) (s x : Operand)
    (ho : o.op = .call { callee := .builtin .append, args := #[s, x], argTypes := #[E.S, E.S] })
    (w wr : World) (v xv : Value) (l bs : List α) (hB : RBuf E w wr v l) (hlen : l.length + bs.length ≤ 100000000) (hb : Below wr.heap.size wr W) (hX : RSl E W xv bs)
    (hs : a.eval s = v) (hx : a.eval x = xv)
    (h : ∀ v' w1, RBuf E w w1 v' (l ++ bs) → W.grownBy w1 v.ownBlock → wpList Tryz.prog ops Q rest (a.put o.dst v') w1) : wpList Tryz.prog ops Q (o :: rest) a W := by
  refine wpList_step fun K hK => ?_
  rw [if_pos hgd]
  obtain ⟨v', w1, hr, h2, h3⟩ := run_rbuf W o.type w wr v xv l bs hB hlen hb hX
  unfold Oper.wp execOp
  simp only [ho, resolve, invoke, builtin, Sem.run_bind, Sem.run_pure, Result.andThen_ok, List.map_toArray, List.map_cons, List.map_nil, hs, hx, hr]
  exact hK _ _ (h v' w1 h2 h3)
theorem step_rbuf {ops : Array Oper} {o : Oper} {a : Act} {K : Act → World → Prop} {Q : Exit → Act → World → Prop} {F : Prop} {W : World} (E : Ety α) (hgd : o.guard = none) (s x : Operand)
    (ho : o.op = .call { callee := .builtin .append, args := #[s, x], argTypes := #[E.S, E.S] })
    (w wr : World) (v xv : Value) (l bs : List α) (hB : RBuf E w wr v l) (hlen : l.length + bs.length ≤ 100000000) (hb : Below wr.heap.size wr W) (hX : RSl E W xv bs)
    (hs : a.eval s = v) (hx : a.eval x = xv)
    (h : ∀ v' w1, RBuf E w w1 v' (l ++ bs) → W.grownBy w1 v.ownBlock → K (a.put o.dst v') w1) :
    if Region.wanted o (yielded ops a.tmps) = true then Oper.wp Tryz.prog o a W K Q else F := by
  have hw : Region.wanted o (yielded ops a.tmps) = true := by simp [Region.wanted, hgd]
  rw [if_pos hw]
  obtain ⟨v', w1, hr, h2, h3⟩ := run_rbuf W o.type w wr v xv l bs hB hlen hb hX
  unfold Oper.wp execOp
  simp only [ho, resolve, invoke, builtin, Sem.run_bind, Sem.run_pure, Result.andThen_ok, List.map_toArray, List.map_cons, List.map_nil, hs, hx, hr]
  exact h v' w1 h2 h3
/-- one element in a block of its own, as a slice -/
theorem RSl.one {W : World} {b c : Nat} {x : α} (hc : 1 ≤ c) (h : ∀ j u, (E.enc x)[j]? = some u → W.cell? ⟨b, j, none⟩ = some u) : RSl E W (.slice (some ⟨b, 0, none⟩) 1 c) [x] := by
  refine .inr ⟨_, _, rfl, hc, fun j u hj => ?_⟩
  rw [Ety.all_one] at hj
  have : (⟨b, 0, none⟩ : Addr).add j = ⟨b, j, none⟩ := by unfold Addr.add; split <;> simp_all
  rw [this]
  exact h j u hj
theorem RSl.len {W : World} {v : Value} {l : List α} (h : RSl E W v l) : ∃ a c, v = .slice a l.length c := by
  rcases h with ⟨rfl, rfl⟩ | ⟨a, c, rfl, -⟩
  · exact ⟨_, _, rfl⟩
  · exact ⟨_, _, rfl⟩
theorem RSl.cell {W : World} {v : Value} {l : List α} {i : Nat} {x : α} (h : RSl E W v l) (hx : l[i]? = some x) : ∃ a c, v = .slice (some a) l.length c ∧ l.length ≤ c ∧ ∀ j u, (E.enc x)[j]? = some u → W.cell? (a.add (i * E.k + j)) = some u := by
  rcases h with ⟨-, rfl⟩ | ⟨a, c, rfl, hc, h⟩
  · simp at hx
  · refine ⟨a, c, rfl, hc, fun j u hj => h _ _ ?_⟩
    rw [E.all_get hx j (by
      have := (List.getElem?_eq_some_iff.1 hj).1
      rwa [E.len] at this)]
    exact hj
end
end Go.Proofs.YtfkghfmgeholeaaGreatDoor
