/- Bytes that are appended one behind the other. -/
import Derived.Test.YtacafhmagonngaaGreatDoorVa4
import Derived.Deep.AppendLies
import Derived.Deep.RegionLaw
set_option linter.unusedVariables false
set_option linter.unusedSimpArgs false
namespace Go.Proofs.YtacafhmagonngaaGreatDoor
open Go.RowKit

abbrev encB (l : List UInt8) : List Value := l.map fun b => .int .u8 (b.toNat : Int)
/-- a slice of bytes that the call owns -/
structure Buf (w wr : World) (v : Value) (l : List UInt8) : Prop where
  below : Below w.heap.size w wr
  own : wr.ownsRow w.heap.size 5 1 v l.length (encB l)
theorem Buf.start (w : World) : Buf w w (.slice none 0 0) [] := ⟨Below.refl _ _, rfl, .inl ⟨rfl, rfl⟩⟩
theorem own_later {W w1 : World} {base : Nat} {e : TypeId} {size : Nat} {v : Value} {n : Nat} {xs : List Value} (h : W.ownsRow base e size v n xs) (hb : Below W.heap.size W w1) : w1.ownsRow base e size v n xs :=
  h.kept ⟨hb.os, hb.tape, hb.output, hb.size, fun k hk _ => hb.block k hk⟩ (row := none) (by cases v.ownBlock <;> simp)
theorem Buf.later {w wr W : World} {v : Value} {l : List UInt8} (h : Buf w wr v l) (hb : Below wr.heap.size wr W) : Buf w W v l :=
  ⟨h.below.trans (hb.mono h.below.size), own_later h.own hb⟩
theorem infoU8 : (Tryz.prog.info? 5).map (fun i => (i.zero, i.size, i.bytes)) = some (some (.int .u8 0), 1, 1) := by kernel_rfl
theorem info_parts {t : TypeId} {z : Value} {s b : Nat} (h : (Tryz.prog.info? t).map (fun i => (i.zero, i.size, i.bytes)) = some (some z, s, b)) : ∃ i, Tryz.prog.info? t = some i ∧ i.zero = some z ∧ i.size = s ∧ i.bytes = b := by
  cases hi : Tryz.prog.info? t with
  | none => rw [hi] at h; cases h
  | some i =>
    rw [hi] at h
    simp at h
    exact ⟨i, rfl, h.1, h.2.1, h.2.2⟩
theorem encB_get (bs : List UInt8) (j : Nat) (u : Value) (h : (encB bs)[j]? = some u) : u.oneCell' = true := by
  unfold encB at h
  rw [List.getElem?_map] at h
  cases hb : bs[j]? with
  | none => rw [hb] at h; cases h
  | some b => rw [hb] at h; simp at h; subst h; rfl
theorem buf_appended {w wr W w1 : World} {v : Value} {l bs : List UInt8} {g cap : Nat} (hB : Buf w wr v l) (hb : Below wr.heap.size wr W) (h1 : w1.ownsRow w.heap.size 5 1 (.slice (some ⟨g, 0, none⟩) (l.length + bs.length) cap) (l.length + bs.length) (encB l ++ encB bs)) (h2 : W.grownBy w1 v.ownBlock) : Buf w w1 (.slice (some ⟨g, 0, none⟩) (l.length + bs.length) cap) (l ++ bs) := by
  refine ⟨?_, ?_⟩
  · refine (hB.below.trans (hb.mono hB.below.size)).grown h2 (Nat.le_trans hB.below.size hb.size) ?_
    intro k hk
    exact (hB.own.lt k hk).1
  · rw [List.length_append, show encB (l ++ bs) = encB l ++ encB bs from List.map_append]
    exact h1
theorem step_bytes {ops : Array Oper} {o : Oper} {a : Act} {K : Act → World → Prop} {Q : Exit → Act → World → Prop} {E : Prop} {W : World} (hgd : o.guard = none) (s x : Operand)
    (ho : o.op = .call { callee := .builtin .append, args := #[s, x], argTypes := #[39, 39] })
    (w wr : World) (v : Value) (l bs : List UInt8) (B m : Nat) (hB : Buf w wr v l) (hm : bs.length = m) (hpos : 0 < m) (hlen : l.length + m ≤ 1000000)
    (hb : Below wr.heap.size wr W) (hc : ∀ j u, (encB bs)[j]? = some u → W.cell? ((⟨B, 0, none⟩ : Addr).add j) = some u)
    (hs : a.eval s = v) (hx : a.eval x = .slice (some ⟨B, 0, none⟩) m m)
    (h : ∀ g cap w1, Buf w w1 (.slice (some ⟨g, 0, none⟩) (l.length + m) cap) (l ++ bs) → K (a.put o.dst (.slice (some ⟨g, 0, none⟩) (l.length + m) cap)) w1) :
    if Region.wanted o (yielded ops a.tmps) = true then Oper.wp Tryz.prog o a W K Q else E := by
  subst hm
  obtain ⟨i0, hi0, hz0, hz1, hz2⟩ := info_parts infoU8
  refine step_append_lies (P := Tryz.prog) W hgd s x 39 ho w.heap.size 5 i0 _ 1 1 Tryz.underlying39 hi0 hz0 hz1 hz2 rfl (by decide) v l.length (encB l) hs (own_later hB.own hb)
    ⟨B, 0, none⟩ bs.length bs.length (encB bs) hx (by simp [encB]) hc ?_ hpos (by unfold maxLen; omega) (by omega) (Nat.le_trans hB.below.size hb.size) W.heap.size rfl ?_
  · intro u hu
    obtain ⟨j, hj⟩ := List.getElem?_of_mem hu
    exact encB_get bs j u hj
  · intro g cap w1 h1 h2 h3 h4
    exact h g cap w1 (buf_appended hB hb h1 h2)
theorem wpList_bytes {ops : Array Oper} {rest : List Oper} {o : Oper} {a : Act} {Q : Exit → Act → World → Prop} {W : World} (hgd : o.guard = none) (s x : Operand)
    (ho : o.op = .call { callee := .builtin .append, args := #[s, x], argTypes := #[39, 39] })
    (w wr : World) (v : Value) (l bs : List UInt8) (B m : Nat) (hB : Buf w wr v l) (hm : bs.length = m) (hpos : 0 < m) (hlen : l.length + m ≤ 1000000)
    (hb : Below wr.heap.size wr W) (hc : ∀ j u, (encB bs)[j]? = some u → W.cell? ((⟨B, 0, none⟩ : Addr).add j) = some u)
    (hs : a.eval s = v) (hx : a.eval x = .slice (some ⟨B, 0, none⟩) m m)
    (h : ∀ g cap w1, Buf w w1 (.slice (some ⟨g, 0, none⟩) (l.length + m) cap) (l ++ bs) → wpList Tryz.prog ops Q rest (a.put o.dst (.slice (some ⟨g, 0, none⟩) (l.length + m) cap)) w1) : wpList Tryz.prog ops Q (o :: rest) a W := by
  subst hm
  obtain ⟨i0, hi0, hz0, hz1, hz2⟩ := info_parts infoU8
  refine wpList_append_lies (P := Tryz.prog) W hgd s x 39 ho w.heap.size 5 i0 _ 1 1 Tryz.underlying39 hi0 hz0 hz1 hz2 rfl (by decide) v l.length (encB l) hs (own_later hB.own hb)
    ⟨B, 0, none⟩ bs.length bs.length (encB bs) hx (by simp [encB]) hc ?_ hpos (by unfold maxLen; omega) (by omega) (Nat.le_trans hB.below.size hb.size) W.heap.size rfl ?_
  · intro u hu
    obtain ⟨j, hj⟩ := List.getElem?_of_mem hu
    exact encB_get bs j u hj
  · intro g cap w1 h1 h2 h3 h4
    exact h g cap w1 (buf_appended hB hb h1 h2)
theorem Buf.text {w wr : World} {v : Value} {l : List UInt8} (h : Buf w wr v l) : (convert 39 9 v).run Tryz.prog wr = .ok (.string ⟨l.toArray⟩) wr := by
  have ho := h.own
  rcases h.own.2 with ⟨hv, hn⟩ | ⟨g, cap, cur, hv, _⟩
  · have : l = [] := List.eq_nil_of_length_eq_zero hn
    subst this
    subst hv
    rw [run_convert_bytes_string wr 39 9 5 none 0 0 Tryz.underlying39 Tryz.underlying5 Tryz.underlying9]
    rfl
  · subst hv
    refine run_convert_bytes_back (P := Tryz.prog) wr 39 9 5 ⟨g, 0, none⟩ cap l Tryz.underlying39 Tryz.underlying5 Tryz.underlying9 ?_
    intro j hj
    refine ho.cells rfl j _ ?_
    unfold encB
    rw [List.getElem?_map, List.getElem?_eq_getElem hj]
    rfl
theorem Buf.form {w wr : World} {v : Value} {l : List UInt8} (h : Buf w wr v l) : ∃ g cap, v = .slice g l.length cap := by
  rcases h.own.2 with ⟨hv, hn⟩ | ⟨g, cap, cur, hv, _⟩
  · exact ⟨none, 0, by rw [hv, hn]⟩
  · exact ⟨_, _, hv⟩
theorem alloc_cells (W : World) (bs : List UInt8) (arr : Array Value) (t : TypeId) (h : arr.toList = encB bs) : ∀ j u, (encB bs)[j]? = some u → (W.alloc (.cells arr t)).cell? ((⟨W.heap.size, 0, none⟩ : Addr).add j) = some u := by
  intro j u hj
  have : (⟨W.heap.size, 0, none⟩ : Addr).add j = ⟨W.heap.size, j, none⟩ := by
    unfold Addr.add; split <;> simp_all
  rw [this, World.cell?_alloc_at _ _ _ _ rfl]
  rw [← h] at hj
  simpa using hj
end Go.Proofs.YtacafhmagonngaaGreatDoor
