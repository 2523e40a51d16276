/-
  A queue of integers in a slice of the call's own: its front is cut off, its end appended to. No program in sight.
-/
import Derived.Test.YtofilkphaelceaaApp
import Derived.Laws.Slices
namespace Sk
open Go Go.RowKit

section
variable {P : Program} (w : World)
/-- append with room, at an offset -/
theorem run_append_room_at (t ty e : TypeId) (i : TypeInfo) (ht : P.underlying t = some (.slice e)) (hi : P.info? e = some i) (h1s : i.size = 1)
    (g o sLen sCap : Nat) (cur : Array Value) (hg : w.heap[g]? = some (.cells cur e (0, 0)))
    (a : Addr) (c : Nat) (u : Value) (hnews : w.cell? (a.add 0) = some u) (h1 : u.oneCell' = true) (hroom : sLen + 1 ≤ sCap) (hfit : o + sLen + 1 ≤ cur.size) :
    (Builtin.append_ #[t, t] ty #[.slice (some ⟨g, o, none⟩) sLen sCap, .slice (some a) 1 c]).run P w =
      .ok (.slice (some ⟨g, o, none⟩) (sLen + 1) sCap) (w.setRow g (cur.toList.take (o + sLen) ++ [u] ++ cur.toList.drop (o + sLen + 1)).toArray) := by
  have hf := run_firstCells_some (P := P) w i.size 1 a 1 c [u] (by simp [h1s]) (by intro j v hj; cases j with | zero => simp at hj; subst hj; exact hnews | succ j => simp at hj)
  have hst := run_storeCells_at P g (o + sLen) e [u] 0 cur w hg (by simpa using hfit) (by simpa using h1)
  simp only [Nat.add_zero, List.length_singleton] at hst
  rw [h1s] at hf
  simp [Builtin.append_, run_underlying ht, Go.sizeOf, typeInfo, hi, Builtin.lenOf, hroom, hf, Addr.add_lit, hst, h1s]
end

/-- a queue -/
def QOwn (w : World) (base e : Nat) (v : Value) (q : List Int) : Prop :=
  ∃ g o cap, v = .slice (some ⟨g, o, none⟩) q.length cap ∧ q.length ≤ cap ∧ cap ≤ maxLen ∧ base ≤ g ∧ g < w.heap.size ∧
    (0 < cap → ∃ cur, w.heap[g]? = some (.cells cur e (0, 0)) ∧ cur.size = o + cap ∧ (cur.toList.drop o).take q.length = q.map (Value.int .i64))

section
variable {w w' : World} {base e : Nat} {v : Value} {q : List Int}
theorem QOwn.lit (w : World) (base e : Nat) (x : Int) (h : base ≤ w.heap.size) : QOwn (w.alloc (.cells #[.int .i64 x] e)) base e (.slice (some ⟨w.heap.size, 0, none⟩) 1 1) [x] :=
  ⟨w.heap.size, 0, 1, rfl, Nat.le_refl _, by simp [maxLen], h, by simp, fun _ => ⟨#[.int .i64 x], heap_alloc_new _ _, rfl, rfl⟩⟩
theorem QOwn.lt (h : QOwn w base e v q) : ∀ k, v.ownBlock = some k → base ≤ k ∧ k < w.heap.size := by
  obtain ⟨g, o, cap, rfl, _, _, hb, hl, _⟩ := h
  intro k hk
  simp [Value.ownBlock] at hk
  subst hk
  exact ⟨hb, hl⟩
theorem QOwn.kept {row : Option Nat} (h : QOwn w base e v q) (hg : w.grownBy w' row) (hne : ∀ k, v.ownBlock = some k → some k ≠ row) : QOwn w' base e v q := by
  obtain ⟨g, o, cap, rfl, h1, h2, h3, h4, h5⟩ := h
  refine ⟨g, o, cap, rfl, h1, h2, h3, Nat.lt_of_lt_of_le h4 hg.size, fun hc => ?_⟩
  obtain ⟨cur, hgg, r⟩ := h5 hc
  exact ⟨cur, (hg.block g h4 (hne g rfl)).trans hgg, r⟩
theorem QOwn.below (h : QOwn w base e v q) (hb : Below w.heap.size w w') : QOwn w' base e v q :=
  h.kept ⟨hb.os, hb.tape, hb.output, hb.size, fun i hi _ => hb.block i hi⟩ (row := none) (fun _ _ => by simp)
theorem QOwn.shape (h : QOwn w base e v q) : ∃ ao cap, v = .slice ao q.length cap ∧ cap ≤ maxLen ∧ q.length ≤ cap := by
  obtain ⟨g, o, cap, rfl, h1, h2, _⟩ := h
  exact ⟨_, _, rfl, h2, h1⟩
/-- the front -/
theorem QOwn.head {x : Int} {r : List Int} (h : QOwn w base e v (x :: r)) : ∃ g o cap, v = .slice (some ⟨g, o, none⟩) (r.length + 1) cap ∧ r.length + 1 ≤ cap ∧ cap ≤ maxLen ∧ g < w.heap.size ∧ w.cell? ⟨g, o, none⟩ = some (.int .i64 x) ∧
    QOwn w base e (.slice (some (if cap = 1 then ⟨g, o, none⟩ else ⟨g, o + 1, none⟩)) r.length (cap - 1)) r := by
  obtain ⟨g, o, cap, rfl, h1, h2, h3, h4, h5⟩ := h
  have hc : 0 < cap := by simp at h1; omega
  obtain ⟨cur, hgg, hsz, htk⟩ := h5 hc
  simp only [List.length_cons] at h1 htk
  refine ⟨g, o, cap, rfl, h1, h2, h4, ?_, ?_⟩
  · have e1 : (cur.toList.drop o)[0]? = some (.int .i64 x) := by
      have := congrArg (fun l => l[0]?) htk
      simp only [List.map_cons, List.getElem?_cons_zero] at this
      rw [List.getElem?_take, if_pos (by omega)] at this
      exact this
    rw [List.getElem?_drop, Nat.add_zero] at e1
    simp [World.cell?, hgg]
    simpa using e1
  · by_cases hc1 : cap = 1
    · subst hc1
      rw [if_pos rfl]
      exact ⟨g, o, 0, rfl, by omega, by simp [maxLen], h3, h4, fun h => absurd h (Nat.lt_irrefl _)⟩
    · rw [if_neg hc1]
      refine ⟨g, o + 1, cap - 1, rfl, by omega, by omega, h3, h4, fun _ => ⟨cur, hgg, by omega, ?_⟩⟩
      have := congrArg (List.drop 1) htk
      simp only [List.map_cons, List.drop_succ_cons, List.drop_zero] at this
      rw [List.drop_take, List.drop_drop] at this
      simpa using this
end

section
variable {P : Program} {w : World} {ops : Array Oper} {rest : List Oper} {o : Oper} {a : Act} {Q : Exit → Act → World → Prop}
theorem run_append_q (base : Nat) (t ty e : TypeId) (i : TypeInfo) (z : Value) (bytes : Nat) (ht : P.underlying t = some (.slice e)) (hi : P.info? e = some i) (hz : i.zero = some z)
    (hsize : i.size = 1) (hby : i.bytes = bytes) (hzs : z.cells.size = 1) (v : Value) (q : List Int) (hown : QOwn w base e v q)
    (ad : Addr) (c : Nat) (x : Int) (hx : w.cell? (ad.add 0) = some (.int .i64 x)) (h63 : q.length + 1 ≤ maxLen) (hbytes : (q.length + 1) * bytes ≤ 140737488355328) (hbase : base ≤ w.heap.size) :
    ∃ v' w', (Builtin.append_ #[t, t] ty #[v, .slice (some ad) 1 c]).run P w = .ok v' w' ∧ QOwn w' base e v' (q ++ [x]) ∧ w.grownBy w' v.ownBlock := by
  obtain ⟨g, o, cap, rfl, h1, h2, h3, h4, h5⟩ := hown
  have hm : q.length + 1 ≤ 9223372036854775807 := by simp only [maxLen] at h63; omega
  by_cases hroom : q.length + 1 ≤ cap
  · obtain ⟨cur, hgg, hsz, htk⟩ := h5 (by omega)
    have hr := run_append_room_at (P := P) w t ty e i ht hi hsize g o q.length cap cur hgg ad c _ hx rfl hroom (by omega)
    refine ⟨_, _, hr, ⟨g, o, cap, by simp, by simpa using hroom, h2, h3, by simpa using h4, fun _ => ⟨_, setRow_heap w g cur _ e _ hgg, ?_, ?_⟩⟩, ⟨rfl, rfl, rfl, by simp, fun k _ hk => setRow_other w g k _ (fun e => hk (by simp [Value.ownBlock, e]))⟩⟩
    · simp only [List.size_toArray, List.length_append, List.length_take, List.length_drop, Array.length_toList, List.length_singleton]
      omega
    · have e1 : (List.take (o + q.length) cur.toList).length = o + q.length := by simp; omega
      simp only [List.length_append, List.length_singleton, List.map_append, List.map_cons, List.map_nil]
      rw [List.append_assoc, List.drop_append_of_le_length (by rw [e1]; omega), List.drop_take, Nat.add_sub_cancel_left]
      have e2 : (List.take q.length (List.drop o cur.toList)).length = q.length := by simp; omega
      rw [List.take_append, e2, Nat.add_sub_cancel_left, List.take_of_length_le (by rw [e2]; omega), htk]
      simp
  · have holds : ∀ j u, (q.map (Value.int .i64))[j]? = some u → w.cell? ((⟨g, o, none⟩ : Addr).add j) = some u := by
      intro j u hj
      have hj' : j < q.length := by
        rcases Nat.lt_or_ge j q.length with h | h
        · exact h
        · rw [List.getElem?_eq_none (by simpa using h)] at hj; cases hj
      obtain ⟨cur, hgg, hsz, htk⟩ := h5 (by omega)
      rw [Addr.add_lit, cell_of_row w g (o + j) cur e (0, 0) hgg]
      rw [← htk, List.getElem?_take, if_pos hj', List.getElem?_drop] at hj
      simpa using hj
    have hr := run_append_grow (P := P) w t ty e i z ht hi hz ⟨g, o, none⟩ q.length cap (q.map (Value.int .i64)) (by simp [hsize]) holds ad 1 c [.int .i64 x] (by simp [hsize]) (by intro j u hj; cases j with | zero => simp at hj; subst hj; exact hx | succ j => simp at hj) (by omega) (by omega) (growslice_fits (by omega) (by rw [hby]; exact hbytes))
    have hge := grownCap_ge w (q.length + 1) cap e
    refine ⟨_, _, hr, ⟨w.heap.size, 0, _, by simp, by simpa using hge, grownCap_le_maxLen w _ cap e h63, hbase, by simp, fun _ => ⟨_, heap_alloc_new w.drew _, ?_, ?_⟩⟩, ⟨rfl, rfl, rfl, by simp, fun k hk _ => Below.heap_alloc w.drew _ k hk⟩⟩
    · simp only [Array.size_append, List.size_toArray, List.length_map, List.length_singleton, size_zeroCells, hzs]
      omega
    · simp only [List.length_append, List.length_singleton, Array.toList_append, List.drop_zero, List.map_append]
      rw [List.append_assoc, ← List.append_assoc]
      exact List.take_left' (by simp)

/-- 'q = append(q, x)' at the operation -/
theorem wpList_append_q (hgd : o.guard = none) (s x : Operand) (t : TypeId) (ho : o.op = .call { callee := .builtin .append, args := #[s, x], argTypes := #[t, t] })
    (base : Nat) (e : TypeId) (i : TypeInfo) (z : Value) (bytes : Nat) (ht : P.underlying t = some (.slice e)) (hi : P.info? e = some i) (hz : i.zero = some z)
    (hsize : i.size = 1) (hby : i.bytes = bytes) (hzs : z.cells.size = 1) (v : Value) (q : List Int) (hs : a.eval s = v) (hown : QOwn w base e v q)
    (ad : Addr) (c : Nat) (y : Int) (hx : a.eval x = .slice (some ad) 1 c) (hy : w.cell? (ad.add 0) = some (.int .i64 y)) (h63 : q.length + 1 ≤ maxLen) (hbytes : (q.length + 1) * bytes ≤ 140737488355328) (hbase : base ≤ w.heap.size)
    (h : ∀ v' w', QOwn w' base e v' (q ++ [y]) → w.grownBy w' v.ownBlock → wpList P ops Q rest (a.put o.dst v') w') : wpList P ops Q (o :: rest) a w := by
  refine wpList_plain hgd fun K hK => ?_
  obtain ⟨v', w', hr, h2, h3⟩ := run_append_q (P := P) base t o.type e i z bytes ht hi hz hsize hby hzs v q hown ad c y hy h63 hbytes hbase
  unfold Oper.wp execOp
  simp only [ho, resolve, invoke, builtin, Sem.run_bind, Sem.run_pure, Result.andThen_ok, List.map_toArray, List.map_cons, List.map_nil, hs, hx, hr]
  exact hK _ _ (h v' w' h2 h3)
end
end Sk
