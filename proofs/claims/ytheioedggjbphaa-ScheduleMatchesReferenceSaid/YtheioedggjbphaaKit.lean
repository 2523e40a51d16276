/-
  General words for the walks: rows of cells that read as a list, slices, contracts that leave what was there alone. No program in sight.
-/
import Derived.WalkKit
import Derived.Lib.Hide
import Derived.Shelf.Abstract
import Derived.Lib.OthersKept
namespace Sk
open Go Go.RowKit

theorem bnot_t {b : Bool} (h : (!b) = true) : b = false := by simpa using h
theorem bnot_f {b : Bool} (h : (!b) = false) : b = true := by simpa using h
theorem ret_bool {a b : Bool} (h : a = true ↔ b = true) : Ending.returned (.bool a) = .returned (.bool b) := by rw [Bool.eq_iff_iff.2 h]
theorem ret_bool' {a b : Bool} (h : a = b) : Ending.returned (.bool a) = .returned (.bool b) := by rw [h]
theorem ret_int {k : IntKind} {a b : Int} (h : a = b) : Ending.returned (.int k a) = .returned (.int k b) := by rw [h]

/-- What a call that makes memory of its own leaves of the old memory, read off as rules. -/
theorem bcell {W w1 : World} (hb : Below W.heap.size W w1) : (∀ b o, b < W.heap.size → w1.cell? ⟨b, o, none⟩ = W.cell? ⟨b, o, none⟩) ∧ (∀ b o, b < W.heap.size → w1.frozen? ⟨b, o, none⟩ = W.frozen? ⟨b, o, none⟩) :=
  ⟨fun b o h => hb.cell (p := ⟨b, o, none⟩) h, fun b o h => hb.frozen (p := ⟨b, o, none⟩) h⟩

/-- a contract's end: one value, and nothing that was there has turned -/
def Ret (w : World) (v : Value) (e : Ending) (w' : World) : Prop := e = .returned v ∧ Below w.heap.size w w'

section
variable {B : Nat} {w wc wa : World}
theorem after0 (h : Below w.heap.size w wc) (hb : Below wc.heap.size wc wa) : Below w.heap.size w wa := h.trans (hb.mono h.size)
theorem after1 {o : Obj} (h : Below w.heap.size w wc) (hb : Below (wc.alloc o).heap.size (wc.alloc o) wa) : Below w.heap.size w wa := after0 (h.alloc h.size o) hb
theorem after2 {o p : Obj} (h : Below w.heap.size w wc) (hb : Below ((wc.alloc o).alloc p).heap.size ((wc.alloc o).alloc p) wa) : Below w.heap.size w wa := after1 (h.alloc h.size o) hb
theorem after3 {o p q : Obj} (h : Below w.heap.size w wc) (hb : Below (((wc.alloc o).alloc p).alloc q).heap.size (((wc.alloc o).alloc p).alloc q) wa) : Below w.heap.size w wa := after2 (h.alloc h.size o) hb
theorem after4 {o p q r : Obj} (h : Below w.heap.size w wc) (hb : Below ((((wc.alloc o).alloc p).alloc q).alloc r).heap.size ((((wc.alloc o).alloc p).alloc q).alloc r) wa) : Below w.heap.size w wa := after3 (h.alloc h.size o) hb
theorem after5 {o p q r s : Obj} (h : Below w.heap.size w wc) (hb : Below (((((wc.alloc o).alloc p).alloc q).alloc r).alloc s).heap.size (((((wc.alloc o).alloc p).alloc q).alloc r).alloc s) wa) : Below w.heap.size w wa := after4 (h.alloc h.size o) hb
theorem grew1 {o : Obj} (h : Below w.heap.size w wc) : Below w.heap.size w (wc.alloc o) := h.alloc h.size o
theorem grew2 {o p : Obj} (h : Below w.heap.size w wc) : Below w.heap.size w ((wc.alloc o).alloc p) := grew1 (grew1 h)
theorem grew3 {o p q : Obj} (h : Below w.heap.size w wc) : Below w.heap.size w (((wc.alloc o).alloc p).alloc q) := grew1 (grew2 h)
theorem grew4 {o p q r : Obj} (h : Below w.heap.size w wc) : Below w.heap.size w ((((wc.alloc o).alloc p).alloc q).alloc r) := grew1 (grew3 h)
end

/-- the cells of block b from o on are cs -/
def Cells (w : World) (b o : Nat) (cs : List Value) : Prop := ∀ j v, cs[j]? = some v → w.cell? ⟨b, o + j, none⟩ = some v

theorem Cells.below {w w' : World} {B b o : Nat} {cs : List Value} (h : Cells w b o cs) (hb : Below B w w') (hB : b < B) : Cells w' b o cs :=
  fun j v hj => (hb.cell (p := ⟨b, o + j, none⟩) hB).trans (h j v hj)

theorem Cells.cons {w : World} {b o : Nat} {v : Value} {cs : List Value} (h : Cells w b o (v :: cs)) : w.cell? ⟨b, o, none⟩ = some v ∧ Cells w b (o + 1) cs :=
  ⟨h 0 v rfl, fun j u hj => by have := h (j + 1) u (by simpa using hj); rwa [show o + (j + 1) = o + 1 + j by omega] at this⟩
theorem Cells.mk_cons {w : World} {b o : Nat} {v : Value} {cs : List Value} (h : w.cell? ⟨b, o, none⟩ = some v) (h' : Cells w b (o + 1) cs) : Cells w b o (v :: cs) := by
  intro j u hj
  cases j with
  | zero => simp at hj; subst hj; exact h
  | succ j => have := h' j u (by simpa using hj); rwa [show o + 1 + j = o + (j + 1) by omega] at this
theorem Cells.nil {w : World} {b o : Nat} : Cells w b o [] := fun j v hj => by simp at hj

theorem Cells.c1 {w : World} {b o : Nat} {v0 : Value} (h : Cells w b o [v0]) : w.cell? ⟨b, o, none⟩ = some v0 := h.cons.1
theorem Cells.c2 {w : World} {b o : Nat} {v0 v1 : Value} (h : Cells w b o [v0, v1]) : w.cell? ⟨b, o, none⟩ = some v0 ∧ w.cell? ⟨b, o + 1, none⟩ = some v1 := ⟨h 0 _ rfl, h 1 _ rfl⟩
theorem Cells.c3 {w : World} {b o : Nat} {v0 v1 v2 : Value} (h : Cells w b o [v0, v1, v2]) :
    w.cell? ⟨b, o, none⟩ = some v0 ∧ w.cell? ⟨b, o + 1, none⟩ = some v1 ∧ w.cell? ⟨b, o + 2, none⟩ = some v2 := ⟨h 0 _ rfl, h 1 _ rfl, h 2 _ rfl⟩
theorem Cells.c4 {w : World} {b o : Nat} {v0 v1 v2 v3 : Value} (h : Cells w b o [v0, v1, v2, v3]) :
    w.cell? ⟨b, o, none⟩ = some v0 ∧ w.cell? ⟨b, o + 1, none⟩ = some v1 ∧ w.cell? ⟨b, o + 2, none⟩ = some v2 ∧ w.cell? ⟨b, o + 3, none⟩ = some v3 := ⟨h 0 _ rfl, h 1 _ rfl, h 2 _ rfl, h 3 _ rfl⟩
theorem Cells.c5 {w : World} {b o : Nat} {v0 v1 v2 v3 v4 : Value} (h : Cells w b o [v0, v1, v2, v3, v4]) :
    w.cell? ⟨b, o, none⟩ = some v0 ∧ w.cell? ⟨b, o + 1, none⟩ = some v1 ∧ w.cell? ⟨b, o + 2, none⟩ = some v2 ∧ w.cell? ⟨b, o + 3, none⟩ = some v3 ∧ w.cell? ⟨b, o + 4, none⟩ = some v4 :=
  ⟨h 0 _ rfl, h 1 _ rfl, h 2 _ rfl, h 3 _ rfl, h 4 _ rfl⟩

theorem cells_alloc (w : World) (cs : List Value) (T : Nat) : Cells (w.alloc (.cells cs.toArray T)) w.heap.size 0 cs := by
  intro j v hj
  rw [Nat.zero_add, World.cell?_alloc_new]
  simpa using hj

section
variable {P : Program} {ops : Array Oper} {Q : Exit → Act → World → Prop} {a : Act} {w : World} {rest : List Oper} {o : Oper}
/-- a literal of a struct or an array whose run is a closed fact -/
theorem wpList_lit (hg : o.guard = none) (t : TypeId) (ps : List (Nat × Operand)) (hop : o.op = .build t ps.toArray) (v : Value)
    (hrun : (Instr.build t (ps.map fun p => (p.1, a.eval p.2)).toArray).run P w = .ok v w) (hK : wpList P ops Q rest (a.put o.dst v) w) : wpList P ops Q (o :: rest) a w := by
  refine wpList_plain hg fun K hK' => ?_
  have hm : (ps.toArray.map fun (i, x) => (i, a.eval x)) = (ps.map fun p => (p.1, a.eval p.2)).toArray := by simp
  unfold Oper.wp
  simp only [execOp, hop, hm, Sem.run_bind, hrun, Result.andThen, Sem.run_pure, Oper.upon]
  exact hK' _ _ hK
/-- a boxed value whose run is a closed fact -/
theorem wpList_boxed (hg : o.guard = none) (t : TypeId) (x : Operand) (hop : o.op = .box t x) (v : Value) {w' : World}
    (hrun : (Instr.box t (a.eval x)).run P w = .ok v w') (hK : wpList P ops Q rest (a.put o.dst v) w') : wpList P ops Q (o :: rest) a w := by
  refine wpList_plain hg fun K hK' => ?_
  unfold Oper.wp
  simp only [execOp, hop, Sem.run_bind, hrun, Result.andThen, Sem.run_pure, Oper.upon]
  exact hK' _ _ hK
end

/-- block b is a row of cells that holds cs, none of them frozen -/
def Box (w : World) (b T : Nat) (cs : List Value) : Prop := w.heap[b]? = some (.cells cs.toArray T (0, 0))

theorem Box.lt {w : World} {b T : Nat} {cs : List Value} (h : Box w b T cs) : b < w.heap.size := (Array.getElem?_eq_some_iff.1 h).1
theorem Box.below {w w' : World} {b T : Nat} {cs : List Value} (h : Box w b T cs) (hb : Below w.heap.size w w') : Box w' b T cs := (hb.block b h.lt).trans h
theorem Box.new (w : World) (cs : List Value) (T : Nat) : Box (w.alloc (.cells cs.toArray T)) w.heap.size T cs := by unfold Box; rw [heap_alloc_new]
theorem Box.alloc {w : World} {b T : Nat} {cs : List Value} (h : Box w b T cs) (o : Obj) : Box (w.alloc o) b T cs := (Below.heap_alloc w o b h.lt).trans h
theorem Box.cell {w : World} {b T : Nat} {cs : List Value} (h : Box w b T cs) {j : Nat} {v : Value} (hj : cs[j]? = some v) : w.cell? ⟨b, j, none⟩ = some v := by
  unfold Box at h
  simp [World.cell?, h, hj]
theorem Box.frozen {w : World} {b T : Nat} {cs : List Value} (h : Box w b T cs) (j : Nat) : w.frozen? ⟨b, j, none⟩ = false := by
  unfold Box at h
  simp [World.frozen?, h]
theorem Box.set {w : World} {b T : Nat} {cs : List Value} (h : Box w b T cs) (j : Nat) (v : Value) : Box (w.setCell ⟨b, j, none⟩ v) b T (cs.set j v) := by
  unfold Box at h ⊢
  obtain ⟨hlt, he⟩ := Array.getElem?_eq_some_iff.1 h
  simp only [World.setCell]
  rw [Array.getElem?_eq_getElem (by rw [Array.size_modify]; exact hlt), Array.getElem_modify_self, he]
  simp
theorem Box.other {w : World} {b T b' j : Nat} {cs : List Value} {v : Value} (h : Box w b T cs) (hne : b ≠ b') : Box (w.setCell ⟨b', j, none⟩ v) b T cs :=
  (Below.heap_setCell w ⟨b', j, none⟩ v b hne).trans h
theorem Box.drew {w : World} {b T : Nat} {cs : List Value} (h : Box w b T cs) : Box w.drew b T cs := h
theorem Box.iterAt {w : World} {b T : Nat} {cs : List Value} (h : Box w b T cs) {k : Nat} (hk : b ≠ k) (s : ByteArray) (p : Nat) : Box (w.iterAt k s p) b T cs := (Lib.iterAt_other w k b s p hk).trans h
theorem Box.cells {w : World} {b T : Nat} {cs : List Value} (h : Box w b T cs) : Cells w b 0 cs := fun j v hj => by rw [Nat.zero_add]; exact h.cell hj

section
variable {w : World} {b T : Nat} {v0 v1 v2 v3 v4 v5 v6 v7 v8 v9 : Value}
theorem Box.c1 (h : Box w b T [v0]) : w.cell? ⟨b, 0, none⟩ = some v0 := h.cell rfl
theorem Box.c2 (h : Box w b T [v0, v1]) : w.cell? ⟨b, 0, none⟩ = some v0 ∧ w.cell? ⟨b, 1, none⟩ = some v1 := ⟨h.cell rfl, h.cell rfl⟩
theorem Box.c3 (h : Box w b T [v0, v1, v2]) : w.cell? ⟨b, 0, none⟩ = some v0 ∧ w.cell? ⟨b, 1, none⟩ = some v1 ∧ w.cell? ⟨b, 2, none⟩ = some v2 := ⟨h.cell rfl, h.cell rfl, h.cell rfl⟩
theorem Box.c4 (h : Box w b T [v0, v1, v2, v3]) : w.cell? ⟨b, 0, none⟩ = some v0 ∧ w.cell? ⟨b, 1, none⟩ = some v1 ∧ w.cell? ⟨b, 2, none⟩ = some v2 ∧ w.cell? ⟨b, 3, none⟩ = some v3 := ⟨h.cell rfl, h.cell rfl, h.cell rfl, h.cell rfl⟩
theorem Box.c5 (h : Box w b T [v0, v1, v2, v3, v4]) : w.cell? ⟨b, 0, none⟩ = some v0 ∧ w.cell? ⟨b, 1, none⟩ = some v1 ∧ w.cell? ⟨b, 2, none⟩ = some v2 ∧ w.cell? ⟨b, 3, none⟩ = some v3 ∧ w.cell? ⟨b, 4, none⟩ = some v4 :=
  ⟨h.cell rfl, h.cell rfl, h.cell rfl, h.cell rfl, h.cell rfl⟩
theorem Box.c6 (h : Box w b T [v0, v1, v2, v3, v4, v5]) : w.cell? ⟨b, 0, none⟩ = some v0 ∧ w.cell? ⟨b, 1, none⟩ = some v1 ∧ w.cell? ⟨b, 2, none⟩ = some v2 ∧ w.cell? ⟨b, 3, none⟩ = some v3 ∧ w.cell? ⟨b, 4, none⟩ = some v4 ∧ w.cell? ⟨b, 5, none⟩ = some v5 :=
  ⟨h.cell rfl, h.cell rfl, h.cell rfl, h.cell rfl, h.cell rfl, h.cell rfl⟩
end

/-- one, two, three blocks laid at a call's beginning (its boxed parameters) -/
theorem boxes1 (w : World) (cs : List Value) (T : Nat) : ∃ W, w.alloc (.cells cs.toArray T) = W ∧ Below w.heap.size w W ∧ W.heap.size = w.heap.size + 1 ∧ Box W w.heap.size T cs :=
  ⟨_, rfl, grew1 (Below.refl _ _), by simp, Box.new _ _ _⟩
theorem boxes2 (w : World) (cs ds : List Value) (T U : Nat) : ∃ W, (w.alloc (.cells cs.toArray T)).alloc (.cells ds.toArray U) = W ∧ Below w.heap.size w W ∧ W.heap.size = w.heap.size + 2 ∧ Box W w.heap.size T cs ∧ Box W (w.heap.size + 1) U ds := by
  refine ⟨_, rfl, grew2 (Below.refl _ _), by simp, (Box.new _ _ _).alloc _, ?_⟩
  have := Box.new (w.alloc (.cells cs.toArray T)) ds U
  rwa [World.size_alloc] at this
theorem boxes3 (w : World) (cs ds es : List Value) (T U V : Nat) : ∃ W, ((w.alloc (.cells cs.toArray T)).alloc (.cells ds.toArray U)).alloc (.cells es.toArray V) = W ∧ Below w.heap.size w W ∧ W.heap.size = w.heap.size + 3 ∧
    Box W w.heap.size T cs ∧ Box W (w.heap.size + 1) U ds ∧ Box W (w.heap.size + 2) V es := by
  refine ⟨_, rfl, grew3 (Below.refl _ _), by simp, ((Box.new _ _ _).alloc _).alloc _, ?_, ?_⟩
  · have := (Box.new (w.alloc (.cells cs.toArray T)) ds U).alloc (.cells es.toArray V)
    rwa [World.size_alloc] at this
  · have := Box.new ((w.alloc (.cells cs.toArray T)).alloc (.cells ds.toArray U)) es V
    rwa [World.size_alloc, World.size_alloc] at this

section
variable {α : Type}

/-- block b holds the list l from off on, k cells an element -/
def Row (w : World) (k : Nat) (enc : α → List Value) (b off : Nat) (l : List α) : Prop := ∀ i (h : i < l.length), Cells w b (off + i * k) (enc l[i])

theorem Row.below {w w' : World} {B k b off : Nat} {enc : α → List Value} {l : List α} (h : Row w k enc b off l) (hb : Below B w w') (hB : b < B) : Row w' k enc b off l :=
  fun i hi => (h i hi).below hb hB

/-- a slice's parts (address, length, capacity) read as the list l -/
structure Sl (w : World) (k : Nat) (enc : α → List Value) (ao : Option Addr) (len cap : Nat) (l : List α) : Prop where
  len : l.length = len
  le : l.length ≤ cap
  max : cap ≤ maxLen
  none : ao = none → cap = 0
  at_ : l ≠ [] → ∃ b off, ao = some ⟨b, off, Option.none⟩ ∧ b < w.heap.size ∧ Row w k enc b off l

theorem Sl.below {w w' : World} {k : Nat} {enc : α → List Value} {ao : Option Addr} {len cap : Nat} {l : List α} (h : Sl w k enc ao len cap l) (hb : Below w.heap.size w w') : Sl w' k enc ao len cap l :=
  ⟨h.len, h.le, h.max, h.none, fun hl => by
    obtain ⟨b, off, h1, h2, h3⟩ := h.at_ hl
    exact ⟨b, off, h1, Nat.lt_of_lt_of_le h2 hb.size, h3.below hb h2⟩⟩

theorem Sl.get {w : World} {k : Nat} {enc : α → List Value} {ao : Option Addr} {len cap : Nat} {l : List α} (h : Sl w k enc ao len cap l) {i : Nat} (hi : i < l.length) :
    ∃ b off, ao = some ⟨b, off, Option.none⟩ ∧ b < w.heap.size ∧ Row w k enc b off l :=
  h.at_ (fun e => by rw [e] at hi; simp at hi)

theorem Sl.nil {w : World} {k : Nat} {enc : α → List Value} : Sl w k enc Option.none 0 0 ([] : List α) :=
  ⟨rfl, Nat.le_refl _, Nat.zero_le _, fun _ => rfl, fun h => (h rfl).elim⟩

theorem Row.take {w : World} {k b off : Nat} {enc : α → List Value} {l : List α} (h : Row w k enc b off l) (n : Nat) : Row w k enc b off (l.take n) := by
  intro i hi
  have hi' : i < l.length := by simp at hi; omega
  have := h i hi'
  simpa using this

theorem Row.drop {w : World} {k b off : Nat} {enc : α → List Value} {l : List α} (h : Row w k enc b off l) (n : Nat) : Row w k enc b (off + n * k) (l.drop n) := by
  intro i hi
  have hi' : n + i < l.length := by simp at hi; omega
  have := h (n + i) hi'
  rw [Nat.add_mul, ← Nat.add_assoc] at this
  simpa using this

/-- 'l[:n]' -/
theorem Sl.take {w : World} {k : Nat} {enc : α → List Value} {ao : Option Addr} {len cap : Nat} {l : List α} (h : Sl w k enc ao len cap l) {n : Nat} (hn : n ≤ l.length) : Sl w k enc ao n cap (l.take n) :=
  ⟨by simp; omega, by have := h.le; simp; omega, h.max, h.none, fun hl => by
    obtain ⟨b, off, h1, h2, h3⟩ := h.at_ (fun e => by subst e; simp at hl)
    exact ⟨b, off, h1, h2, h3.take n⟩⟩

/-- 'l[n:]' at an address that is right where something is left -/
theorem Sl.drop {w : World} {k : Nat} {enc : α → List Value} {ao : Option Addr} {len cap : Nat} {l : List α} (h : Sl w k enc ao len cap l) {n m c : Nat} (_hn : n ≤ l.length) (hm : m = l.length - n) (hc : c = cap - n) {ao' : Option Addr}
    (h0 : ao' = Option.none → ao = Option.none) (h1 : ∀ b off, ao = some ⟨b, off, Option.none⟩ → n < cap → ao' = some ⟨b, off + n * k, Option.none⟩) : Sl w k enc ao' m c (l.drop n) := by
  subst hm hc
  refine ⟨by simp, by have := h.le; simp; omega, by have := h.max; omega, fun e => by have := h.none (h0 e); omega, fun hl => ?_⟩
  have hlt : n < l.length := by
    rcases Nat.lt_or_ge n l.length with h | h
    · exact h
    · exact (hl (List.drop_eq_nil_of_le h)).elim
  obtain ⟨b, off, h2, h3, h4⟩ := h.get hlt
  exact ⟨b, off + n * k, h1 b off h2 (by have := h.le; omega), h3, h4.drop n⟩

/-- .. as the walk has it: the capacity ends there, or it does not -/
theorem Sl.dropEnd {w : World} {k : Nat} {enc : α → List Value} {a : Addr} {len cap : Nat} {l : List α} (h : Sl w k enc (some a) len cap l) {n : Nat} (hn : n ≤ l.length) (hc : cap = n) {a' : Addr} : Sl w k enc (some a') (l.length - n) 0 (l.drop n) :=
  h.drop hn rfl (by omega) (by simp) (fun _ _ _ hlt => by omega)
theorem Sl.dropMid {w : World} {k : Nat} {enc : α → List Value} {b off : Nat} {len cap : Nat} {l : List α} (h : Sl w k enc (some ⟨b, off, Option.none⟩) len cap l) {n : Nat} (hn : n ≤ l.length) : Sl w k enc (some ⟨b, off + n * k, Option.none⟩) (l.length - n) (cap - n) (l.drop n) :=
  h.drop hn rfl rfl (by simp) (fun b' off' e _ => by simp only [Option.some.injEq, Addr.mk.injEq] at e; obtain ⟨rfl, rfl, _⟩ := e; rfl)

/-- the first place at which p holds, or -1 -/
def fIdx (p : α → Bool) (l : List α) : Int := match l.findIdx? p with | some i => (i : Int) | none => -1
theorem fIdx_some {p : α → Bool} {l : List α} {i : Nat} (h : l.findIdx? p = some i) : fIdx p l = i := by simp [fIdx, h]
theorem fIdx_none {p : α → Bool} {l : List α} (h : l.findIdx? p = none) : fIdx p l = -1 := by simp [fIdx, h]
theorem fIdx_hit {p : α → Bool} {l : List α} {k : Nat} (hk : k < l.length) (hp : p l[k] = true) (hn : ∀ j (h : j < l.length), j < k → p l[j] = false) : fIdx p l = k :=
  fIdx_some (by rw [List.findIdx?_eq_some_iff_getElem]; exact ⟨hk, hp, fun j hj => by simp [hn j (by omega) hj]⟩)
theorem fIdx_miss {p : α → Bool} {l : List α} (hn : ∀ j (h : j < l.length), p l[j] = false) : fIdx p l = -1 :=
  fIdx_none (by rw [List.findIdx?_eq_none_iff]; intro x hx; obtain ⟨j, hj, rfl⟩ := List.getElem_of_mem hx; exact hn j hj)
theorem any_fIdx {p : α → Bool} {l : List α} : (l.any p = true) ↔ 0 ≤ fIdx p l := by
  cases h : l.findIdx? p with
  | none =>
    rw [fIdx_none h]
    rw [List.findIdx?_eq_none_iff] at h
    simp; exact h
  | some i =>
    rw [fIdx_some h]
    obtain ⟨hi, hpi, _⟩ := List.findIdx?_eq_some_iff_getElem.1 h
    simp; exact ⟨_, List.getElem_mem hi, hpi⟩

/-- what a function value that answers a question about an element does -/
def Asks (P : Program) (g : Nat) (lb : Array Value) (enc : α → Value) (p : α → Bool) (l : List α) (w : World) : Prop :=
  ∀ w' x, Below w.heap.size w w' → x ∈ l → Calls P g (#[enc x] ++ lb) w' (Ret w' (.bool (p x)))

end
end Sk
