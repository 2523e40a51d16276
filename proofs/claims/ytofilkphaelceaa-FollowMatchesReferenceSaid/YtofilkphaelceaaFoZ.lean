/-
  A map of sets; how many numbers a set has at most; what comes before a step, by what comes before its own.
-/
import Derived.Test.YtofilkphaelceaaFoG
import Derived.Test.YtofilkphaelceaaFoY
set_option linter.unusedVariables false
namespace Fo
theorem Rch.trans {l : List St} {D : List Int} {n a x : Int} (h1 : Rch l D n a) (h2 : Rch l D a x) : Rch l D n x := by
  induction h2 with
  | one hf ha hd => exact .more h1 hf ha hd
  | more _ hf ha hd ih => exact .more ih hf ha hd
theorem rch_step {l : List St} (hv : VOk l) {n x : Int} {s : St} (hf : findS l n = some s) : Rch l [] n x ↔ (x ∈ s.af ∨ ∃ a ∈ s.af, Rch l [] a x) := by
  constructor
  · intro h
    induction h with
    | one hf' ha _ => rw [hf] at hf'; cases hf'; exact .inl ha
    | more _ hf' ha hd ih =>
      rcases ih with h1 | ⟨a, h1, h2⟩
      · exact .inr ⟨_, h1, .one hf' ha hd⟩
      · exact .inr ⟨a, h1, .more h2 hf' ha hd⟩
  · rintro (h | ⟨a, h1, h2⟩)
    · exact .one hf h rfl
    · exact (Rch.one hf h1 rfl).trans h2
/-- the numbers before a step, as a test -/
def ahd (l : List St) (n x : Int) : Bool := (missF l [] n).contains x
theorem ahd_iff {l : List St} (hv : VOk l) {n x : Int} : ahd l n x = true ↔ Rch l [] n x := by
  unfold ahd
  rw [List.contains_eq_mem, decide_eq_true_eq, miss_iff hv]
end Fo
namespace Go.Proofs.Ytofilkphaelceaa
open Go Go.RowKit Fo Sk Go.Sort

def litInt : Lit → Int
  | .int _ a => a
  | _ => 0
/-- a set whose numbers lie in a list has no more of them -/
theorem SetOf.tight {w : World} {b n : Nat} {S : Int → Bool} (h : SetOf w b n S) (L : List Int) (hL : ∀ x, I64 x → S x = true → x ∈ L) : SetOf w b L.length S := by
  obtain ⟨D, ⟨es, clock, hb, F, hs, rfl⟩, h2, h3⟩ := h
  have hkey : ∀ x ∈ es.toList, ∃ a, (WideElems.rg Try.prog 3 (plainElem (H := Unit) Try.prog 4) x).1 = .int .i64 a ∧ I64 a := by
    intro x hx
    obtain ⟨y, hy⟩ := F.reads x hx
    rw [WideElems.rg_of hy]
    obtain ⟨a, _, e, h⟩ := key_int_inv (WideElems.rd_key hy)
    exact ⟨a, e, h⟩
  have hnd : (es.toList.map fun x => litInt (WideElems.rg Try.prog 3 (plainElem (H := Unit) Try.prog 4) x).1).Nodup := by
    have h1 := Maps.fit_apart lawI F
    rw [List.pairwise_map] at h1
    unfold List.Nodup
    rw [List.pairwise_map]
    refine h1.imp_of_mem ?_
    intro x y hx hy hne he
    obtain ⟨a, ea, _⟩ := hkey x hx
    obtain ⟨c, ec, _⟩ := hkey y hy
    rw [ea, ec] at he hne
    exact hne (by rw [show a = c from he])
  have hsub : ∀ a ∈ es.toList.map fun x => litInt (WideElems.rg Try.prog 3 (plainElem (H := Unit) Try.prog 4) x).1, a ∈ L := by
    intro a ha
    obtain ⟨x, hx, rfl⟩ := List.mem_map.1 ha
    obtain ⟨a, ea, h64⟩ := hkey x hx
    rw [ea]
    refine hL a h64 ?_
    rw [← h2 a h64]
    unfold Maps.has
    rw [List.any_eq_true]
    refine ⟨_, mem_sorted.2 (List.mem_map.2 ⟨x, hx, rfl⟩), ?_⟩
    rw [ea]
    exact WideAt.sameKey_self (kli _)
  have hle := nodup_len _ L hnd hsub
  exact ⟨_, ⟨es, clock, hb, F, by simpa using hle, rfl⟩, h2, h3⟩

/-- how a value of a map of sets reads -/
def mapElem (v : Value) : Option (DataW Unit × List MemPlace) :=
  match v with
  | .map (some b) => some (.lit (.int .i64 (b : Int)), [])
  | .map none => some (.lit (.bool false), [])
  | _ => none
theorem mapElem_inv {v : Value} {b : Nat} {ps : List MemPlace} (h : mapElem v = some (.lit (.int .i64 (b : Int)), ps)) : v = .map (some b) := by
  unfold mapElem at h
  split at h
  · simp at h; rw [Int.ofNat_inj.1 h.1]
  · simp at h
  · cases h
theorem zeroM (w : World) : (zeroValue 52).run Try.prog w = .ok (.map none) w := by kernel_rfl
/-- block c is a map from numbers to sets: number x leads to the map at block f x -/
def MapOf (w : World) (c n : Nat) (f : Int → Option Nat) : Prop :=
  ∃ D : DataW Unit, w.ownsMap Try.prog 3 mapElem c n D ∧ ∀ x, I64 x → D.atKey (.int .i64 x) (.lit (.bool false)) = match f x with | some b => .lit (.int .i64 (b : Int)) | none => .lit (.bool false)
theorem MapOf.made (w : World) : MapOf (w.alloc (.map #[] 0)) w.heap.size 0 (fun _ => none) := ⟨.map [], World.ownsMap_made _ _ _ _, fun x _ => rfl⟩
section
variable {w w' : World} {c n : Nat} {f : Int → Option Nat}
theorem MapOf.lt (h : MapOf w c n f) : c < w.heap.size := by obtain ⟨D, h, _⟩ := h; exact h.lt
theorem MapOf.mono (h : MapOf w c n f) {n' : Nat} (hn : n ≤ n') : MapOf w c n' f := by obtain ⟨D, h, r⟩ := h; exact ⟨D, h.mono hn, r⟩
theorem MapOf.kept {row : Option Nat} (h : MapOf w c n f) (hg : w.grownBy w' row) (hne : some c ≠ row) : MapOf w' c n f := by obtain ⟨D, h, r⟩ := h; exact ⟨D, h.kept hg hne, r⟩
theorem MapOf.below (h : MapOf w c n f) (hb : Below w.heap.size w w') : MapOf w' c n f := h.kept ⟨hb.os, hb.tape, hb.output, hb.size, fun i hi _ => hb.block i hi⟩ (row := none) (by simp)
theorem MapOf.alloc (h : MapOf w c n f) (o : Obj) : MapOf (w.alloc o) c n f := by obtain ⟨D, h, r⟩ := h; exact ⟨D, h.alloc o, r⟩
theorem MapOf.congr (h : MapOf w c n f) {f' : Int → Option Nat} (e : ∀ x, I64 x → f x = f' x) : MapOf w c n f' := by
  obtain ⟨D, h, r⟩ := h
  exact ⟨D, h, fun x hx => by rw [r x hx, e x hx]⟩
theorem MapOf.look (h : MapOf w c n f) {x : Int} (hx : I64 x) {b : Nat} (hv : f x = some b) : (Instr.lookup 66 (.map (some c)) (.int .i64 x) false).run Try.prog w = .ok (.map (some b)) w := by
  obtain ⟨D, h, r⟩ := h
  obtain ⟨u, ps, hrun, hu⟩ := h.lookup lawI Try.underlying66 (zeroM w) (zd := .lit (.bool false)) (zp := []) rfl (keyI hx)
  rw [r x hx, hv] at hu
  rw [mapElem_inv hu] at hrun
  exact hrun
end
section
variable {w : World} {ops : Array Oper} {rest : List Oper} {o : Oper} {a : Act} {Q : Exit → Act → World → Prop}
/-- 'm[x] = s' -/
theorem wpList_put_map (hg : o.guard = none) (m x v : Operand) (hop : o.op = Op.mapUpdate 66 m x v) (c n : Nat) (f : Int → Option Nat)
    (hm : a.eval m = .map (some c)) (h : MapOf w c n f) (hn : n < maxLen) (y : Int) (b : Nat) (hx : a.eval x = .int .i64 y) (hv : a.eval v = .map (some b)) (hy : I64 y)
    (hK : ∀ w', MapOf w' c (n + 1) (fun z => if z = y then some b else f z) → w.grownBy w' (some c) → wpList Try.prog ops Q rest (a.put o.dst undef) w') :
    wpList Try.prog ops Q (o :: rest) a w := by
  obtain ⟨D, h1, h3⟩ := h
  have hD := h1.isMap
  refine wpList_mapUpdate_own w hg m x v 66 hop 3 52 lawI Try.underlying66 _ c n D hm h1 hn _ _ _ hx hv (keyI hy) (.lit (.int .i64 (b : Int))) [] rfl ?_
  intro w' h4 h5
  refine hK w' ⟨_, h4, fun z hz => ?_⟩ h5
  by_cases e : z = y
  · subst e
    rw [Maps.atKey_put_same hD (kli _)]
    simp
  · rw [Maps.atKey_put_other (by simp; omega), h3 z hz]
    simp [e]
end
end Go.Proofs.Ytofilkphaelceaa
