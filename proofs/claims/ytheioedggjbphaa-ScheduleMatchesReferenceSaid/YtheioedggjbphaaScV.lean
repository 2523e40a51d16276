/-
  Walks of the layer 'schedule': the jobs in the order in which they are asked, one after the other; Clip; the library's sort as a premise.
-/
import Derived.Shelf.Abstract
import Derived.Deep.LoopGhost
import Derived.Deep.Cut
import Derived.ArgAppend
import Derived.Test.YtheioedggjbphaaScU
import Derived.Test.YtheioedggjbphaaRput
import Derived.Test.YtheioedggjbphaaAppIn
import Derived.LoopIn
set_option linter.unusedVariables false
namespace Sk
open Go Go.RowKit
section
variable {α : Type} {enc : α → List Value}
/-- 'append(in[:n:n], l...)', fenced: a new row -/
theorem wpListIn_append_new {F : Fence} {nF : Nat} {P : Program} {w : World} {ops : Array Oper} {rest : List Oper} {o : Oper} {a : Act} {Q : Exit → Act → World → Prop}
    (hgd : o.guard = none) (s x : Operand) (t : TypeId) (ho : o.op = .call { callee := .builtin .append, args := #[s, x], argTypes := #[t, t] })
    (e : TypeId) (i : TypeInfo) (z : Value) (size bytes : Nat) (ht : P.underlying t = some (.slice e)) (hi : P.info? e = some i) (hz : i.zero = some z)
    (hsize : i.size = size) (hby : i.bytes = bytes) (hzs : z.cells.size = size) (hsz : 0 < size) (hk : ∀ x, (enc x).length = size) (h1 : ∀ x, ∀ u ∈ enc x, u.oneCell' = true)
    (base : Nat) (v : Value) (ys : List α) (hown : OwnL w base e size enc v ys) (hs : a.eval s = (match v with | .slice ao n _ => .slice ao n n | u => u)) (ad : Addr) (m c : Nat) (l : List α) (hx : a.eval x = .slice (some ad) m c) (hsl : Sl w size enc (some ad) m c l) (hm0 : 0 < m)
    (h63 : ys.length + m ≤ maxLen) (hbytes : (ys.length + m) * bytes ≤ 140737488355328)
    (h : ∀ v' w', OwnL w' w.heap.size e size enc v' (ys ++ l) → Below w.heap.size w w' → wpListIn F nF P ops Q rest (a.put o.dst v') w') : wpListIn F nF P ops Q (o :: rest) a w := by
  have hm := hsl.len
  subst hm
  have hnews : ∀ j u, (l.flatMap enc)[j]? = some u → w.cell? (ad.add j) = some u := by
    intro j u hj
    have hl : l ≠ [] := by rintro rfl; simp at hj
    obtain ⟨b, off, e1, _, _⟩ := hsl.at_ hl
    simp only [Option.some.injEq] at e1
    subst e1
    exact hsl.flat hk rfl j u hj
  have hone : ∀ u ∈ l.flatMap enc, u.oneCell' = true := by
    intro u hu
    obtain ⟨y, _, hy⟩ := List.mem_flatMap.1 hu
    exact h1 y u hy
  refine wpListIn_plain hgd fun K hK' => ?_
  have key : ∃ v' w', (Builtin.append_ #[t, t] o.type #[a.eval s, .slice (some ad) l.length c]).run P w = .ok v' w' ∧ w'.ownsRow w.heap.size e size v' (ys.length + l.length) (ys.flatMap enc ++ l.flatMap enc) ∧ w.grownBy w' none := by
    rcases hown.2 with ⟨rfl, h0⟩ | ⟨g', cap, cur, rfl, hb, hg, hle, hmx, hcs, htk⟩
    · obtain rfl := List.eq_nil_of_length_eq_zero h0
      rw [hs]
      obtain ⟨v', w', hrun, r1, r2, _⟩ := run_append_own (P := P) w w.heap.size t o.type e i z size bytes ht hi hz hsize hby hzs hsz (.slice none 0 0) 0 [] (World.ownsRow_nil w _ e size) ad l.length c (l.flatMap enc) (flat_len hk l) hnews hone (by simpa using h63) (by simpa using hbytes) (Nat.le_refl _)
      exact ⟨v', w', hrun, by simpa using r1, r2⟩
    · rw [hs]
      have hcells : ∀ j u, (ys.flatMap enc)[j]? = some u → w.cell? ((⟨g', 0, none⟩ : Addr).add j) = some u := by
        intro j u hj
        rw [Addr.add_lit, Nat.zero_add]
        have hj2 : j < ys.length * size := by rw [← hown.1]; exact (List.getElem?_eq_some_iff.1 hj).1
        rw [World.ownsRow.cellAt hown j hj2]; exact hj
      obtain ⟨v', w', hrun, r1, r2⟩ := run_append_arg_grows (P := P) w t o.type e i z size bytes ht hi hz hsize hby hzs hsz ⟨g', 0, none⟩ ys.length ys.length (ys.flatMap enc) hown.1 hcells ad l.length c (l.flatMap enc) (flat_len hk l) hnews (by omega) h63 hbytes
      exact ⟨v', w', hrun, r1, r2⟩
  obtain ⟨v', w', hrun, r1, r2⟩ := key
  unfold Oper.wpIn
  refine ⟨?_, ?_⟩
  · simp [Oper.about, ho, resolve, Target.leads, Sem.run_pure]
  · rw [Oper.semAt_plain F _ _ (by rw [ho]; intro c hc'; cases hc')]
    rw [← hx] at hrun
    simp [execOp, ho, resolve, invoke, builtin, hrun, Result.andThen]
    refine hK' _ _ (h v' w' ?_ ⟨r2.os, r2.tape, r2.output, r2.size, fun k hk => r2.block k hk (fun e => by cases e)⟩)
    unfold OwnL
    rw [List.length_append, List.flatMap_append]
    exact r1
end
/-- what abides but for one block -/
structure KpBut (bm : Nat) (A B : World) : Prop where
  low : Below bm A B
  same : ∀ (k : Nat) (o : Obj), k ≠ bm → A.heap[k]? = some o → (o.isCells = true ∨ o.isWalk = true) → B.heap[k]? = some o
theorem KpBut.trans {bm : Nat} {A B C : World} (h : KpBut bm A B) (k : KpBut bm B C) : KpBut bm A C := ⟨h.low.trans k.low, fun i o hi ho hc => k.same i o hi (h.same i o hi ho hc) hc⟩
theorem KpBut.put {bm : Nat} (W : World) (l : Nat) (o o' : Obj) (hl : bm < l) (h : W.heap[l]? = some o) (hc : o.isCells = false) (hw : o.isWalk = false) : KpBut bm W (W.putObj l o') :=
  ⟨(Below.refl bm W).grown (grownBy_putObj' W l o') (by have := (Array.getElem?_eq_some_iff.1 h).1; omega) (fun k e => by cases e; omega), fun k o2 hk ho hcw => by
    by_cases hkl : k = l
    · subst hkl
      rw [h] at ho; cases ho
      rcases hcw with h1 | h1
      · rw [hc] at h1; cases h1
      · rw [hw] at h1; cases h1
    · rw [World.putObj_heap_other hkl]; exact ho⟩
theorem KpBut.of_grown {bm : Nat} {A B : World} (h : A.grownBy B (some bm)) (hb : bm < A.heap.size) : KpBut bm A B :=
  ⟨⟨h.os, h.tape, h.output, h.size, fun k hk => h.block k (by omega) (by simp; omega)⟩, fun k o hk ho _ => (h.block k (Array.getElem?_eq_some_iff.1 ho).1 (by simpa using hk)).trans ho⟩
theorem KpBut.box {bm : Nat} {A B : World} (h : KpBut bm A B) {b T : Nat} {cs : List Value} (hb : Box A b T cs) (hne : b ≠ bm) : Box B b T cs := h.same b _ hne hb (.inl rfl)
theorem KpBut.own {α : Type} {enc : α → List Value} {bm : Nat} {A B : World} {base e size : Nat} {v : Value} {ys : List α} (h : KpBut bm A B) (ho : OwnL A base e size enc v ys) (hb : bm < base) : OwnL B base e size enc v ys :=
  ⟨ho.1, ho.2.imp id (fun ⟨g, cap, cur, hv', hg, hgc, rest⟩ => ⟨g, cap, cur, hv', hg, h.same g _ (by omega) hgc (.inl rfl), rest⟩)⟩
theorem KpBut.refl (bm : Nat) (A : World) : KpBut bm A A := ⟨Below.refl _ _, fun _ _ _ h _ => h⟩
theorem grown_none {w w' : World} (h : Below w.heap.size w w') : w.grownBy w' none := ⟨h.os, h.tape, h.output, h.size, fun i hi _ => h.block i hi⟩
end Sk
namespace Go.Proofs.Ytheioedggjbphaa
open Go Go.RowKit Sc Sk Go.Sort Go.Shelf
theorem clip_any (ao : Option Addr) (n cap : Nat) (w : World) (h : n ≤ cap) (hc : cap ≤ maxLen) (h0 : ao = none → n = 0 ∧ cap = 0) : Calls Try.prog 48 #[.slice ao n cap] w (Ret w (.slice ao n n)) := by
  unfold maxLen at hc
  have hn : (n : Int) ≤ (cap : Int) := by omega
  go_enter Try.func48, Try.ntmps48
  cases ao with
  | none =>
    obtain ⟨rfl, rfl⟩ := h0 rfl
    go_wp2_with fail
    go_ret
    exact ⟨rfl, Below.refl _ _⟩
  | some a =>
    go_wp2_with fail
    go_ret
    exact ⟨rfl, Below.refl _ _⟩
attribute [local go_sem] Oper.semAt_some
abbrev eNn (i : Nat) : Array Value := #[.int .i64 (i : Int)]
set_option maxRecDepth 100000 in
set_option maxHeartbeats 8000000 in
theorem values1_wide (lid BL bm S base : Nat) (q : List Nat) (Px : Nat → Prop) (hPx : ∀ x ∈ q, Px x) (J : List Nat → World → Prop) (W : World)
    (hY : ∀ pre x W1, Px x → J pre W1 → pre.length < q.length → YieldAt Fence.wide (9 - 1) Try.prog lid (eNn x) W1 fun e W' => e = .returned (.bool true) ∧ J (pre ++ [x]) W' ∧ KpBut bm W1 W')
    (hBL : Box W BL 30 [.slice (some ⟨S, 0, none⟩) q.length q.length]) (ho : OwnL W base 3 1 cN (.slice (some ⟨S, 0, none⟩) q.length q.length) q) (hbb : bm < base) (hl : q.length ≤ 200) (h0 : J [] W) :
    CallsIn Fence.wide 9 Try.prog 71 #[.func (.yield lid) #[] #[], .pointer (some ⟨BL, 0, none⟩)] W fun e W' => (∃ v, e = .returned v) ∧ ∃ xs, xs = q ∧ J xs W' := by
  have hcap : (q.length : Int) ≤ 200 := by omega
  have HY := Lib.hid hY
  have HPX := Lib.hid hPx
  have HO := Lib.hid ho
  have x1 := hBL.c1
  clear hY ho hBL hPx
  refine callsIn_of_wp Try.func71 rfl trivial (wpIn_wide.2 ?_) rfl
  simp only [Try.ntmps71, List.size_toArray, List.length_cons, List.length_nil, Nat.reduceAdd, Nat.reduceSub, Array.replicate_succ, Array.replicate_zero, List.push_toArray, List.append_toArray, List.nil_append, List.cons_append]
  go_wp2_with fail
  clear x1
  go_loopw [7] (fun i wr => ∃ k : Nat, k ≤ q.length ∧ i = .int .i64 k ∧ Hid (J (q.take k) wr) ∧ Hid (KpBut bm W wr)) (fun i _ => q.length - (intOf i).toNat)
  case atStart => exact ⟨0, Nat.zero_le _, rfl, h0, KpBut.refl _ _⟩
  case round =>
    clear h0
    obtain ⟨k, hk, rfl, HJ0, HK⟩ := hrel
    by_cases hlt : k < q.length
    · have HSUC := Lib.hid (show q.take (k + 1) = q.take k ++ [q[k]] by rw [List.take_add_one, List.getElem?_eq_getElem hlt, Option.toList_some])
      have g_0 := (HK.out.own HO.out hbb).cellG cN_len (j := k) (i := 0) (List.getElem?_eq_getElem hlt) rfl
      simp only [Nat.mul_one, Nat.add_zero] at g_0
      have HYK := Lib.hid (HY.out (q.take k) q[k] wr (HPX.out _ (List.getElem_mem hlt)) HJ0.out (by rw [List.length_take]; omega))
      generalize q[k] = x at *
      obtain ⟨fn, tmps, assign, body, hy, hR⟩ := HYK.out
      have HRB := Lib.hid hR
      clear hR HYK
      go_upto_region 3 with (fail)
      refine (wpIn_wide (n := 9)).1 ?_
      gi_wp2_with fail
      refine HRB.out.mono ?_
      rintro e W3 ⟨rfl, hJ3, hk3⟩
      have HJ3 := Lib.hid hJ3
      have HK3 := Lib.hid (HK.out.trans hk3)
      clear hy hJ3 hk3 HRB g_0 HK
      gi_wp2
      try refine NoPanic.normal ?_
      go_wp2
      go_roundw
      case rel => exact ⟨k + 1, by omega, by go_num, (by show J _ _; rw [HSUC.out]; exact HJ3.out), HK3⟩
      case measure => simp [intOf] <;> omega
    · obtain rfl : k = q.length := by omega
      rw [List.take_length] at HJ0
      go_wp2_with fail
      go_end0
      exact ⟨⟨_, rfl⟩, q, rfl, HJ0.out⟩
theorem values1_seq (BL bm S base : Nat) (q : List Nat) (w : World) (Px : Nat → Prop) (hPx : ∀ x ∈ q, Px x)
    (hBL : Box w BL 30 [.slice (some ⟨S, 0, none⟩) q.length q.length]) (ho : OwnL w base 3 1 cN (.slice (some ⟨S, 0, none⟩) q.length q.length) q) (hbb : bm < base) (hl : q.length ≤ 200) :
    SeqPut Fence.wide 9 Try.prog 71 #[.pointer (some ⟨BL, 0, none⟩)] eNn Px (KpBut bm) (fun xs => xs = q) q.length w := fun l J W hW hY h0 =>
  values1_wide l BL bm S base q Px hPx J W hY (hBL.below hW) (ho.below hW) hbb hl h0
end Go.Proofs.Ytheioedggjbphaa
