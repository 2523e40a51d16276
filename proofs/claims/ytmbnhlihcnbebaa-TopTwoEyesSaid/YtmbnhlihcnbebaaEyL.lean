/-
  Walks of the layer 'eyes': the acts until a time, one after the other.
-/
import Derived.Shelf.Abstract
import Derived.Deep.LoopGhost
import Derived.Deep.Cut
import Derived.Test.YtmbnhlihcnbebaaEyK
import Derived.Test.YtmbnhlihcnbebaaRange
import Derived.Test.YtmbnhlihcnbebaaRall
set_option linter.unusedVariables false
namespace Ey
theorem until_stop {l : List Ac} {t : Int} {k : Nat} (hk : k < l.length) (h : ∀ i (h : i < l.length), i < k → l[i].time ≤ t) (hs : t < l[k].time) : untilL l t = l.take k := by
  unfold untilL
  induction l generalizing k with
  | nil => simp at hk
  | cons a l ih =>
    cases k with
    | zero =>
      have : ¬ a.time ≤ t := by simpa using hs
      rw [List.takeWhile_cons, if_neg (by simpa using this)]; rfl
    | succ k =>
      have h0 := h 0 (by simp) (Nat.succ_pos _)
      rw [List.takeWhile_cons, if_pos (by simpa using h0), List.take_succ_cons, ih (k := k) (by simpa using hk) (fun i hi hik => by have := h (i + 1) (by simpa using hi) (by omega); simpa using this) (by simpa using hs)]
theorem until_all {l : List Ac} {t : Int} (h : ∀ i (h : i < l.length), l[i].time ≤ t) : untilL l t = l := by
  unfold untilL
  induction l with
  | nil => rfl
  | cons a l ih =>
    have h0 := h 0 (by simp)
    rw [List.takeWhile_cons, if_pos (by simpa using h0), ih (fun i hi => by have := h (i + 1) (by simpa using hi); simpa using this)]
end Ey
namespace Go.Proofs.Ytmbnhlihcnbebaa
open Go Go.RowKit Ey Sk Go.Sort Go.Shelf
/-- what abides but for one block -/
structure KpBut (bm : Nat) (A B : World) : Prop where
  low : Below bm A B
  same : ∀ (k : Nat) (o : Obj), k ≠ bm → A.heap[k]? = some o → (o.isCells = true ∨ o.isWalk = true) → B.heap[k]? = some o
theorem KpBut.trans {bm : Nat} {A B C : World} (h : KpBut bm A B) (k : KpBut bm B C) : KpBut bm A C := ⟨h.low.trans k.low, fun i o hi ho hc => k.same i o hi (h.same i o hi ho hc) hc⟩
theorem KpBut.put {bm : Nat} (W : World) (l : Nat) (o o' : Obj) (hl : bm < l) (h : W.heap[l]? = some o) (hc : o.isCells = false) (hw : o.isWalk = false) : KpBut bm W (W.putObj l o') :=
  ⟨(Below.refl bm W).grown (grownBy_putObj' W l o') (by have := (Array.getElem?_eq_some_iff.1 h).1; omega) (fun k e => by cases e; omega), fun k o2 hk ho hcw => by
    by_cases hkl : k = l
    · subst hkl
      rw [h] at ho; cases ho
      rcases hcw with h1 | h1
      · rw [hc] at h1; cases h1
      · rw [hw] at h1; cases h1
    · rw [World.putObj_heap_other hkl]; exact ho⟩
theorem KpBut.of_grown {bm : Nat} {A B : World} (h : A.grownBy B (some bm)) (hb : bm < A.heap.size) : KpBut bm A B :=
  ⟨⟨h.os, h.tape, h.output, h.size, fun k hk => h.block k (by omega) (by simp; omega)⟩, fun k o hk ho _ => (h.block k (Array.getElem?_eq_some_iff.1 ho).1 (by simpa using hk)).trans ho⟩
theorem KpBut.box {bm : Nat} {A B : World} (h : KpBut bm A B) {b T : Nat} {cs : List Value} (hb : Box A b T cs) (hne : b ≠ bm) : Box B b T cs := h.same b _ hne hb (.inl rfl)
theorem grown_none {w w' : World} (h : Below w.heap.size w w') : w.grownBy w' none := ⟨h.os, h.tape, h.output, h.size, fun i hi _ => h.block i hi⟩
/-- what abides but for the blocks from lo to before hi -/
structure KpR (lo hi : Nat) (A B : World) : Prop where
  low : Below lo A B
  same : ∀ (k : Nat) (o : Obj), hi ≤ k → A.heap[k]? = some o → (o.isCells = true ∨ o.isWalk = true) → B.heap[k]? = some o
theorem KpR.trans {lo hi : Nat} {A B C : World} (h : KpR lo hi A B) (k : KpR lo hi B C) : KpR lo hi A C := ⟨h.low.trans k.low, fun i o hi ho hc => k.same i o hi (h.same i o hi ho hc) hc⟩
theorem KpR.put {lo hi : Nat} (W : World) (l : Nat) (o o' : Obj) (hl : lo ≤ l) (h : W.heap[l]? = some o) (hc : o.isCells = false) (hw : o.isWalk = false) : KpR lo hi W (W.putObj l o') :=
  ⟨(Below.refl lo W).grown (grownBy_putObj' W l o') (by have := (Array.getElem?_eq_some_iff.1 h).1; omega) (fun k e => by cases e; omega), fun k o2 hk ho hcw => by
    by_cases hkl : k = l
    · subst hkl
      rw [h] at ho; cases ho
      rcases hcw with h1 | h1
      · rw [hc] at h1; cases h1
      · rw [hw] at h1; cases h1
    · rw [World.putObj_heap_other hkl]; exact ho⟩
theorem KpR.of_grown {lo hi : Nat} {A B : World} {row : Option Nat} (h : A.grownBy B row) (hr : ∀ r, row = some r → lo ≤ r ∧ r < hi) (hs : lo ≤ A.heap.size) : KpR lo hi A B :=
  ⟨(Below.refl lo A).grown h hs (fun j e => (hr j e).1), fun k o hk ho _ => (h.block k (Array.getElem?_eq_some_iff.1 ho).1 (fun e => by have := (hr k e.symm).2; omega)).trans ho⟩
theorem KpR.box {lo hi : Nat} {A B : World} (h : KpR lo hi A B) {b T : Nat} {cs : List Value} (hb : Box A b T cs) (hne : hi ≤ b) : Box B b T cs := h.same b _ hne hb (.inl rfl)
theorem grown_setCell (w : World) (g j : Nat) (v : Value) : w.grownBy (w.setCell ⟨g, j, none⟩ v) (some g) :=
  ⟨rfl, rfl, rfl, by simp, fun k _ hk => heap_setCell_other w ⟨g, j, none⟩ k v (fun e => hk (by simp [e]))⟩
def eXA (a : Ac) : Array Value := #[eA a]
attribute [local go_sem] Oper.semAt_some

theorem until_mk (ao : Option Addr) (n cap : Nat) (t : Int) (w : World) : Calls Try.prog 36 #[.slice ao n cap, .int .i64 t] w
    (fun e w' => e = .returned (.func (.func 63) #[] #[.pointer (some ⟨w.heap.size, 0, none⟩), .pointer (some ⟨w.heap.size + 1, 0, none⟩)]) ∧ Below w.heap.size w w' ∧ w'.heap.size = w.heap.size + 2 ∧ Box w' w.heap.size 22 [.slice ao n cap] ∧ Box w' (w.heap.size + 1) 3 [.int .i64 t]) := by
  obtain ⟨W0, hW0, HB_W0, hZ, h1, h2⟩ := boxes2 w [.slice ao n cap] [.int .i64 t] 22 3
  have H1 := Lib.hid h1
  have H2 := Lib.hid h2
  have HZ := Lib.hid hZ
  clear h1 h2 hZ
  go_enter Try.func36, Try.ntmps36
  go_wp2_with fail
  go_ret
  exact ⟨rfl, HB_W0, HZ.out, H1.out, H2.out⟩

set_option maxRecDepth 100000 in
set_option maxHeartbeats 8000000 in
theorem until1_wide (Kp : World → World → Prop) (t : Int) (lid BL BT TL TT bm : Nat) (hKl : ∀ A B, Kp A B → Below bm A B) (hKx : ∀ A B, Kp A B → Box A BT TT [.int .i64 t] → Box B BT TT [.int .i64 t]) (ao : Option Addr) (n cap : Nat) (l : List Ac) (J : List Ac → World → Prop) (W : World) (hJ : OwnAll W.heap.size J)
    (hY : ∀ pre x W1, validA x = true → J pre W1 → pre.length < 200 → YieldAt Fence.wide (9 - 1) Try.prog lid (eXA x) W1 fun e W' => e = .returned (.bool true) ∧ J (pre ++ [x]) W' ∧ Kp W1 W')
    (hBL : Box W BL TL [.slice ao n cap]) (hBT : Box W BT TT [.int .i64 t]) (hs : ∀ W', Below bm W W' → Sl W' 8 cA ao n cap l) (hl : l.length ≤ 200) (hv : ∀ a ∈ l, validA a = true)
    (hne : bm < W.heap.size) (h0 : J [] W) :
    CallsIn Fence.wide 9 Try.prog 63 #[.func (.yield lid) #[] #[], .pointer (some ⟨BL, 0, none⟩), .pointer (some ⟨BT, 0, none⟩)] W fun e W' => (∃ v, e = .returned v) ∧ ∃ xs, xs = untilL l t ∧ J xs W' := by
  have hs0 := hs W (Below.refl _ _)
  obtain rfl := hs0.len
  have hcap := hs0.max
  have hle := hs0.le
  unfold maxLen at hcap
  have hbm := hne
  have HKL := Lib.hid hKl
  have HKX := Lib.hid hKx
  clear hne hKl hKx
  have HJ := Lib.hid hJ
  have HY := Lib.hid hY
  have H_L := Lib.hid hBL
  have H_T := Lib.hid hBT
  have HS := Lib.hid hs
  have HV := Lib.hid hv
  clear hJ hY hBL hBT hs hs0 hv
  have q_L_0 := H_L.out.c1
  refine callsIn_of_wp Try.func63 rfl trivial (wpIn_wide.2 ?_) rfl
  simp only [Try.ntmps63, List.size_toArray, List.length_cons, List.length_nil, Nat.reduceAdd, Nat.reduceSub, Array.replicate_succ, Array.replicate_zero, List.push_toArray, List.append_toArray, List.nil_append, List.cons_append]
  go_wp2_with fail
  clear q_L_0
  go_loopw [8] (fun i wr => ∃ k : Nat, k ≤ l.length ∧ i = .int .i64 k ∧ Hid (J (l.take k) wr) ∧ Hid (∀ i (h : i < l.length), i < k → l[i].time ≤ t) ∧ Below bm W wr ∧ W.heap.size ≤ wr.heap.size ∧ Hid (Box wr BT TT [.int .i64 t])) (fun i _ => l.length - (intOf i).toNat)
  case atStart => exact ⟨0, by omega, rfl, h0, fun i _ h => absurd h (Nat.not_lt_zero _), Below.refl _ _, Nat.le_refl _, H_T.out⟩
  case round =>
    clear h0 H_T
    obtain ⟨k, hk, rfl, HJ0, HTI, HB_wr, hsz, H_T⟩ := hrel
    by_cases hlt : k < l.length
    · have HSW := Lib.hid (HS.out wr HB_wr)
      obtain ⟨b', off, rfl, hb, hrow⟩ := HSW.out.get hlt
      obtain ⟨e_0, e_1, e_2, e_3, e_4, e_5, e_6, e_7⟩ := (hrow k hlt).c8
      have hva := HV.out _ (List.getElem_mem hlt)
      have HSP := Lib.hid (until_stop hlt HTI.out)
      have HNX := Lib.hid (show l[k].time ≤ t → ∀ i (h : i < l.length), i < k + 1 → l[i].time ≤ t from fun h1 i h hi => by
        rcases Nat.lt_succ_iff_lt_or_eq.1 hi with h2 | rfl
        · exact HTI.out i h h2
        · exact h1)
      have HSUC := Lib.hid (show l.take (k + 1) = l.take k ++ [l[k]] by rw [List.take_add_one, List.getElem?_eq_getElem hlt, Option.toList_some])
      have hpl : (l.take k).length < 200 := by rw [List.length_take]; omega
      have HYK := Lib.hid (fun W1 h => HY.out (l.take k) l[k] W1 hva h hpl)
      clear hrow hva HTI
      generalize hpre : l.take k = pre at *
      generalize l[k] = a at *
      clear hpre
      obtain ⟨a0, a1, a2, a3, ⟨a4, a5, a6, a7⟩⟩ := a
      dsimp only at e_0 e_1 e_2 e_3 e_4 e_5 e_6 e_7 HSP HNX
      obtain ⟨W1, hW1, hB1, hZ1, hb1⟩ := boxes1 wr [.int .i64 a0, .int .i64 a1, .int .i64 a2, .int .i64 a3, .int .i64 a4, .int .i64 a5, .int .i64 a6, .int .i64 a7] 37
      have H_s := Lib.hid hb1
      have HB_W1 : Below bm W W1 := HB_wr.trans (hB1.mono (by omega))
      have HJ1 : Hid (J pre W1) := HJ.out _ _ _ none HJ0.out (grown_none hB1) (fun r e => by cases e)
      have hsz1 : W.heap.size ≤ W1.heap.size := by omega
      have H_T1 := Lib.hid (H_T.out.below hB1)
      clear hb1 hZ1 hB1 HJ0 HB_wr hsz H_T
      obtain ⟨q_s_0, q_s_1, q_s_2, q_s_3, q_s_4, q_s_5, q_s_6, q_s_7⟩ := H_s.out.c8
      have q_T1_0 := H_T1.out.c1
      by_cases htt : t < a3
      · have HP := Lib.hid (HSP.out htt)
        clear HNX HYK HSP
        go_wp2_with fail
        refine bodyPost_ret (results_none rfl _ _ _) rfl ?_
        exact ⟨⟨_, rfl⟩, pre, HP.out.symm, HJ1.out⟩
      · have HNX2 := Lib.hid (HNX.out (by omega))
        replace htt := Int.not_lt.1 htt
        obtain ⟨fn, tmps, assign, body, hy, hR⟩ := HYK.out W1 HJ1.out
        dsimp only [eXA, eA] at hy
        have HRB := Lib.hid hR
        clear hR HNX HSP HYK
        go_upto_region 3 with (fail)
        refine (wpIn_wide (n := 9)).1 ?_
        gi_wp2_with fail
        refine HRB.out.mono ?_
        rintro e w7 ⟨rfl, hj7, hk7⟩
        have HJ7 := Lib.hid hj7
        have HB_w7 : Below bm W w7 := HB_W1.trans (HKL.out _ _ hk7)
        have H_T7 := Lib.hid (HKX.out _ _ hk7 H_T1.out)
        have hs7 : W.heap.size ≤ w7.heap.size := Nat.le_trans hsz1 (HKL.out _ _ hk7).size
        clear hy hj7 hk7 HRB
        gi_wp2
        try refine NoPanic.normal ?_
        go_wp2
        go_roundw
        case rel => exact ⟨k + 1, by omega, by go_num, by show J _ _; rw [HSUC.out]; exact HJ7.out, HNX2.out, HB_w7, hs7, H_T7.out⟩
        case measure => simp [intOf]; omega
    · have hkk : k = l.length := by omega
      subst hkk
      rw [List.take_length] at HJ0
      have HP := Lib.hid (until_all (fun i h => HTI.out i h h))
      go_wp2_with fail
      go_end0
      exact ⟨⟨_, rfl⟩, l, HP.out.symm, HJ0.out⟩
end Go.Proofs.Ytmbnhlihcnbebaa
