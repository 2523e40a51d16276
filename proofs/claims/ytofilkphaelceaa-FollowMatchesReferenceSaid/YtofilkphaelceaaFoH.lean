/-
  Walks of the layer 'follow': the steps that are ready, one after the other.
-/
import Derived.Shelf.Abstract
import Derived.Test.YtofilkphaelceaaFoE
import Derived.Test.YtofilkphaelceaaRange
set_option linter.unusedVariables false
namespace Go.Proofs.Ytofilkphaelceaa
open Go Go.RowKit Fo Sk Go.Sort Go.Shelf

def eX (x : Int) : Array Value := #[.int .i64 x]
theorem grown_of_below {w w' : World} (h : Below w.heap.size w w') : w.grownBy w' none := ⟨h.os, h.tape, h.output, h.size, fun i hi _ => h.block i hi⟩
theorem readyF_step {l : List St} {k : Nat} (h : k < l.length) (D : List Int) : readyF (l.take (k + 1)) D = readyF (l.take k) D ++ (if !D.contains l[k].n && l[k].af.all D.contains then [l[k].n] else []) := by
  unfold readyF
  rw [List.take_add_one, List.getElem?_eq_getElem h, Option.toList_some, List.filter_append, List.map_append]
  congr 1
  cases hc : !D.contains l[k].n && l[k].af.all D.contains <;> simp only [List.filter_cons, hc] <;> rfl
theorem readyF_pre (l : List St) (D : List Int) (k : Nat) : readyF (l.take k) D <+: readyF l D := ((List.take_prefix k l).filter _).map _
theorem readyF_len (l : List St) (D : List Int) (k : Nat) : (readyF (l.take k) D).length ≤ k := by
  unfold readyF
  rw [List.length_map]
  exact Nat.le_trans (List.length_filter_le _ _) (List.length_take_le _ _)

set_option maxRecDepth 100000 in
set_option maxHeartbeats 4000000 in
theorem ready1_wide (lid BL BD TL TD n1 b m : Nat) (ao : Option Addr) (n cap : Nat) (l : List St) (D : List Int) (J Jx : List Int → World → Prop) (W : World) (hJ : AbidesFrom W.heap.size J)
    (hY : ∀ pre x W1, J pre W1 → pre.length < 200 → YieldAt Fence.wide (9 - 1) Try.prog lid (eX x) W1 fun e W' =>
      (e = .returned (.bool true) ∧ J (pre ++ [x]) W' ∧ Below n1 W1 W') ∨ (e = .returned (.bool false) ∧ Jx (pre ++ [x]) W'))
    (hBL : Box W BL TL [.slice ao n cap]) (hBD : Box W BD TD [.map (some b)]) (hset : ∀ W', Below n1 W W' → SetOf W' b m D.contains) (hs : ∀ W', Below n1 W W' → SlS W' ao n cap l) (hl : l.length ≤ 200) (hnum : ∀ s ∈ l, I64 s.n)
    (hn1 : BL < n1 ∧ BD < n1 ∧ n1 ≤ W.heap.size) (h0 : J [] W) :
    CallsIn Fence.wide 9 Try.prog 54 #[.func (.yield lid) #[] #[], .pointer (some ⟨BL, 0, none⟩), .pointer (some ⟨BD, 0, none⟩)] W fun e W' => (∃ v, e = .returned v) ∧
      ((∃ ys, ys = readyF l D ∧ J ys W') ∨ (∃ pre, pre <+: readyF l D ∧ Jx pre W')) := by
  have hs0 := hs W (Below.refl _ _)
  obtain rfl := hs0.1.len
  have hcap := hs0.1.max
  have hle := hs0.1.le
  unfold maxLen at hcap
  obtain ⟨hn1a, hn1b, hn1c⟩ := hn1
  have HJ := Lib.hid hJ
  have HY := Lib.hid hY
  have H_L := Lib.hid hBL
  have H_D := Lib.hid hBD
  have HSET := Lib.hid hset
  have HS := Lib.hid hs
  have HNUM := Lib.hid hnum
  clear hJ hY hBL hBD hset hs hs0 hnum
  have q_L_0 := H_L.out.c1
  refine callsIn_of_wp Try.func54 rfl trivial (wpIn_wide.2 ?_) rfl
  simp only [Try.ntmps54, List.size_toArray, List.length_cons, List.length_nil, Nat.reduceAdd, Nat.reduceSub, Array.replicate_succ, Array.replicate_zero, List.push_toArray, List.append_toArray, List.nil_append, List.cons_append]
  go_wp2_with fail
  clear q_L_0
  go_loopw [8] (fun i wr => ∃ k : Nat, k ≤ l.length ∧ i = .int .i64 k ∧ Hid (J (readyF (l.take k) D) wr) ∧ Below n1 W wr ∧ W.heap.size ≤ wr.heap.size) (fun i _ => l.length - (intOf i).toNat)
  case atStart => exact ⟨0, by omega, rfl, h0, Below.refl _ _, Nat.le_refl _⟩
  case round =>
    clear h0
    obtain ⟨k, hk, rfl, HJ0, HB_wr, hsz⟩ := hrel
    by_cases hlt : k < l.length
    · have HF := Lib.hid (readyF_step hlt D)
      have hfl := readyF_len l D k
      have HPRE := Lib.hid (readyF_pre l D (k + 1))
      have HSW := Lib.hid (HS.out wr HB_wr)
      have hx := HNUM.out _ (List.getElem_mem hlt)
      obtain ⟨b', off, rfl, hb, hrow⟩ := HSW.out.1.get hlt
      obtain ⟨e_0, e_1⟩ := (hrow k hlt).c2
      have HSO := Lib.hid (HSW.out.2 _ (List.getElem_mem hlt))
      clear hrow
      generalize readyF (l.take k) D = ys at *
      generalize l[k] = s at *
      obtain ⟨s0, s1, s2, s3, s4⟩ := s
      dsimp only at e_0 e_1 HSO HF hx
      obtain ⟨W1, hW1, hB1, hZ1, hb1⟩ := boxes1 wr [.int .i64 s0, .slice s1 s2 s3] 44
      have H_s := Lib.hid hb1
      have HB_W1 : Below n1 W W1 := HB_wr.trans (hB1.mono (by omega))
      replace HSO := Lib.hid (HSO.out.below hB1)
      have HJ1 : Hid (J ys W1) := HJ.out _ _ _ none HJ0.out (grown_of_below hB1) (fun r e => by cases e)
      have hsz1 : W.heap.size ≤ W1.heap.size := by omega
      have HSE := Lib.hid (HSET.out W1 HB_W1)
      have H_D1 := Lib.hid (show Box W1 BD TD [.map (some b)] from (HB_W1.block BD hn1b).trans H_D.out)
      have q_D := H_D1.out.c1
      clear hb1 hZ1 hB1 HJ0 HB_wr hsz
      obtain ⟨q_s_0, q_s_1⟩ := H_s.out.c2
      cases hc : D.contains s0
      case true =>
        have hlook := HSE.out.look hx hc
        have HF2 := Lib.hid (show readyF (l.take (k + 1)) D = ys by rw [HF.out, hc]; simp)
        clear hc
        go_wp2_with fail
        go_roundw
        case rel => exact ⟨k + 1, by omega, by go_num, by show J _ _; rw [HF2.out]; exact HJ1.out, HB_W1, hsz1⟩
        case measure => simp [intOf]; omega
      have hlook := HSE.out.look hx hc
      rw [hc] at HF
      clear hc
      cases h4 : s4.all D.contains
      · have HF2 := Lib.hid (show readyF (l.take (k + 1)) D = ys by rw [HF.out, h4]; simp)
        go_wp2_with fail
        refine (all_any _ _ _ _ _ _ s4 _ HSE.out HSO.out.1 HSO.out.2).mono ?_
        rintro e w2 ⟨rfl, hb2⟩
        rw [h4]
        have HJ2 : Hid (J ys w2) := HJ.out _ _ _ none HJ1.out (grown_of_below hb2) (fun r e => by cases e)
        have HB_w2 : Below n1 W w2 := HB_W1.trans (hb2.mono (by omega))
        have hsz2 : W.heap.size ≤ w2.heap.size := Nat.le_trans hsz1 hb2.size
        clear hb2 h4
        go_wp2_with fail
        go_roundw
        case rel => exact ⟨k + 1, by omega, by go_num, by show J _ _; rw [HF2.out]; exact HJ2.out, HB_w2, hsz2⟩
        case measure => simp [intOf]; omega
      have HF2 := Lib.hid (show readyF (l.take (k + 1)) D = ys ++ [s0] by rw [HF.out, h4]; simp)
      have HCA := Lib.hid (show Calls Try.prog 37 #[.map (some b), .slice s1 s2 s3] W1 (Ret W1 (.bool true)) by have := all_any b m D.contains s1 s2 s3 s4 W1 HSE.out HSO.out.1 HSO.out.2; rwa [h4] at this)
      clear h4 HF
      refine (wpIn_wide (n := 9)).1 ?_
      gi_wp2_with fail
      refine ⟨wide_fn _, ((callsIn_wide (n := 8)).2 HCA.out).mono ?_⟩
      rintro e w2 ⟨rfl, hb2⟩
      have HJ2 : Hid (J ys w2) := HJ.out _ _ _ none HJ1.out (grown_of_below hb2) (fun r e => by cases e)
      have HB_w2 : Below n1 W w2 := HB_W1.trans (hb2.mono (by omega))
      have hsz2 : W.heap.size ≤ w2.heap.size := Nat.le_trans hsz1 hb2.size
      replace H_s := Lib.hid (H_s.out.below hb2)
      obtain ⟨fn, tmps, assign, body, hy, hR⟩ := HY.out ys s0 w2 HJ2.out (by omega)
      dsimp only [eX] at hy
      have HRB := Lib.hid hR
      clear hb2 q_s_0 q_s_1 hR hlook e_0 e_1 hW1
      obtain ⟨q_s_0, q_s_1⟩ := H_s.out.c2
      gi_wp2_with fail
      refine HRB.out.mono ?_
      rintro e w3 (⟨rfl, hj3, hb3⟩ | ⟨rfl, hj3⟩)
      · have HJ3 := Lib.hid hj3
        have HB_w3 : Below n1 W w3 := HB_w2.trans hb3
        have hsz3 : W.heap.size ≤ w3.heap.size := Nat.le_trans hsz2 hb3.size
        clear hy hj3 hb3
        gi_wp2
        try refine NoPanic.normal ?_
        go_wp2
        go_roundw
        case rel => exact ⟨k + 1, by omega, by go_num, by show J _ _; rw [HF2.out]; exact HJ3.out, HB_w3, hsz3⟩
        case measure => simp [intOf]; omega
      · have HJ3 := Lib.hid hj3
        clear hy hj3
        gi_wp2
        try refine NoPanic.normal ?_
        go_wp2
        refine bodyPost_ret (results_none rfl _ _ _) rfl ?_
        exact ⟨⟨_, rfl⟩, .inr ⟨_, by rw [← HF2.out]; exact HPRE.out, HJ3.out⟩⟩
    · obtain rfl : k = l.length := by omega
      rw [List.take_length] at HJ0
      go_wp2_with fail
      go_end0
      exact ⟨⟨_, rfl⟩, .inl ⟨_, rfl, HJ0.out⟩⟩
end Go.Proofs.Ytofilkphaelceaa
