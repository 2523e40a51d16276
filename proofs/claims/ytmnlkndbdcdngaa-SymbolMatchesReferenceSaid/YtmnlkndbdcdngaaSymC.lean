/-
  Walks of the layer 'symbol': marks, and the range over the marks that a function accepts.
-/
import Derived.Shelf.Abstract
import Derived.Deep.Cut
import Derived.Test.YtmnlkndbdcdngaaSymA
import Derived.Test.YtmnlkndbdcdngaaRange
namespace Go.Proofs.Ytmnlkndbdcdngaa
open Go.RowKit Sb Sk Go.Sort Go.Shelf
set_option linter.unusedVariables false

theorem cells_heap {W W' : World} {b o : Nat} {cs : List Value} (h : Cells W b o cs) (e : W'.heap[b]? = W.heap[b]?) : Cells W' b o cs := fun j v hj => by
  have := h j v hj
  simp only [World.cell?] at this ⊢
  rw [e]; exact this
theorem lt_heap {W W' : World} {b : Nat} (h : b < W.heap.size) (e : W'.heap[b]? = W.heap[b]?) : b < W'.heap.size := by
  rw [Array.getElem?_eq_getElem h] at e
  exact (Array.getElem?_eq_some_iff.1 e).1
theorem sl_heap {α : Type} {k : Nat} {enc : α → List Value} {W W' : World} {ao : Option Addr} {n cap : Nat} {l : List α} (h : Sl W k enc ao n cap l) (e : ∀ a, ao = some a → l ≠ [] → W'.heap[a.block]? = W.heap[a.block]?) : Sl W' k enc ao n cap l :=
  ⟨h.len, h.le, h.max, h.none, fun hl => by
    obtain ⟨b, off, h1, h2, h3⟩ := h.at_ hl
    exact ⟨b, off, h1, lt_heap h2 (e _ h1 hl), fun i hi => cells_heap (h3 i hi) (e _ h1 hl)⟩⟩
theorem same_below {bs : List Nat} {W W' W'' : World} (h : Same bs W W') (hlt : ∀ b ∈ bs, b < W.heap.size) (hb : Below W'.heap.size W' W'') : Same bs W W'' :=
  fun b hbs => (hb.block b (lt_heap (hlt b hbs) (h b hbs))).trans (h b hbs)

theorem marks_any (of : Int) (ao : Option Addr) (n cap g : Nat) (pr lb : Array Value) (w : World) : Calls Try.prog 42 #[.agg #[.int .i64 of, .slice ao n cap], .func (.func g) pr lb] w
    fun e w' => e = .returned (.func (.func 46) #[] #[.pointer (some ⟨w.heap.size, 0, none⟩), .pointer (some ⟨w.heap.size + 1, 0, none⟩)]) ∧ w' = (w.alloc (.cells #[.int .i64 of, .slice ao n cap] 24)).alloc (.cells #[.func (.func g) pr lb] 49) := by
  go_enter Try.func42, Try.ntmps42
  go_wp2
  go_ret
  exact ⟨rfl, rfl⟩

def eMs (m : Mk) : Array Value := #[.agg #[.int .i64 m.sy, .int .i64 m.kd, .int .i64 m.cl]]

set_option maxRecDepth 100000 in
set_option maxHeartbeats 4000000 in
theorem marks1_wide (l NB NF TB TF : Nat) (of : Int) (ao : Option Addr) (n cap : Nat) (ms : List Mk) (g : Nat) (pr lb : Array Value) (p : Mk → Bool) (bs : List Nat) (J Jx : List Mk → World → Prop) (W : World) (hJ : AbidesFrom W.heap.size J)
    (hA : ∀ W', Same bs W W' → ∀ x ∈ ms, Calls Try.prog g (pr.push (.agg #[.int .i64 x.sy, .int .i64 x.kd, .int .i64 x.cl]) ++ lb) W' (Ret W' (.bool (p x))))
    (eg : ∀ args w, (callFunc g args).run Try.prog w = .ok (.enter g args) w)
    (hY : ∀ pre x W1, J pre W1 → pre.length < ms.length → YieldAt Fence.wide (9 - 1) Try.prog l (eMs x) W1 fun e W' =>
      (e = .returned (.bool true) ∧ J (pre ++ [x]) W' ∧ Same bs W1 W') ∨ (e = .returned (.bool false) ∧ Jx (pre ++ [x]) W'))
    (hN : Box W NB TB [.int .i64 of, .slice ao n cap]) (hF : Box W NF TF [.func (.func g) pr lb]) (hNB : NB ∈ bs) (hNF : NF ∈ bs) (hlt : ∀ b ∈ bs, b < W.heap.size)
    (hs : Sl W 3 cM ao n cap ms) (hao : ∀ a, ao = some a → ms ≠ [] → a.block ∈ bs) (h0 : J [] W) :
    CallsIn Fence.wide 9 Try.prog 46 #[.func (.yield l) #[] #[], .pointer (some ⟨NB, 0, none⟩), .pointer (some ⟨NF, 0, none⟩)] W fun e W' => (∃ v, e = .returned v) ∧
      ((∃ ys, ys = ms.filter p ∧ J ys W') ∨ (∃ pre, pre <+: ms.filter p ∧ Jx pre W')) := by
  obtain rfl := hs.len
  have hcap := hs.max
  have hle := hs.le
  unfold maxLen at hcap
  have HJ := Lib.hid hJ
  have HA := Lib.hid hA
  have HY := Lib.hid hY
  have HN := Lib.hid hN
  have HF := Lib.hid hF
  have HS := Lib.hid hs
  have HLT := Lib.hid hlt
  have HAO := Lib.hid hao
  clear hJ hA hY hN hF hs hlt hao
  obtain ⟨x0, x1⟩ := HN.out.c2
  refine callsIn_of_wp Try.func46 rfl trivial (wpIn_wide.2 ?_) rfl
  simp only [Try.ntmps46, List.size_toArray, List.length_cons, List.length_nil, Nat.reduceAdd, Nat.reduceSub, Array.replicate_succ, Array.replicate_zero, List.push_toArray, List.append_toArray, List.nil_append, List.cons_append]
  go_wp2_with fail
  clear x0 x1
  go_loopw [9] (fun i wr => ∃ k : Nat, k ≤ ms.length ∧ i = .int .i64 k ∧ Hid (J ((ms.take k).filter p) wr) ∧ Hid (Same bs W wr)) (fun i _ => ms.length - (intOf i).toNat)
  case atStart => exact ⟨0, by omega, rfl, h0, Same.refl _ _⟩
  case round =>
    clear h0
    obtain ⟨k, hk, rfl, HJ0, HSM⟩ := hrel
    by_cases hkl : k < ms.length
    · have HST := Lib.hid (show (ms.take (k + 1)).filter p = (ms.take k).filter p ++ (if p ms[k] = true then [ms[k]] else []) by
        rw [List.take_succ_eq_append_getElem hkl, List.filter_append, List.filter_cons]; rfl)
      have HPR := Lib.hid (show (ms.take (k + 1)).filter p <+: ms.filter p from (List.take_prefix _ _).filter p)
      have HLE := Lib.hid (show ((ms.take k).filter p).length < ms.length from Nat.lt_of_le_of_lt (List.length_filter_le _ _) (by simp; omega))
      have HCA := Lib.hid (fun W' hW' => HA.out W' hW' ms[k] (List.getElem_mem hkl))
      have HS2 := sl_heap HS.out (fun a ha hl => HSM.out a.block (HAO.out a ha hl))
      obtain ⟨bb, off, rfl, hbb, hrow⟩ := HS2.get hkl
      obtain ⟨e0, e1, e2⟩ := (hrow k hkl).c3
      clear hrow HS2
      generalize ms[k] = m at *
      obtain ⟨a, b, c⟩ := m
      dsimp only at e0 e1 e2 HCA
      obtain ⟨W1, hW1, hB1, hZ1, hb1⟩ := boxes1 wr [.int .i64 a, .int .i64 b, .int .i64 c] 29
      obtain ⟨NX, hNX⟩ : ∃ N, wr.heap.size = N := ⟨_, rfl⟩
      rw [hNX] at hb1
      have H_x := Lib.hid hb1
      have HS1 := Lib.hid (same_below HSM.out HLT.out hB1)
      have HJ1 := Lib.hid (HJ.out _ _ _ none HJ0.out (grown_of_below hB1) (fun r e => by cases e))
      have z0 := (Same.box HS1.out hNF HF.out).c1
      have HC1 := HCA.out W1 HS1.out
      clear hb1 hZ1
      obtain ⟨q_x_0, q_x_1, q_x_2⟩ := H_x.out.c3
      go_upto_region 3 with (fail)
      clear e0 e1 e2
      refine (wpIn_wide (n := 9)).1 ?_
      gi_wp2
      refine ⟨trivial, ?_⟩
      refine ((callsIn_wide (n := 8)).2 HC1).mono ?_
      rintro e W2 ⟨rfl, hb2⟩
      have HS2 := Lib.hid (same_below HS1.out HLT.out hb2)
      have HJ2 := Lib.hid (HJ.out _ _ _ none HJ1.out (grown_of_below hb2) (fun r e => by cases e))
      replace H_x := Lib.hid (H_x.out.below hb2)
      clear hW1 hNX HC1 HCA hb2 hB1 z0 q_x_0 q_x_1 q_x_2 HJ1
      obtain ⟨q_x_0, q_x_1, q_x_2⟩ := H_x.out.c3
      cases hp : p ⟨a, b, c⟩
      · have HN2 := Lib.hid (show (ms.take (k + 1)).filter p = (ms.take k).filter p by rw [HST.out, hp]; simp)
        clear hp HST
        gi_wp2
        refine ⟨(fun f h => (by cases h)), ?_⟩
        gi_wp2
        go_wp2
        go_roundw
        case rel => exact ⟨k + 1, by omega, by go_num, (by show J _ _; rw [HN2.out]; exact HJ2.out), HS2⟩
        case measure => simp [intOf]; omega
      · have HN2 := Lib.hid (show (ms.take (k + 1)).filter p = (ms.take k).filter p ++ [⟨a, b, c⟩] by rw [HST.out, hp]; simp)
        clear hp HST
        obtain ⟨fn, tmps, assign, body, hy, hR⟩ := HY.out _ ⟨a, b, c⟩ W2 HJ2.out HLE.out
        dsimp only [eMs] at hy
        have HRB := Lib.hid hR
        clear hR
        gi_wp2
        refine HRB.out.mono ?_
        rintro e W3 (⟨rfl, hJ3, hs3⟩ | ⟨rfl, hJx3⟩)
        · have HS3 := Lib.hid (same_t HS2.out hs3)
          have HJ3 := Lib.hid hJ3
          clear hy hJ3 hs3
          gi_wp2
          go_wp2
          go_roundw
          case rel => exact ⟨k + 1, by omega, by go_num, (by show J _ _; rw [HN2.out]; exact HJ3.out), HS3⟩
          case measure => simp [intOf]; omega
        · have HJ3 := Lib.hid hJx3
          clear hy hJx3
          gi_wp2
          go_wp2
          refine bodyPost_ret (results_none rfl _ _ _) rfl ?_
          refine ⟨⟨_, rfl⟩, .inr ⟨_, ?_, HJ3.out⟩⟩
          have := HPR.out
          rwa [HN2.out] at this
    · have hkk : ms.take k = ms := List.take_of_length_le (by omega)
      rw [hkk] at HJ0
      go_wp2_with fail
      go_end0
      exact ⟨⟨_, rfl⟩, .inl ⟨_, rfl, HJ0.out⟩⟩
end Go.Proofs.Ytmnlkndbdcdngaa
