/-
  Walks of the layer 'schedule': Pop of the heap; valid jobs.
-/
import Derived.Test.YtheioedggjbphaaScE
set_option linter.unusedVariables false
namespace Sc
theorem heap_take {le : Nat → Nat → Prop} {L : List Nat} {n : Nat} (h : Heap le L n) (hn : n ≤ L.length) : Heap le (L.take n) (L.take n).length := by
  intro k h0 hk
  rw [List.length_take, Nat.min_eq_left hn] at hk
  rw [at_get (show (k - 1) / 2 < (L.take n).length by rw [List.length_take]; omega), at_get (show k < (L.take n).length by rw [List.length_take]; omega), List.getElem_take, List.getElem_take]
  have := h k h0 hk
  rwa [at_get (by omega), at_get (by omega)] at this
theorem take_last {L : List Nat} {n : Nat} (h : L.length = n + 1) : L.take n ++ [at_ L n] = L := by
  rw [at_get (by omega), ← List.take_succ_eq_append_getElem (by omega), List.take_of_length_le (by omega)]
end Sc
namespace Go.Proofs.Ytheioedggjbphaa
open Go Go.RowKit Sc Sk Go.Sort
set_option maxRecDepth 100000 in
set_option maxHeartbeats 4000000 in
theorem hpop_any (B base : Nat) (jo : Option Addr) (nn cap : Nat) (J : List Jb) (v : Value) (q : List Nat) (w : World) (h : HQ w B base (.slice jo nn cap) v q) (hB : B < base) (hBs : B < w.heap.size) (hJ : ∀ W, Below B w W → Sl W 4 cJ jo nn cap J)
    (hq : ∀ y ∈ q, y < J.length) (hl : q.length ≤ 1000) (h0 : 0 < q.length) (hh : Heap (le J) q q.length) :
    Calls Try.prog 55 #[qw B] w (fun e w' => e = .returned (.iface 3 (.int .i64 (at_ q 0))) ∧ ∃ v' q', HQ w' B base (.slice jo nn cap) v' q' ∧ HK w w' B v v' ∧ Heap (le J) q' q'.length ∧ (q' ++ [at_ q 0]).Perm q) := by
  obtain ⟨n, hn⟩ : ∃ n, q.length = n + 1 := ⟨q.length - 1, by omega⟩
  have HJ := Lib.hid hJ
  have HH := Lib.hid h
  have hlen1 : (Sc.swp q 0 n).length = n + 1 := by rw [swp_len, hn]
  have HPM := Lib.hid (swp_perm (L := q) (i := 0) (j := n) (by omega) (by omega))
  have HD := Lib.hid (down_start (le := le J) (L := q) (n := n) (by rw [← hn]; exact hh) hn)
  have HAT := Lib.hid (show at_ (Sc.swp q 0 n) n = at_ q 0 by rw [at_swp (by omega) (by omega), if_pos rfl])
  have HQX := Lib.hid (fun y (hy : y ∈ Sc.swp q 0 n) => hq y (HPM.out.mem_iff.1 hy))
  have HL := Lib.hid (hq_len HH.out)
  rw [hn] at HL
  have hix : ((n + 1 : Nat) : Int) - 1 = (n : Int) := by omega
  have hm1 := fun w => m_len B w
  have hm2 := fun x y w => m_swap B x y w
  have hm3 := fun w => m_pop B w
  clear h hJ hq hh
  go_enter Try.func55, Try.ntmps55
  go_wp2_with fail
  refine HL.out.mono ?_
  rintro e w1 ⟨rfl, hb1⟩
  have HH1 := Lib.hid (HH.out.below hb1)
  have HK1 := Lib.hid (HK.of_below (B := B) (v := v) hb1 (by omega))
  clear hb1 HL HH
  have HSW := Lib.hid (swap_any B base _ v q 0 n w1 HH1.out hB (by omega) (by omega))
  go_wp2_with fail
  refine HSW.out.mono ?_
  rintro e w2 ⟨rfl, hh2, hk2⟩
  have HH2 := Lib.hid hh2
  have HK2 := Lib.hid (HK1.out.trans hk2)
  clear hh2 hk2 HSW HH1 HK1
  have HDN := Lib.hid (down_any B base jo nn cap J v (Sc.swp q 0 n) n w2 HH2.out hB (by have := HK2.out.size; omega) (fun W hW => HJ.out W (HK2.out.low.trans hW)) HQX.out (by omega) (by omega) HD.out)
  go_wp2_with fail
  refine HDN.out.mono ?_
  rintro e w3 ⟨r, rfl, q3, hh3, hk3, hf3, hp3, ha3, hl3⟩
  have HH3 := Lib.hid hh3
  have HK3 := Lib.hid (HK2.out.trans hk3)
  rw [hlen1] at hl3
  rw [HAT.out] at ha3
  have HF := Lib.hid (heap_take hf3 (by omega))
  have HPR := Lib.hid (show (q3.take n ++ [at_ q 0]).Perm q by
    rw [← ha3, take_last hl3]
    exact hp3.trans HPM.out)
  have HPO := Lib.hid (wpop_any B base _ v q3 w3 HH3.out hB (by omega))
  rw [hl3, show n + 1 - 1 = n by omega, ha3] at HPO
  clear hh3 hk3 hf3 hp3 ha3 HDN HH2 HK2
  go_wp2_with fail
  refine HPO.out.mono ?_
  rintro e w4 ⟨rfl, v4, hh4, hk4⟩
  have HH4 := Lib.hid hh4
  have HK4 := Lib.hid (HK3.out.trans hk4)
  clear hh4 hk4 HPO HH3 HK3
  go_wp2_with fail
  go_ret
  exact ⟨rfl, v4, _, HH4.out, HK4.out, HF.out, HPR.out⟩
end Go.Proofs.Ytheioedggjbphaa
