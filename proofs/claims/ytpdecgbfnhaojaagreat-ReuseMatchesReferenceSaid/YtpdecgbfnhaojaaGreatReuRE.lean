/-
  The walk of 'ReuseMatchesReference'.
-/
import Derived.Test.YtpdecgbfnhaojaaGreatReuRD
import Derived.Test.YtpdecgbfnhaojaaGreatReuH
set_option linter.unusedVariables false
namespace Go.Proofs.YtpdecgbfnhaojaaGreat
open Go.RowKit Nb Sk Ck Ru Go.Sort

section
variable {u k t r st kd now n1 n2 n3 x y q : Int} {ao : Option Addr} {n cap : Nat} {w : World}
theorem rfree_to {l : List Clk} (h : freeF u k l = (x, y)) (hs : Sl w 4 cC ao n cap l) : Calls Tryz.prog 7 #[.int .i64 u, .int .i64 k, .slice ao n cap] w (Ret w (.tuple #[.int .i64 x, .int .i64 y])) := by
  have := rfree35_any u k ao n cap l w hs
  rwa [h] at this
theorem rholds_to {c : Clk} (h : holds c u k t = (x, y)) : Calls Tryz.prog 9 #[eC c, .int .i64 u, .int .i64 k, .int .i64 t] w (Ret w (.tuple #[.int .i64 x, .int .i64 y])) := by
  have := rholds_any c u k t w
  rwa [h] at this
theorem rold_to {l : List Us} {c : Clk} (h : oldR l ⟨n1, n2, n3⟩ c r = (x, y)) (hs : Sl w 5 cU ao n cap l) : Calls Tryz.prog 16 #[.slice ao n cap, .agg #[.int .i64 n1, .int .i64 n2, .int .i64 n3], eC c, .int .i64 r] w (Ret w (.tuple #[.int .i64 x, .int .i64 y])) := by
  have := rold_any ao n cap l n1 n2 n3 c r w hs
  rwa [h] at this
theorem rwait_to {l : List Us} (h : waitR l st kd now = (x, y)) (hs : Sl w 5 cU ao n cap l) : Calls Tryz.prog 14 #[.slice ao n cap, .int .i64 st, .int .i64 kd, .int .i64 now] w (Ret w (.tuple #[.int .i64 x, .int .i64 y])) := by
  have := rwait_any ao n cap l st kd now w hs
  rwa [h] at this
theorem rtake_to {l l' : List Us} {co : Option Addr} {cn cc : Nat} {cs : List Clk} (h : takeR l st kd now u k cs = (l', ⟨n1, n2, n3⟩, q)) (hs : Sl w 5 cU ao n cap l) (hc : Sl w 4 cC co cn cc cs) :
    Calls Tryz.prog 11 #[.slice ao n cap, .int .i64 st, .int .i64 kd, .int .i64 now, .int .i64 u, .int .i64 k, .slice co cn cc] w
      (fun e w' => ∃ ao' n' cap', e = .returned (.tuple #[.slice ao' n' cap', .agg #[.int .i64 n1, .int .i64 n2, .int .i64 n3], .int .i64 q]) ∧ Sl w' 5 cU ao' n' cap' l' ∧ Below w.heap.size w w') := by
  have := rtake35_any ao n cap l st kd now u k co cn cc cs w hs hc
  rw [h] at this
  exact this.mono fun e w' ⟨a, b, c, h1, h2, _, h4⟩ => ⟨a, b, c, h1, h2, h4⟩
theorem rfew_to {v : Bool} {l : List Us} (h : fewB n = v) (hs : Sl w 5 cU ao n cap l) : Calls Tryz.prog 5 #[.slice ao n cap] w (Ret w (.bool v)) := by
  have := few_any ao n cap w (by have := hs.len; have := hs.le; omega) hs.max
  rwa [h] at this
theorem same_to {bo : Option Addr} {m capb : Nat} {l : List Us} (hs : Sl w 5 cU ao n cap l) (ht : Sl w 5 cU bo m capb l) : Calls Tryz.prog 12 #[.slice ao n cap, .slice bo m capb] w (Ret w (.bool true)) := by
  have := rsame_any ao bo n cap m capb l l w hs ht
  rwa [show decide (l = l) = true by simp] at this
end

set_option maxRecDepth 100000 in
set_option maxHeartbeats 16000000 in
theorem reusematch_walk (hso : SortOk) (ao : Option Addr) (n cap : Nat) (l : List Us) (st kd now u k : Int) (co : Option Addr) (cn cc : Nat) (cs : List Clk) (a b d e0 : Int) (n1 n2 n3 r : Int) (w : World) (hs : Sl w 5 cU ao n cap l) (hc : Sl w 4 cC co cn cc cs) :
    Calls Tryz.prog 3 #[.slice ao n cap, .int .i64 st, .int .i64 kd, .int .i64 now, .int .i64 u, .int .i64 k, .slice co cn cc, .agg #[.int .i64 a, .int .i64 b, .int .i64 d, .int .i64 e0], .agg #[.int .i64 n1, .int .i64 n2, .int .i64 n3], .int .i64 r] w (Ret w (.bool true)) := by
  have HSO := Lib.hid hso
  obtain ⟨⟨x1, q1⟩, h1⟩ : ∃ p, freeF u k cs = p := ⟨_, rfl⟩
  obtain ⟨⟨x2, q2⟩, h2⟩ : ∃ p, holds ⟨a, b, d, e0⟩ u k now = p := ⟨_, rfl⟩
  obtain ⟨⟨l3, ⟨y1, y2, y3⟩, q3⟩, h3⟩ : ∃ p, takeR l st kd now u k cs = p := ⟨_, rfl⟩
  obtain ⟨⟨x4, q4⟩, h4⟩ : ∃ p, waitR l st kd now = p := ⟨_, rfl⟩
  obtain ⟨⟨x5, q5⟩, h5⟩ : ∃ p, oldR l ⟨n1, n2, n3⟩ ⟨a, b, d, e0⟩ r = p := ⟨_, rfl⟩
  obtain ⟨v, hf⟩ : ∃ v, fewB n = v := ⟨_, rfl⟩
  have HF := Lib.hid hf
  have H1 := Lib.hid h1
  have H2 := Lib.hid h2
  have H3 := Lib.hid h3
  have H4 := Lib.hid h4
  have H5 := Lib.hid h5
  clear h1 h2 h3 h4 h5 hf hso
  obtain ⟨W0, hW0, HB_W0, hZ, hA, hB⟩ := boxes2 w [.int .i64 a, .int .i64 b, .int .i64 d, .int .i64 e0] [.int .i64 n1, .int .i64 n2, .int .i64 n3] 27 29
  have H_c := Lib.hid hA
  have H_n := Lib.hid hB
  have HS := Lib.hid (hs.below HB_W0)
  have HCS := Lib.hid (hc.below HB_W0)
  clear hA hB hZ hs hc
  go_enter Tryz.func3, Tryz.ntmps3
  go_wp2_with fail
  refine (head_any HSO.out _).mono ?_
  rintro e w0 ⟨rfl, hb_w0⟩
  have HB_w0 : Below w.heap.size w w0 := by first | exact after0 HB_W0 hb_w0 | exact after1 HB_W0 hb_w0 | exact after2 HB_W0 hb_w0 | exact after3 HB_W0 hb_w0 | exact after4 HB_W0 hb_w0 | exact after5 HB_W0 hb_w0
  replace HS := Lib.hid (show Sl w0 _ _ _ _ _ _ by first | exact HS.out.below hb_w0 | exact (HS.out.below (grew1 (Below.refl _ _))).below hb_w0 | exact (HS.out.below (grew2 (Below.refl _ _))).below hb_w0 | exact (HS.out.below (grew3 (Below.refl _ _))).below hb_w0)
  replace HCS := Lib.hid (show Sl w0 _ _ _ _ _ _ by first | exact HCS.out.below hb_w0 | exact (HCS.out.below (grew1 (Below.refl _ _))).below hb_w0 | exact (HCS.out.below (grew2 (Below.refl _ _))).below hb_w0 | exact (HCS.out.below (grew3 (Below.refl _ _))).below hb_w0)
  replace H_c := Lib.hid (H_c.out.below hb_w0)
  replace H_n := Lib.hid (H_n.out.below hb_w0)
  clear hW0
  go_wp2_with fail
  refine (rfew_to HF.out HS.out).mono ?_
  rintro e w1 ⟨rfl, hb_w1⟩
  have HB_w1 : Below w.heap.size w w1 := by first | exact after0 HB_w0 hb_w1 | exact after1 HB_w0 hb_w1 | exact after2 HB_w0 hb_w1 | exact after3 HB_w0 hb_w1 | exact after4 HB_w0 hb_w1 | exact after5 HB_w0 hb_w1
  try clear q_c_0 q_c_1 q_c_2 q_c_3
  have H_c := Lib.hid (Box.below (by first | exact H_c.out | exact H_c.out.alloc _ | exact (H_c.out.alloc _).alloc _ | exact ((H_c.out.alloc _).alloc _).alloc _) hb_w1)
  obtain ⟨q_c_0, q_c_1, q_c_2, q_c_3⟩ := H_c.out.c4
  try clear q_n_0 q_n_1 q_n_2
  have H_n := Lib.hid (Box.below (by first | exact H_n.out | exact H_n.out.alloc _ | exact (H_n.out.alloc _).alloc _ | exact ((H_n.out.alloc _).alloc _).alloc _) hb_w1)
  obtain ⟨q_n_0, q_n_1, q_n_2⟩ := H_n.out.c3
  replace HS := Lib.hid (show Sl w1 _ _ _ _ _ _ by first | exact HS.out.below hb_w1 | exact (HS.out.below (grew1 (Below.refl _ _))).below hb_w1 | exact (HS.out.below (grew2 (Below.refl _ _))).below hb_w1 | exact (HS.out.below (grew3 (Below.refl _ _))).below hb_w1)
  replace HCS := Lib.hid (show Sl w1 _ _ _ _ _ _ by first | exact HCS.out.below hb_w1 | exact (HCS.out.below (grew1 (Below.refl _ _))).below hb_w1 | exact (HCS.out.below (grew2 (Below.refl _ _))).below hb_w1 | exact (HCS.out.below (grew3 (Below.refl _ _))).below hb_w1)
  cases v
  · go_wp2_with fail
    go_ret
    exact ⟨rfl, HB_w1⟩
  go_wp2_with fail
  refine (free_to H1.out HCS.out).mono ?_
  rintro e w2 ⟨rfl, hb_w2⟩
  have HB_w2 : Below w.heap.size w w2 := by first | exact after0 HB_w1 hb_w2 | exact after1 HB_w1 hb_w2 | exact after2 HB_w1 hb_w2 | exact after3 HB_w1 hb_w2 | exact after4 HB_w1 hb_w2 | exact after5 HB_w1 hb_w2
  try clear q_c_0 q_c_1 q_c_2 q_c_3
  have H_c := Lib.hid (Box.below (by first | exact H_c.out | exact H_c.out.alloc _ | exact (H_c.out.alloc _).alloc _ | exact ((H_c.out.alloc _).alloc _).alloc _) hb_w2)
  obtain ⟨q_c_0, q_c_1, q_c_2, q_c_3⟩ := H_c.out.c4
  try clear q_n_0 q_n_1 q_n_2
  have H_n := Lib.hid (Box.below (by first | exact H_n.out | exact H_n.out.alloc _ | exact (H_n.out.alloc _).alloc _ | exact ((H_n.out.alloc _).alloc _).alloc _) hb_w2)
  obtain ⟨q_n_0, q_n_1, q_n_2⟩ := H_n.out.c3
  replace HS := Lib.hid (show Sl w2 _ _ _ _ _ _ by first | exact HS.out.below hb_w2 | exact (HS.out.below (grew1 (Below.refl _ _))).below hb_w2 | exact (HS.out.below (grew2 (Below.refl _ _))).below hb_w2 | exact (HS.out.below (grew3 (Below.refl _ _))).below hb_w2)
  replace HCS := Lib.hid (show Sl w2 _ _ _ _ _ _ by first | exact HCS.out.below hb_w2 | exact (HCS.out.below (grew1 (Below.refl _ _))).below hb_w2 | exact (HCS.out.below (grew2 (Below.refl _ _))).below hb_w2 | exact (HCS.out.below (grew3 (Below.refl _ _))).below hb_w2)
  go_wp2_with fail
  refine (rfree_to H1.out HCS.out).mono ?_
  rintro e w3 ⟨rfl, hb_w3⟩
  have HB_w3 : Below w.heap.size w w3 := by first | exact after0 HB_w2 hb_w3 | exact after1 HB_w2 hb_w3 | exact after2 HB_w2 hb_w3 | exact after3 HB_w2 hb_w3 | exact after4 HB_w2 hb_w3 | exact after5 HB_w2 hb_w3
  try clear q_c_0 q_c_1 q_c_2 q_c_3
  have H_c := Lib.hid (Box.below (by first | exact H_c.out | exact H_c.out.alloc _ | exact (H_c.out.alloc _).alloc _ | exact ((H_c.out.alloc _).alloc _).alloc _) hb_w3)
  obtain ⟨q_c_0, q_c_1, q_c_2, q_c_3⟩ := H_c.out.c4
  try clear q_n_0 q_n_1 q_n_2
  have H_n := Lib.hid (Box.below (by first | exact H_n.out | exact H_n.out.alloc _ | exact (H_n.out.alloc _).alloc _ | exact ((H_n.out.alloc _).alloc _).alloc _) hb_w3)
  obtain ⟨q_n_0, q_n_1, q_n_2⟩ := H_n.out.c3
  replace HS := Lib.hid (show Sl w3 _ _ _ _ _ _ by first | exact HS.out.below hb_w3 | exact (HS.out.below (grew1 (Below.refl _ _))).below hb_w3 | exact (HS.out.below (grew2 (Below.refl _ _))).below hb_w3 | exact (HS.out.below (grew3 (Below.refl _ _))).below hb_w3)
  replace HCS := Lib.hid (show Sl w3 _ _ _ _ _ _ by first | exact HCS.out.below hb_w3 | exact (HCS.out.below (grew1 (Below.refl _ _))).below hb_w3 | exact (HCS.out.below (grew2 (Below.refl _ _))).below hb_w3 | exact (HCS.out.below (grew3 (Below.refl _ _))).below hb_w3)
  go_wp2_with fail
  refine (holds_to H2.out).mono ?_
  rintro e w4 ⟨rfl, hb_w4⟩
  have HB_w4 : Below w.heap.size w w4 := by first | exact after0 HB_w3 hb_w4 | exact after1 HB_w3 hb_w4 | exact after2 HB_w3 hb_w4 | exact after3 HB_w3 hb_w4 | exact after4 HB_w3 hb_w4 | exact after5 HB_w3 hb_w4
  try clear q_c_0 q_c_1 q_c_2 q_c_3
  have H_c := Lib.hid (Box.below (by first | exact H_c.out | exact H_c.out.alloc _ | exact (H_c.out.alloc _).alloc _ | exact ((H_c.out.alloc _).alloc _).alloc _) hb_w4)
  obtain ⟨q_c_0, q_c_1, q_c_2, q_c_3⟩ := H_c.out.c4
  try clear q_n_0 q_n_1 q_n_2
  have H_n := Lib.hid (Box.below (by first | exact H_n.out | exact H_n.out.alloc _ | exact (H_n.out.alloc _).alloc _ | exact ((H_n.out.alloc _).alloc _).alloc _) hb_w4)
  obtain ⟨q_n_0, q_n_1, q_n_2⟩ := H_n.out.c3
  replace HS := Lib.hid (show Sl w4 _ _ _ _ _ _ by first | exact HS.out.below hb_w4 | exact (HS.out.below (grew1 (Below.refl _ _))).below hb_w4 | exact (HS.out.below (grew2 (Below.refl _ _))).below hb_w4 | exact (HS.out.below (grew3 (Below.refl _ _))).below hb_w4)
  replace HCS := Lib.hid (show Sl w4 _ _ _ _ _ _ by first | exact HCS.out.below hb_w4 | exact (HCS.out.below (grew1 (Below.refl _ _))).below hb_w4 | exact (HCS.out.below (grew2 (Below.refl _ _))).below hb_w4 | exact (HCS.out.below (grew3 (Below.refl _ _))).below hb_w4)
  go_wp2_with fail
  refine (rholds_to H2.out).mono ?_
  rintro e w5 ⟨rfl, hb_w5⟩
  have HB_w5 : Below w.heap.size w w5 := by first | exact after0 HB_w4 hb_w5 | exact after1 HB_w4 hb_w5 | exact after2 HB_w4 hb_w5 | exact after3 HB_w4 hb_w5 | exact after4 HB_w4 hb_w5 | exact after5 HB_w4 hb_w5
  try clear q_c_0 q_c_1 q_c_2 q_c_3
  have H_c := Lib.hid (Box.below (by first | exact H_c.out | exact H_c.out.alloc _ | exact (H_c.out.alloc _).alloc _ | exact ((H_c.out.alloc _).alloc _).alloc _) hb_w5)
  obtain ⟨q_c_0, q_c_1, q_c_2, q_c_3⟩ := H_c.out.c4
  try clear q_n_0 q_n_1 q_n_2
  have H_n := Lib.hid (Box.below (by first | exact H_n.out | exact H_n.out.alloc _ | exact (H_n.out.alloc _).alloc _ | exact ((H_n.out.alloc _).alloc _).alloc _) hb_w5)
  obtain ⟨q_n_0, q_n_1, q_n_2⟩ := H_n.out.c3
  replace HS := Lib.hid (show Sl w5 _ _ _ _ _ _ by first | exact HS.out.below hb_w5 | exact (HS.out.below (grew1 (Below.refl _ _))).below hb_w5 | exact (HS.out.below (grew2 (Below.refl _ _))).below hb_w5 | exact (HS.out.below (grew3 (Below.refl _ _))).below hb_w5)
  replace HCS := Lib.hid (show Sl w5 _ _ _ _ _ _ by first | exact HCS.out.below hb_w5 | exact (HCS.out.below (grew1 (Below.refl _ _))).below hb_w5 | exact (HCS.out.below (grew2 (Below.refl _ _))).below hb_w5 | exact (HCS.out.below (grew3 (Below.refl _ _))).below hb_w5)
  go_wp2_with fail
  refine (take_to H3.out HS.out HCS.out).mono ?_
  rintro e w6 ⟨ao1, m1, cap1, rfl, hl1, hb_w6⟩
  have HB_w6 : Below w.heap.size w w6 := by first | exact after0 HB_w5 hb_w6 | exact after1 HB_w5 hb_w6 | exact after2 HB_w5 hb_w6 | exact after3 HB_w5 hb_w6 | exact after4 HB_w5 hb_w6 | exact after5 HB_w5 hb_w6
  try clear q_c_0 q_c_1 q_c_2 q_c_3
  have H_c := Lib.hid (Box.below (by first | exact H_c.out | exact H_c.out.alloc _ | exact (H_c.out.alloc _).alloc _ | exact ((H_c.out.alloc _).alloc _).alloc _) hb_w6)
  obtain ⟨q_c_0, q_c_1, q_c_2, q_c_3⟩ := H_c.out.c4
  try clear q_n_0 q_n_1 q_n_2
  have H_n := Lib.hid (Box.below (by first | exact H_n.out | exact H_n.out.alloc _ | exact (H_n.out.alloc _).alloc _ | exact ((H_n.out.alloc _).alloc _).alloc _) hb_w6)
  obtain ⟨q_n_0, q_n_1, q_n_2⟩ := H_n.out.c3
  replace HS := Lib.hid (show Sl w6 _ _ _ _ _ _ by first | exact HS.out.below hb_w6 | exact (HS.out.below (grew1 (Below.refl _ _))).below hb_w6 | exact (HS.out.below (grew2 (Below.refl _ _))).below hb_w6 | exact (HS.out.below (grew3 (Below.refl _ _))).below hb_w6)
  replace HCS := Lib.hid (show Sl w6 _ _ _ _ _ _ by first | exact HCS.out.below hb_w6 | exact (HCS.out.below (grew1 (Below.refl _ _))).below hb_w6 | exact (HCS.out.below (grew2 (Below.refl _ _))).below hb_w6 | exact (HCS.out.below (grew3 (Below.refl _ _))).below hb_w6)
  have HL1 := Lib.hid hl1
  obtain ⟨W1, hW1, hB1, hZ1, hb1⟩ := boxes1 w6 [.int .i64 y1, .int .i64 y2, .int .i64 y3] 29
  have H_x := Lib.hid hb1
  have HB_W1 : Below w.heap.size w W1 := after0 HB_w6 hB1
  replace H_c := Lib.hid (H_c.out.below hB1)
  replace H_n := Lib.hid (H_n.out.below hB1)
  replace HS := Lib.hid (HS.out.below hB1)
  replace HCS := Lib.hid (HCS.out.below hB1)
  replace HL1 := Lib.hid (HL1.out.below hB1)
  clear hl1 hb1 hZ1 hB1 q_c_0 q_c_1 q_c_2 q_c_3 q_n_0 q_n_1 q_n_2
  go_wp2_with fail
  refine (rtake_to H3.out HS.out HCS.out).mono ?_
  rintro e w7 ⟨ao2, m2, cap2, rfl, hl2, hb_w7⟩
  have HB_w7 : Below w.heap.size w w7 := by first | exact after0 HB_W1 hb_w7 | exact after1 HB_W1 hb_w7 | exact after2 HB_W1 hb_w7 | exact after3 HB_W1 hb_w7 | exact after4 HB_W1 hb_w7 | exact after5 HB_W1 hb_w7
  try clear q_c_0 q_c_1 q_c_2 q_c_3
  have H_c := Lib.hid (Box.below (by first | exact H_c.out | exact H_c.out.alloc _ | exact (H_c.out.alloc _).alloc _ | exact ((H_c.out.alloc _).alloc _).alloc _) hb_w7)
  obtain ⟨q_c_0, q_c_1, q_c_2, q_c_3⟩ := H_c.out.c4
  try clear q_n_0 q_n_1 q_n_2
  have H_n := Lib.hid (Box.below (by first | exact H_n.out | exact H_n.out.alloc _ | exact (H_n.out.alloc _).alloc _ | exact ((H_n.out.alloc _).alloc _).alloc _) hb_w7)
  obtain ⟨q_n_0, q_n_1, q_n_2⟩ := H_n.out.c3
  try clear q_x_0 q_x_1 q_x_2
  have H_x := Lib.hid (Box.below (by first | exact H_x.out | exact H_x.out.alloc _ | exact (H_x.out.alloc _).alloc _ | exact ((H_x.out.alloc _).alloc _).alloc _) hb_w7)
  obtain ⟨q_x_0, q_x_1, q_x_2⟩ := H_x.out.c3
  replace HS := Lib.hid (show Sl w7 _ _ _ _ _ _ by first | exact HS.out.below hb_w7 | exact (HS.out.below (grew1 (Below.refl _ _))).below hb_w7 | exact (HS.out.below (grew2 (Below.refl _ _))).below hb_w7 | exact (HS.out.below (grew3 (Below.refl _ _))).below hb_w7)
  replace HCS := Lib.hid (show Sl w7 _ _ _ _ _ _ by first | exact HCS.out.below hb_w7 | exact (HCS.out.below (grew1 (Below.refl _ _))).below hb_w7 | exact (HCS.out.below (grew2 (Below.refl _ _))).below hb_w7 | exact (HCS.out.below (grew3 (Below.refl _ _))).below hb_w7)
  replace HL1 := Lib.hid (show Sl w7 _ _ _ _ _ _ by first | exact HL1.out.below hb_w7 | exact (HL1.out.below (grew1 (Below.refl _ _))).below hb_w7 | exact (HL1.out.below (grew2 (Below.refl _ _))).below hb_w7 | exact (HL1.out.below (grew3 (Below.refl _ _))).below hb_w7)
  clear hW1
  have HL2 := Lib.hid hl2
  obtain ⟨W2, hW2, hB2, hZ2, hb2⟩ := boxes1 w7 [.int .i64 y1, .int .i64 y2, .int .i64 y3] 29
  have H_y := Lib.hid hb2
  have HB_W2 : Below w.heap.size w W2 := after0 HB_w7 hB2
  replace H_c := Lib.hid (H_c.out.below hB2)
  replace H_n := Lib.hid (H_n.out.below hB2)
  replace H_x := Lib.hid (H_x.out.below hB2)
  replace HS := Lib.hid (HS.out.below hB2)
  replace HL1 := Lib.hid (HL1.out.below hB2)
  replace HL2 := Lib.hid (HL2.out.below hB2)
  clear hl2 hb2 hZ2 hB2 q_c_0 q_c_1 q_c_2 q_c_3 q_n_0 q_n_1 q_n_2 q_x_0 q_x_1 q_x_2
  go_wp2_with fail
  refine (same_to HL1.out HL2.out).mono ?_
  rintro e w8 ⟨rfl, hb_w8⟩
  have HB_w8 : Below w.heap.size w w8 := by first | exact after0 HB_W2 hb_w8 | exact after1 HB_W2 hb_w8 | exact after2 HB_W2 hb_w8 | exact after3 HB_W2 hb_w8 | exact after4 HB_W2 hb_w8 | exact after5 HB_W2 hb_w8
  try clear q_c_0 q_c_1 q_c_2 q_c_3
  have H_c := Lib.hid (Box.below (by first | exact H_c.out | exact H_c.out.alloc _ | exact (H_c.out.alloc _).alloc _ | exact ((H_c.out.alloc _).alloc _).alloc _) hb_w8)
  obtain ⟨q_c_0, q_c_1, q_c_2, q_c_3⟩ := H_c.out.c4
  try clear q_n_0 q_n_1 q_n_2
  have H_n := Lib.hid (Box.below (by first | exact H_n.out | exact H_n.out.alloc _ | exact (H_n.out.alloc _).alloc _ | exact ((H_n.out.alloc _).alloc _).alloc _) hb_w8)
  obtain ⟨q_n_0, q_n_1, q_n_2⟩ := H_n.out.c3
  try clear q_x_0 q_x_1 q_x_2
  have H_x := Lib.hid (Box.below (by first | exact H_x.out | exact H_x.out.alloc _ | exact (H_x.out.alloc _).alloc _ | exact ((H_x.out.alloc _).alloc _).alloc _) hb_w8)
  obtain ⟨q_x_0, q_x_1, q_x_2⟩ := H_x.out.c3
  try clear q_y_0 q_y_1 q_y_2
  have H_y := Lib.hid (Box.below (by first | exact H_y.out | exact H_y.out.alloc _ | exact (H_y.out.alloc _).alloc _ | exact ((H_y.out.alloc _).alloc _).alloc _) hb_w8)
  obtain ⟨q_y_0, q_y_1, q_y_2⟩ := H_y.out.c3
  replace HS := Lib.hid (show Sl w8 _ _ _ _ _ _ by first | exact HS.out.below hb_w8 | exact (HS.out.below (grew1 (Below.refl _ _))).below hb_w8 | exact (HS.out.below (grew2 (Below.refl _ _))).below hb_w8 | exact (HS.out.below (grew3 (Below.refl _ _))).below hb_w8)
  clear hW2 HL1 HL2
  have hen := eql_name y1 y2 y3 y1 y2 y3
  rw [show decide ((⟨y1, y2, y3⟩ : Nm) = ⟨y1, y2, y3⟩) = true by simp] at hen
  go_wp2_with fail
  refine (wait_to HSO.out H4.out HS.out).mono ?_
  rintro e w9 ⟨rfl, hb_w9⟩
  have HB_w9 : Below w.heap.size w w9 := by first | exact after0 HB_w8 hb_w9 | exact after1 HB_w8 hb_w9 | exact after2 HB_w8 hb_w9 | exact after3 HB_w8 hb_w9 | exact after4 HB_w8 hb_w9 | exact after5 HB_w8 hb_w9
  try clear q_c_0 q_c_1 q_c_2 q_c_3
  have H_c := Lib.hid (Box.below (by first | exact H_c.out | exact H_c.out.alloc _ | exact (H_c.out.alloc _).alloc _ | exact ((H_c.out.alloc _).alloc _).alloc _) hb_w9)
  obtain ⟨q_c_0, q_c_1, q_c_2, q_c_3⟩ := H_c.out.c4
  try clear q_n_0 q_n_1 q_n_2
  have H_n := Lib.hid (Box.below (by first | exact H_n.out | exact H_n.out.alloc _ | exact (H_n.out.alloc _).alloc _ | exact ((H_n.out.alloc _).alloc _).alloc _) hb_w9)
  obtain ⟨q_n_0, q_n_1, q_n_2⟩ := H_n.out.c3
  replace HS := Lib.hid (show Sl w9 _ _ _ _ _ _ by first | exact HS.out.below hb_w9 | exact (HS.out.below (grew1 (Below.refl _ _))).below hb_w9 | exact (HS.out.below (grew2 (Below.refl _ _))).below hb_w9 | exact (HS.out.below (grew3 (Below.refl _ _))).below hb_w9)
  clear H_x H_y q_x_0 q_x_1 q_x_2 q_y_0 q_y_1 q_y_2 hen
  go_wp2_with fail
  refine (rwait_to H4.out HS.out).mono ?_
  rintro e wa ⟨rfl, hb_wa⟩
  have HB_wa : Below w.heap.size w wa := by first | exact after0 HB_w9 hb_wa | exact after1 HB_w9 hb_wa | exact after2 HB_w9 hb_wa | exact after3 HB_w9 hb_wa | exact after4 HB_w9 hb_wa | exact after5 HB_w9 hb_wa
  try clear q_c_0 q_c_1 q_c_2 q_c_3
  have H_c := Lib.hid (Box.below (by first | exact H_c.out | exact H_c.out.alloc _ | exact (H_c.out.alloc _).alloc _ | exact ((H_c.out.alloc _).alloc _).alloc _) hb_wa)
  obtain ⟨q_c_0, q_c_1, q_c_2, q_c_3⟩ := H_c.out.c4
  try clear q_n_0 q_n_1 q_n_2
  have H_n := Lib.hid (Box.below (by first | exact H_n.out | exact H_n.out.alloc _ | exact (H_n.out.alloc _).alloc _ | exact ((H_n.out.alloc _).alloc _).alloc _) hb_wa)
  obtain ⟨q_n_0, q_n_1, q_n_2⟩ := H_n.out.c3
  replace HS := Lib.hid (show Sl wa _ _ _ _ _ _ by first | exact HS.out.below hb_wa | exact (HS.out.below (grew1 (Below.refl _ _))).below hb_wa | exact (HS.out.below (grew2 (Below.refl _ _))).below hb_wa | exact (HS.out.below (grew3 (Below.refl _ _))).below hb_wa)
  go_wp2_with fail
  refine (old_to H5.out HS.out).mono ?_
  rintro e wb ⟨rfl, hb_wb⟩
  have HB_wb : Below w.heap.size w wb := by first | exact after0 HB_wa hb_wb | exact after1 HB_wa hb_wb | exact after2 HB_wa hb_wb | exact after3 HB_wa hb_wb | exact after4 HB_wa hb_wb | exact after5 HB_wa hb_wb
  try clear q_c_0 q_c_1 q_c_2 q_c_3
  have H_c := Lib.hid (Box.below (by first | exact H_c.out | exact H_c.out.alloc _ | exact (H_c.out.alloc _).alloc _ | exact ((H_c.out.alloc _).alloc _).alloc _) hb_wb)
  obtain ⟨q_c_0, q_c_1, q_c_2, q_c_3⟩ := H_c.out.c4
  try clear q_n_0 q_n_1 q_n_2
  have H_n := Lib.hid (Box.below (by first | exact H_n.out | exact H_n.out.alloc _ | exact (H_n.out.alloc _).alloc _ | exact ((H_n.out.alloc _).alloc _).alloc _) hb_wb)
  obtain ⟨q_n_0, q_n_1, q_n_2⟩ := H_n.out.c3
  replace HS := Lib.hid (show Sl wb _ _ _ _ _ _ by first | exact HS.out.below hb_wb | exact (HS.out.below (grew1 (Below.refl _ _))).below hb_wb | exact (HS.out.below (grew2 (Below.refl _ _))).below hb_wb | exact (HS.out.below (grew3 (Below.refl _ _))).below hb_wb)
  go_wp2_with fail
  refine (rold_to H5.out HS.out).mono ?_
  rintro e wc ⟨rfl, hb_wc⟩
  have HB_wc : Below w.heap.size w wc := by first | exact after0 HB_wb hb_wc | exact after1 HB_wb hb_wc | exact after2 HB_wb hb_wc | exact after3 HB_wb hb_wc | exact after4 HB_wb hb_wc | exact after5 HB_wb hb_wc
  try clear q_c_0 q_c_1 q_c_2 q_c_3
  have H_c := Lib.hid (Box.below (by first | exact H_c.out | exact H_c.out.alloc _ | exact (H_c.out.alloc _).alloc _ | exact ((H_c.out.alloc _).alloc _).alloc _) hb_wc)
  obtain ⟨q_c_0, q_c_1, q_c_2, q_c_3⟩ := H_c.out.c4
  try clear q_n_0 q_n_1 q_n_2
  have H_n := Lib.hid (Box.below (by first | exact H_n.out | exact H_n.out.alloc _ | exact (H_n.out.alloc _).alloc _ | exact ((H_n.out.alloc _).alloc _).alloc _) hb_wc)
  obtain ⟨q_n_0, q_n_1, q_n_2⟩ := H_n.out.c3
  replace HS := Lib.hid (show Sl wc _ _ _ _ _ _ by first | exact HS.out.below hb_wc | exact (HS.out.below (grew1 (Below.refl _ _))).below hb_wc | exact (HS.out.below (grew2 (Below.refl _ _))).below hb_wc | exact (HS.out.below (grew3 (Below.refl _ _))).below hb_wc)
  go_wp2_with fail
  go_ret
  exact ⟨rfl, HB_wc⟩
end Go.Proofs.YtpdecgbfnhaojaaGreat
