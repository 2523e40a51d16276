/-
  The walk of 'SymbolOrder'.
-/
import Derived.Test.YtmnlkndbdcdngaaSymL
namespace Go.Proofs.Ytmnlkndbdcdngaa
open Go.RowKit Sb Sk Go.Sort
set_option linter.unusedVariables false


theorem beq_bne_f {x y : Int} (h : (x != y) = false) : x = y := by simpa using h

set_option maxRecDepth 100000 in
set_option maxHeartbeats 8000000 in
theorem order_walk (oa : Int) (aa : Option Addr) (na ca : Nat) (a : List Mk) (ob : Int) (ab : Option Addr) (nb cb : Nat) (b : List Mk) (s n : Int) (w : World) (ha : Sl w 3 cM aa na ca a) (hb : Sl w 3 cM ab nb cb b) :
    Calls Try.prog 7 #[.agg #[.int .i64 oa, .slice aa na ca], .agg #[.int .i64 ob, .slice ab nb cb], .int .i64 s, .int .i64 n] w (Ret w (.bool true)) := by
  obtain ⟨x0, x1, x2, e1, h1⟩ := find_ex oa a s
  obtain ⟨y0, y1, y2, f1, h2⟩ := find_ex oa a n
  obtain ⟨t, g, h3⟩ := translate_ex oa a ob b s
  obtain ⟨u, h, h4⟩ := translate_ex oa a ob b n
  obtain ⟨p0, p1, p2, i, h5⟩ := find_ex ob b t
  obtain ⟨q0, q1, q2, k, h6⟩ := find_ex ob b u
  have HLAW := Lib.hid (order_law h1 h2 h3 h4 h5 h6)
  replace h1 := Lib.hid h1
  replace h2 := Lib.hid h2
  replace h3 := Lib.hid h3
  replace h4 := Lib.hid h4
  replace h5 := Lib.hid h5
  replace h6 := Lib.hid h6
  obtain ⟨W0, hW0, HB_W0, hZ, hA, hB⟩ := boxes2 w [.int .i64 oa, .slice aa na ca] [.int .i64 ob, .slice ab nb cb] 24 24
  have H_a := Lib.hid hA
  have H_b := Lib.hid hB
  have HSA := Lib.hid (ha.below HB_W0)
  have HSB := Lib.hid (hb.below HB_W0)
  clear ha hb hA hB hZ
  go_enter Try.func7, Try.ntmps7
  go_wp2_with fail
  refine (head_any _).mono ?_
  rintro e w1 ⟨rfl, hb_w1⟩
  have HB_w1 : Below w.heap.size w w1 := by first | exact after0 HB_W0 hb_w1 | exact after1 HB_W0 hb_w1 | exact after2 HB_W0 hb_w1 | exact after3 HB_W0 hb_w1 | exact after4 HB_W0 hb_w1 | exact after5 HB_W0 hb_w1
  try clear q_a_0 q_a_1
  have H_a := Lib.hid (Box.below (by first | exact H_a.out | exact H_a.out.alloc _ | exact (H_a.out.alloc _).alloc _ | exact ((H_a.out.alloc _).alloc _).alloc _) hb_w1)
  obtain ⟨q_a_0, q_a_1⟩ := H_a.out.c2
  try clear q_b_0 q_b_1
  have H_b := Lib.hid (Box.below (by first | exact H_b.out | exact H_b.out.alloc _ | exact (H_b.out.alloc _).alloc _ | exact ((H_b.out.alloc _).alloc _).alloc _) hb_w1)
  obtain ⟨q_b_0, q_b_1⟩ := H_b.out.c2
  replace HSA := Lib.hid (show Sl w1 _ _ _ _ _ _ by first | exact HSA.out.below hb_w1 | exact (HSA.out.below (grew1 (Below.refl _ _))).below hb_w1 | exact (HSA.out.below (grew2 (Below.refl _ _))).below hb_w1 | exact (HSA.out.below (grew3 (Below.refl _ _))).below hb_w1)
  replace HSB := Lib.hid (show Sl w1 _ _ _ _ _ _ by first | exact HSB.out.below hb_w1 | exact (HSB.out.below (grew1 (Below.refl _ _))).below hb_w1 | exact (HSB.out.below (grew2 (Below.refl _ _))).below hb_w1 | exact (HSB.out.below (grew3 (Below.refl _ _))).below hb_w1)
  clear hW0
  go_wp2_with fail
  refine (find_to h1.out (by first | exact HSA.out | exact HSA.out.below (grew1 (Below.refl _ _)) | exact HSA.out.below (grew2 (Below.refl _ _)) | exact HSA.out.below (grew3 (Below.refl _ _)))).mono ?_
  rintro e w2 ⟨rfl, hb_w2⟩
  have HB_w2 : Below w.heap.size w w2 := by first | exact after0 HB_w1 hb_w2 | exact after1 HB_w1 hb_w2 | exact after2 HB_w1 hb_w2 | exact after3 HB_w1 hb_w2 | exact after4 HB_w1 hb_w2 | exact after5 HB_w1 hb_w2
  try clear q_a_0 q_a_1
  have H_a := Lib.hid (Box.below (by first | exact H_a.out | exact H_a.out.alloc _ | exact (H_a.out.alloc _).alloc _ | exact ((H_a.out.alloc _).alloc _).alloc _) hb_w2)
  obtain ⟨q_a_0, q_a_1⟩ := H_a.out.c2
  try clear q_b_0 q_b_1
  have H_b := Lib.hid (Box.below (by first | exact H_b.out | exact H_b.out.alloc _ | exact (H_b.out.alloc _).alloc _ | exact ((H_b.out.alloc _).alloc _).alloc _) hb_w2)
  obtain ⟨q_b_0, q_b_1⟩ := H_b.out.c2
  replace HSA := Lib.hid (show Sl w2 _ _ _ _ _ _ by first | exact HSA.out.below hb_w2 | exact (HSA.out.below (grew1 (Below.refl _ _))).below hb_w2 | exact (HSA.out.below (grew2 (Below.refl _ _))).below hb_w2 | exact (HSA.out.below (grew3 (Below.refl _ _))).below hb_w2)
  replace HSB := Lib.hid (show Sl w2 _ _ _ _ _ _ by first | exact HSB.out.below hb_w2 | exact (HSB.out.below (grew1 (Below.refl _ _))).below hb_w2 | exact (HSB.out.below (grew2 (Below.refl _ _))).below hb_w2 | exact (HSB.out.below (grew3 (Below.refl _ _))).below hb_w2)
  have H_x := Lib.hid (Box.new w2 [.int .i64 x0, .int .i64 x1, .int .i64 x2] 29)
  obtain ⟨z0, z1⟩ := (H_a.out.alloc (.cells #[.int .i64 x0, .int .i64 x1, .int .i64 x2] 29)).c2
  go_wp2_with fail
  refine (find_to h2.out (by first | exact HSA.out | exact HSA.out.below (grew1 (Below.refl _ _)) | exact HSA.out.below (grew2 (Below.refl _ _)) | exact HSA.out.below (grew3 (Below.refl _ _)))).mono ?_
  rintro e w3 ⟨rfl, hb_w3⟩
  have HB_w3 : Below w.heap.size w w3 := by first | exact after0 HB_w2 hb_w3 | exact after1 HB_w2 hb_w3 | exact after2 HB_w2 hb_w3 | exact after3 HB_w2 hb_w3 | exact after4 HB_w2 hb_w3 | exact after5 HB_w2 hb_w3
  try clear q_a_0 q_a_1
  have H_a := Lib.hid (Box.below (by first | exact H_a.out | exact H_a.out.alloc _ | exact (H_a.out.alloc _).alloc _ | exact ((H_a.out.alloc _).alloc _).alloc _) hb_w3)
  obtain ⟨q_a_0, q_a_1⟩ := H_a.out.c2
  try clear q_b_0 q_b_1
  have H_b := Lib.hid (Box.below (by first | exact H_b.out | exact H_b.out.alloc _ | exact (H_b.out.alloc _).alloc _ | exact ((H_b.out.alloc _).alloc _).alloc _) hb_w3)
  obtain ⟨q_b_0, q_b_1⟩ := H_b.out.c2
  try clear q_x_0 q_x_1 q_x_2
  have H_x := Lib.hid (Box.below (by first | exact H_x.out | exact H_x.out.alloc _ | exact (H_x.out.alloc _).alloc _ | exact ((H_x.out.alloc _).alloc _).alloc _) hb_w3)
  obtain ⟨q_x_0, q_x_1, q_x_2⟩ := H_x.out.c3
  replace HSA := Lib.hid (show Sl w3 _ _ _ _ _ _ by first | exact HSA.out.below hb_w3 | exact (HSA.out.below (grew1 (Below.refl _ _))).below hb_w3 | exact (HSA.out.below (grew2 (Below.refl _ _))).below hb_w3 | exact (HSA.out.below (grew3 (Below.refl _ _))).below hb_w3)
  replace HSB := Lib.hid (show Sl w3 _ _ _ _ _ _ by first | exact HSB.out.below hb_w3 | exact (HSB.out.below (grew1 (Below.refl _ _))).below hb_w3 | exact (HSB.out.below (grew2 (Below.refl _ _))).below hb_w3 | exact (HSB.out.below (grew3 (Below.refl _ _))).below hb_w3)
  clear z0 z1 q_a_0 q_a_1 q_b_0 q_b_1 q_x_0 q_x_1 q_x_2
  obtain ⟨W1, hW1, HB_W1, hZ, hY⟩ := boxes1 w3 [.int .i64 y0, .int .i64 y1, .int .i64 y2] 29
  have H_y := Lib.hid hY
  replace HSA := Lib.hid (HSA.out.below HB_W1)
  replace HSB := Lib.hid (HSB.out.below HB_W1)
  replace H_a := Lib.hid (H_a.out.below HB_W1)
  replace H_b := Lib.hid (H_b.out.below HB_W1)
  replace H_x := Lib.hid (H_x.out.below HB_W1)
  replace HB_W1 := after0 HB_w3 HB_W1
  clear hY hZ
  obtain ⟨q_a_0, q_a_1⟩ := H_a.out.c2
  obtain ⟨q_b_0, q_b_1⟩ := H_b.out.c2
  obtain ⟨q_x_0, q_x_1, q_x_2⟩ := H_x.out.c3
  obtain ⟨q_y_0, q_y_1, q_y_2⟩ := H_y.out.c3
  go_wp2_with fail
  all_goals try (go_ret; exact ⟨rfl, HB_W1⟩)
  have HL := Lib.hid (HLAW.out (by assumption) (by assumption) (by assumption) (by omega))
  refine (translate_to h3.out (by first | exact HSA.out | exact HSA.out.below (grew1 (Below.refl _ _)) | exact HSA.out.below (grew2 (Below.refl _ _)) | exact HSA.out.below (grew3 (Below.refl _ _))) (by first | exact HSB.out | exact HSB.out.below (grew1 (Below.refl _ _)) | exact HSB.out.below (grew2 (Below.refl _ _)) | exact HSB.out.below (grew3 (Below.refl _ _)))).mono ?_
  rintro e w4 ⟨rfl, hb_w4⟩
  have HB_w4 : Below w.heap.size w w4 := by first | exact after0 HB_W1 hb_w4 | exact after1 HB_W1 hb_w4 | exact after2 HB_W1 hb_w4 | exact after3 HB_W1 hb_w4 | exact after4 HB_W1 hb_w4 | exact after5 HB_W1 hb_w4
  try clear q_a_0 q_a_1
  have H_a := Lib.hid (Box.below (by first | exact H_a.out | exact H_a.out.alloc _ | exact (H_a.out.alloc _).alloc _ | exact ((H_a.out.alloc _).alloc _).alloc _) hb_w4)
  obtain ⟨q_a_0, q_a_1⟩ := H_a.out.c2
  try clear q_b_0 q_b_1
  have H_b := Lib.hid (Box.below (by first | exact H_b.out | exact H_b.out.alloc _ | exact (H_b.out.alloc _).alloc _ | exact ((H_b.out.alloc _).alloc _).alloc _) hb_w4)
  obtain ⟨q_b_0, q_b_1⟩ := H_b.out.c2
  replace HSA := Lib.hid (show Sl w4 _ _ _ _ _ _ by first | exact HSA.out.below hb_w4 | exact (HSA.out.below (grew1 (Below.refl _ _))).below hb_w4 | exact (HSA.out.below (grew2 (Below.refl _ _))).below hb_w4 | exact (HSA.out.below (grew3 (Below.refl _ _))).below hb_w4)
  replace HSB := Lib.hid (show Sl w4 _ _ _ _ _ _ by first | exact HSB.out.below hb_w4 | exact (HSB.out.below (grew1 (Below.refl _ _))).below hb_w4 | exact (HSB.out.below (grew2 (Below.refl _ _))).below hb_w4 | exact (HSB.out.below (grew3 (Below.refl _ _))).below hb_w4)
  clear hW1
  go_wp2_with fail
  refine (translate_to h4.out (by first | exact HSA.out | exact HSA.out.below (grew1 (Below.refl _ _)) | exact HSA.out.below (grew2 (Below.refl _ _)) | exact HSA.out.below (grew3 (Below.refl _ _))) (by first | exact HSB.out | exact HSB.out.below (grew1 (Below.refl _ _)) | exact HSB.out.below (grew2 (Below.refl _ _)) | exact HSB.out.below (grew3 (Below.refl _ _)))).mono ?_
  rintro e w5 ⟨rfl, hb_w5⟩
  have HB_w5 : Below w.heap.size w w5 := by first | exact after0 HB_w4 hb_w5 | exact after1 HB_w4 hb_w5 | exact after2 HB_w4 hb_w5 | exact after3 HB_w4 hb_w5 | exact after4 HB_w4 hb_w5 | exact after5 HB_w4 hb_w5
  try clear q_a_0 q_a_1
  have H_a := Lib.hid (Box.below (by first | exact H_a.out | exact H_a.out.alloc _ | exact (H_a.out.alloc _).alloc _ | exact ((H_a.out.alloc _).alloc _).alloc _) hb_w5)
  obtain ⟨q_a_0, q_a_1⟩ := H_a.out.c2
  try clear q_b_0 q_b_1
  have H_b := Lib.hid (Box.below (by first | exact H_b.out | exact H_b.out.alloc _ | exact (H_b.out.alloc _).alloc _ | exact ((H_b.out.alloc _).alloc _).alloc _) hb_w5)
  obtain ⟨q_b_0, q_b_1⟩ := H_b.out.c2
  replace HSA := Lib.hid (show Sl w5 _ _ _ _ _ _ by first | exact HSA.out.below hb_w5 | exact (HSA.out.below (grew1 (Below.refl _ _))).below hb_w5 | exact (HSA.out.below (grew2 (Below.refl _ _))).below hb_w5 | exact (HSA.out.below (grew3 (Below.refl _ _))).below hb_w5)
  replace HSB := Lib.hid (show Sl w5 _ _ _ _ _ _ by first | exact HSB.out.below hb_w5 | exact (HSB.out.below (grew1 (Below.refl _ _))).below hb_w5 | exact (HSB.out.below (grew2 (Below.refl _ _))).below hb_w5 | exact (HSB.out.below (grew3 (Below.refl _ _))).below hb_w5)
  have HL' := HL.out
  go_wp2_with fail
  all_goals try (exfalso; omega)
  all_goals try (go_ret; exact ⟨rfl, HB_w5⟩)
  have hh : h = 0 := by first | assumption | exact beq_bne_f (by assumption)
  obtain ⟨rfl, rfl, hpq⟩ := HL.out.1 (by assumption) hh
  clear HL' q_x_0 q_x_1 q_x_2 q_y_0 q_y_1 q_y_2
  refine (find_to h5.out (by first | exact HSB.out | exact HSB.out.below (grew1 (Below.refl _ _)) | exact HSB.out.below (grew2 (Below.refl _ _)) | exact HSB.out.below (grew3 (Below.refl _ _)))).mono ?_
  rintro e w6 ⟨rfl, hb_w6⟩
  have HB_w6 : Below w.heap.size w w6 := by first | exact after0 HB_w5 hb_w6 | exact after1 HB_w5 hb_w6 | exact after2 HB_w5 hb_w6 | exact after3 HB_w5 hb_w6 | exact after4 HB_w5 hb_w6 | exact after5 HB_w5 hb_w6
  try clear q_a_0 q_a_1
  have H_a := Lib.hid (Box.below (by first | exact H_a.out | exact H_a.out.alloc _ | exact (H_a.out.alloc _).alloc _ | exact ((H_a.out.alloc _).alloc _).alloc _) hb_w6)
  obtain ⟨q_a_0, q_a_1⟩ := H_a.out.c2
  try clear q_b_0 q_b_1
  have H_b := Lib.hid (Box.below (by first | exact H_b.out | exact H_b.out.alloc _ | exact (H_b.out.alloc _).alloc _ | exact ((H_b.out.alloc _).alloc _).alloc _) hb_w6)
  obtain ⟨q_b_0, q_b_1⟩ := H_b.out.c2
  replace HSA := Lib.hid (show Sl w6 _ _ _ _ _ _ by first | exact HSA.out.below hb_w6 | exact (HSA.out.below (grew1 (Below.refl _ _))).below hb_w6 | exact (HSA.out.below (grew2 (Below.refl _ _))).below hb_w6 | exact (HSA.out.below (grew3 (Below.refl _ _))).below hb_w6)
  replace HSB := Lib.hid (show Sl w6 _ _ _ _ _ _ by first | exact HSB.out.below hb_w6 | exact (HSB.out.below (grew1 (Below.refl _ _))).below hb_w6 | exact (HSB.out.below (grew2 (Below.refl _ _))).below hb_w6 | exact (HSB.out.below (grew3 (Below.refl _ _))).below hb_w6)
  have H_p := Lib.hid (Box.new w6 [.int .i64 p0, .int .i64 p1, .int .i64 p2] 29)
  obtain ⟨z0, z1⟩ := (H_b.out.alloc (.cells #[.int .i64 p0, .int .i64 p1, .int .i64 p2] 29)).c2
  go_wp2_with fail
  refine (find_to h6.out (by first | exact HSB.out | exact HSB.out.below (grew1 (Below.refl _ _)) | exact HSB.out.below (grew2 (Below.refl _ _)) | exact HSB.out.below (grew3 (Below.refl _ _)))).mono ?_
  rintro e w7 ⟨rfl, hb_w7⟩
  have HB_w7 : Below w.heap.size w w7 := by first | exact after0 HB_w6 hb_w7 | exact after1 HB_w6 hb_w7 | exact after2 HB_w6 hb_w7 | exact after3 HB_w6 hb_w7 | exact after4 HB_w6 hb_w7 | exact after5 HB_w6 hb_w7
  try clear q_p_0 q_p_1 q_p_2
  have H_p := Lib.hid (Box.below (by first | exact H_p.out | exact H_p.out.alloc _ | exact (H_p.out.alloc _).alloc _ | exact ((H_p.out.alloc _).alloc _).alloc _) hb_w7)
  obtain ⟨q_p_0, q_p_1, q_p_2⟩ := H_p.out.c3
  replace HSA := Lib.hid (show Sl w7 _ _ _ _ _ _ by first | exact HSA.out.below hb_w7 | exact (HSA.out.below (grew1 (Below.refl _ _))).below hb_w7 | exact (HSA.out.below (grew2 (Below.refl _ _))).below hb_w7 | exact (HSA.out.below (grew3 (Below.refl _ _))).below hb_w7)
  replace HSB := Lib.hid (show Sl w7 _ _ _ _ _ _ by first | exact HSB.out.below hb_w7 | exact (HSB.out.below (grew1 (Below.refl _ _))).below hb_w7 | exact (HSB.out.below (grew2 (Below.refl _ _))).below hb_w7 | exact (HSB.out.below (grew3 (Below.refl _ _))).below hb_w7)
  clear z0 z1 q_a_0 q_a_1 q_b_0 q_b_1 q_p_0 q_p_1 q_p_2
  obtain ⟨W2, hW2, HB_W2, hZ, hY⟩ := boxes1 w7 [.int .i64 q0, .int .i64 q1, .int .i64 q2] 29
  have H_q := Lib.hid hY
  replace H_p := Lib.hid (H_p.out.below HB_W2)
  replace HB_W2 := after0 HB_w7 HB_W2
  clear hY hZ
  obtain ⟨q_p_0, q_p_1, q_p_2⟩ := H_p.out.c3
  obtain ⟨q_q_0, q_q_1, q_q_2⟩ := H_q.out.c3
  go_wp2_with fail
  all_goals try (exfalso; omega)
  all_goals
    go_ret
    exact ⟨rfl, HB_W2⟩
end Go.Proofs.Ytmnlkndbdcdngaa
