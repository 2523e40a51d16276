/-
  The walk of 'SymbolOwn'.
-/
import Derived.Test.YtmnlkndbdcdngaaSymN
namespace Go.Proofs.Ytmnlkndbdcdngaa
open Go.RowKit Sb Sk Go.Sort
set_option linter.unusedVariables false


set_option maxRecDepth 100000 in
set_option maxHeartbeats 8000000 in
theorem own_walk (oa : Int) (aa : Option Addr) (na ca : Nat) (a : List Mk) (s : Int) (w : World) (ha : Sl w 3 cM aa na ca a) :
    Calls Try.prog 5 #[.agg #[.int .i64 oa, .slice aa na ca], .int .i64 s] w (Ret w (.bool true)) := by
  obtain ⟨l, e, h1⟩ := syms_ex oa a oa a isLost
  obtain ⟨k, f, h2⟩ := syms_ex oa a oa a isChanged
  obtain ⟨m0, m1, m2, g, h3⟩ := find_ex oa a s
  obtain ⟨t, h, h4⟩ := translate_ex oa a oa a s
  obtain ⟨x0, x1, x2, i, h5⟩ := find_ex oa a t
  have HLAW := own_law h1 h2 h3 h4 h5
  replace h1 := Lib.hid h1
  replace h2 := Lib.hid h2
  replace h3 := Lib.hid h3
  replace h4 := Lib.hid h4
  replace h5 := Lib.hid h5
  obtain ⟨W0, hW0, HB_W0, hZ, hA⟩ := boxes1 w [.int .i64 oa, .slice aa na ca] 24
  have H_a := Lib.hid hA
  have HSA := Lib.hid (ha.below HB_W0)
  clear ha hA hZ
  rcases HLAW with ⟨k1, rfl, rfl, rfl⟩ | ⟨k1, rfl, rfl, rfl, rfl, rfl, k7⟩
  · replace k1 := Lib.hid k1
    go_enter Try.func5, Try.ntmps5
    go_wp2_with fail
    refine (head_any _).mono ?_
    rintro e w1 ⟨rfl, hb_w1⟩
    have HB_w1 : Below w.heap.size w w1 := by first | exact after0 HB_W0 hb_w1 | exact after1 HB_W0 hb_w1 | exact after2 HB_W0 hb_w1 | exact after3 HB_W0 hb_w1 | exact after4 HB_W0 hb_w1 | exact after5 HB_W0 hb_w1
    try clear q_a_0 q_a_1
    have H_a := Lib.hid (Box.below (by first | exact H_a.out | exact H_a.out.alloc _ | exact (H_a.out.alloc _).alloc _ | exact ((H_a.out.alloc _).alloc _).alloc _) hb_w1)
    obtain ⟨q_a_0, q_a_1⟩ := H_a.out.c2
    replace HSA := Lib.hid (show Sl w1 _ _ _ _ _ _ by first | exact HSA.out.below hb_w1 | exact (HSA.out.below (grew1 (Below.refl _ _))).below hb_w1 | exact (HSA.out.below (grew2 (Below.refl _ _))).below hb_w1 | exact (HSA.out.below (grew3 (Below.refl _ _))).below hb_w1)
    clear hW0
    go_wp2_with fail
    refine (lost_to h1.out (by first | exact HSA.out | exact HSA.out.below (grew1 (Below.refl _ _)) | exact HSA.out.below (grew2 (Below.refl _ _)) | exact HSA.out.below (grew3 (Below.refl _ _))) (by first | exact HSA.out | exact HSA.out.below (grew1 (Below.refl _ _)) | exact HSA.out.below (grew2 (Below.refl _ _)) | exact HSA.out.below (grew3 (Below.refl _ _)))).mono ?_
    rintro e w2 ⟨ao1, n1, cap1, rfl, hl, hb_w2⟩
    have HB_w2 : Below w.heap.size w w2 := by first | exact after0 HB_w1 hb_w2 | exact after1 HB_w1 hb_w2 | exact after2 HB_w1 hb_w2 | exact after3 HB_w1 hb_w2 | exact after4 HB_w1 hb_w2 | exact after5 HB_w1 hb_w2
    try clear q_a_0 q_a_1
    have H_a := Lib.hid (Box.below (by first | exact H_a.out | exact H_a.out.alloc _ | exact (H_a.out.alloc _).alloc _ | exact ((H_a.out.alloc _).alloc _).alloc _) hb_w2)
    obtain ⟨q_a_0, q_a_1⟩ := H_a.out.c2
    replace HSA := Lib.hid (show Sl w2 _ _ _ _ _ _ by first | exact HSA.out.below hb_w2 | exact (HSA.out.below (grew1 (Below.refl _ _))).below hb_w2 | exact (HSA.out.below (grew2 (Below.refl _ _))).below hb_w2 | exact (HSA.out.below (grew3 (Below.refl _ _))).below hb_w2)
    obtain rfl : 0 = n1 := hl.len
    clear hl
    go_wp2_with fail
    refine (changed_to h2.out (by first | exact HSA.out | exact HSA.out.below (grew1 (Below.refl _ _)) | exact HSA.out.below (grew2 (Below.refl _ _)) | exact HSA.out.below (grew3 (Below.refl _ _))) (by first | exact HSA.out | exact HSA.out.below (grew1 (Below.refl _ _)) | exact HSA.out.below (grew2 (Below.refl _ _)) | exact HSA.out.below (grew3 (Below.refl _ _)))).mono ?_
    rintro e w3 ⟨ao2, n2, cap2, rfl, hl, hb_w3⟩
    have HB_w3 : Below w.heap.size w w3 := by first | exact after0 HB_w2 hb_w3 | exact after1 HB_w2 hb_w3 | exact after2 HB_w2 hb_w3 | exact after3 HB_w2 hb_w3 | exact after4 HB_w2 hb_w3 | exact after5 HB_w2 hb_w3
    try clear q_a_0 q_a_1
    have H_a := Lib.hid (Box.below (by first | exact H_a.out | exact H_a.out.alloc _ | exact (H_a.out.alloc _).alloc _ | exact ((H_a.out.alloc _).alloc _).alloc _) hb_w3)
    obtain ⟨q_a_0, q_a_1⟩ := H_a.out.c2
    replace HSA := Lib.hid (show Sl w3 _ _ _ _ _ _ by first | exact HSA.out.below hb_w3 | exact (HSA.out.below (grew1 (Below.refl _ _))).below hb_w3 | exact (HSA.out.below (grew2 (Below.refl _ _))).below hb_w3 | exact (HSA.out.below (grew3 (Below.refl _ _))).below hb_w3)
    clear hl
    go_wp2_with fail
    refine (bvalid_any _ _ _ _ _ _ (by first | exact HSA.out | exact HSA.out.below (grew1 (Below.refl _ _)) | exact HSA.out.below (grew2 (Below.refl _ _)) | exact HSA.out.below (grew3 (Below.refl _ _)))).mono ?_
    rintro e w4 ⟨rfl, hb_w4⟩
    have HB_w4 : Below w.heap.size w w4 := by first | exact after0 HB_w3 hb_w4 | exact after1 HB_w3 hb_w4 | exact after2 HB_w3 hb_w4 | exact after3 HB_w3 hb_w4 | exact after4 HB_w3 hb_w4 | exact after5 HB_w3 hb_w4
    rw [k1.out]
    go_wp2_with fail
    go_ret
    exact ⟨rfl, HB_w4⟩
  · replace k1 := Lib.hid k1
    replace k7 := Lib.hid k7
    go_enter Try.func5, Try.ntmps5
    go_wp2_with fail
    refine (head_any _).mono ?_
    rintro e w1 ⟨rfl, hb_w1⟩
    have HB_w1 : Below w.heap.size w w1 := by first | exact after0 HB_W0 hb_w1 | exact after1 HB_W0 hb_w1 | exact after2 HB_W0 hb_w1 | exact after3 HB_W0 hb_w1 | exact after4 HB_W0 hb_w1 | exact after5 HB_W0 hb_w1
    try clear q_a_0 q_a_1
    have H_a := Lib.hid (Box.below (by first | exact H_a.out | exact H_a.out.alloc _ | exact (H_a.out.alloc _).alloc _ | exact ((H_a.out.alloc _).alloc _).alloc _) hb_w1)
    obtain ⟨q_a_0, q_a_1⟩ := H_a.out.c2
    replace HSA := Lib.hid (show Sl w1 _ _ _ _ _ _ by first | exact HSA.out.below hb_w1 | exact (HSA.out.below (grew1 (Below.refl _ _))).below hb_w1 | exact (HSA.out.below (grew2 (Below.refl _ _))).below hb_w1 | exact (HSA.out.below (grew3 (Below.refl _ _))).below hb_w1)
    clear hW0
    go_wp2_with fail
    refine (lost_to h1.out (by first | exact HSA.out | exact HSA.out.below (grew1 (Below.refl _ _)) | exact HSA.out.below (grew2 (Below.refl _ _)) | exact HSA.out.below (grew3 (Below.refl _ _))) (by first | exact HSA.out | exact HSA.out.below (grew1 (Below.refl _ _)) | exact HSA.out.below (grew2 (Below.refl _ _)) | exact HSA.out.below (grew3 (Below.refl _ _)))).mono ?_
    rintro e w2 ⟨ao1, n1, cap1, rfl, hl, hb_w2⟩
    have HB_w2 : Below w.heap.size w w2 := by first | exact after0 HB_w1 hb_w2 | exact after1 HB_w1 hb_w2 | exact after2 HB_w1 hb_w2 | exact after3 HB_w1 hb_w2 | exact after4 HB_w1 hb_w2 | exact after5 HB_w1 hb_w2
    try clear q_a_0 q_a_1
    have H_a := Lib.hid (Box.below (by first | exact H_a.out | exact H_a.out.alloc _ | exact (H_a.out.alloc _).alloc _ | exact ((H_a.out.alloc _).alloc _).alloc _) hb_w2)
    obtain ⟨q_a_0, q_a_1⟩ := H_a.out.c2
    replace HSA := Lib.hid (show Sl w2 _ _ _ _ _ _ by first | exact HSA.out.below hb_w2 | exact (HSA.out.below (grew1 (Below.refl _ _))).below hb_w2 | exact (HSA.out.below (grew2 (Below.refl _ _))).below hb_w2 | exact (HSA.out.below (grew3 (Below.refl _ _))).below hb_w2)
    obtain rfl : 0 = n1 := hl.len
    clear hl
    go_wp2_with fail
    refine (changed_to h2.out (by first | exact HSA.out | exact HSA.out.below (grew1 (Below.refl _ _)) | exact HSA.out.below (grew2 (Below.refl _ _)) | exact HSA.out.below (grew3 (Below.refl _ _))) (by first | exact HSA.out | exact HSA.out.below (grew1 (Below.refl _ _)) | exact HSA.out.below (grew2 (Below.refl _ _)) | exact HSA.out.below (grew3 (Below.refl _ _)))).mono ?_
    rintro e w3 ⟨ao2, n2, cap2, rfl, hl, hb_w3⟩
    have HB_w3 : Below w.heap.size w w3 := by first | exact after0 HB_w2 hb_w3 | exact after1 HB_w2 hb_w3 | exact after2 HB_w2 hb_w3 | exact after3 HB_w2 hb_w3 | exact after4 HB_w2 hb_w3 | exact after5 HB_w2 hb_w3
    try clear q_a_0 q_a_1
    have H_a := Lib.hid (Box.below (by first | exact H_a.out | exact H_a.out.alloc _ | exact (H_a.out.alloc _).alloc _ | exact ((H_a.out.alloc _).alloc _).alloc _) hb_w3)
    obtain ⟨q_a_0, q_a_1⟩ := H_a.out.c2
    replace HSA := Lib.hid (show Sl w3 _ _ _ _ _ _ by first | exact HSA.out.below hb_w3 | exact (HSA.out.below (grew1 (Below.refl _ _))).below hb_w3 | exact (HSA.out.below (grew2 (Below.refl _ _))).below hb_w3 | exact (HSA.out.below (grew3 (Below.refl _ _))).below hb_w3)
    obtain rfl : 0 = n2 := hl.len
    clear hl
    go_wp2_with fail
    refine (find_to h3.out (by first | exact HSA.out | exact HSA.out.below (grew1 (Below.refl _ _)) | exact HSA.out.below (grew2 (Below.refl _ _)) | exact HSA.out.below (grew3 (Below.refl _ _)))).mono ?_
    rintro e w4 ⟨rfl, hb_w4⟩
    have HB_w4 : Below w.heap.size w w4 := by first | exact after0 HB_w3 hb_w4 | exact after1 HB_w3 hb_w4 | exact after2 HB_w3 hb_w4 | exact after3 HB_w3 hb_w4 | exact after4 HB_w3 hb_w4 | exact after5 HB_w3 hb_w4
    try clear q_a_0 q_a_1
    have H_a := Lib.hid (Box.below (by first | exact H_a.out | exact H_a.out.alloc _ | exact (H_a.out.alloc _).alloc _ | exact ((H_a.out.alloc _).alloc _).alloc _) hb_w4)
    obtain ⟨q_a_0, q_a_1⟩ := H_a.out.c2
    replace HSA := Lib.hid (show Sl w4 _ _ _ _ _ _ by first | exact HSA.out.below hb_w4 | exact (HSA.out.below (grew1 (Below.refl _ _))).below hb_w4 | exact (HSA.out.below (grew2 (Below.refl _ _))).below hb_w4 | exact (HSA.out.below (grew3 (Below.refl _ _))).below hb_w4)
    have H_m := Lib.hid (Box.new w4 [.int .i64 m0, .int .i64 m1, .int .i64 m2] 29)
    obtain ⟨z0, z1⟩ := (H_a.out.alloc (.cells #[.int .i64 m0, .int .i64 m1, .int .i64 m2] 29)).c2
    go_wp2_with fail
    clear z0 z1
    refine (translate_to h4.out (by first | exact HSA.out | exact HSA.out.below (grew1 (Below.refl _ _)) | exact HSA.out.below (grew2 (Below.refl _ _)) | exact HSA.out.below (grew3 (Below.refl _ _))) (by first | exact HSA.out | exact HSA.out.below (grew1 (Below.refl _ _)) | exact HSA.out.below (grew2 (Below.refl _ _)) | exact HSA.out.below (grew3 (Below.refl _ _)))).mono ?_
    rintro e w5 ⟨rfl, hb_w5⟩
    have HB_w5 : Below w.heap.size w w5 := by first | exact after0 HB_w4 hb_w5 | exact after1 HB_w4 hb_w5 | exact after2 HB_w4 hb_w5 | exact after3 HB_w4 hb_w5 | exact after4 HB_w4 hb_w5 | exact after5 HB_w4 hb_w5
    try clear q_a_0 q_a_1
    have H_a := Lib.hid (Box.below (by first | exact H_a.out | exact H_a.out.alloc _ | exact (H_a.out.alloc _).alloc _ | exact ((H_a.out.alloc _).alloc _).alloc _) hb_w5)
    obtain ⟨q_a_0, q_a_1⟩ := H_a.out.c2
    try clear q_m_0 q_m_1 q_m_2
    have H_m := Lib.hid (Box.below (by first | exact H_m.out | exact H_m.out.alloc _ | exact (H_m.out.alloc _).alloc _ | exact ((H_m.out.alloc _).alloc _).alloc _) hb_w5)
    obtain ⟨q_m_0, q_m_1, q_m_2⟩ := H_m.out.c3
    replace HSA := Lib.hid (show Sl w5 _ _ _ _ _ _ by first | exact HSA.out.below hb_w5 | exact (HSA.out.below (grew1 (Below.refl _ _))).below hb_w5 | exact (HSA.out.below (grew2 (Below.refl _ _))).below hb_w5 | exact (HSA.out.below (grew3 (Below.refl _ _))).below hb_w5)
    go_wp2_with fail
    all_goals try (exfalso; omega)
    all_goals try (go_ret; first | exact ⟨rfl, HB_w5⟩ | (refine ⟨ret_bool ?_, HB_w5⟩; simp; omega))
    have k8 := Lib.hid (k7.out (by first | assumption | exact beq_bne_f (by assumption)))
    refine (find_to h5.out (by first | exact HSA.out | exact HSA.out.below (grew1 (Below.refl _ _)) | exact HSA.out.below (grew2 (Below.refl _ _)) | exact HSA.out.below (grew3 (Below.refl _ _)))).mono ?_
    rintro e w6 ⟨rfl, hb_w6⟩
    have HB_w6 : Below w.heap.size w w6 := by first | exact after0 HB_w5 hb_w6 | exact after1 HB_w5 hb_w6 | exact after2 HB_w5 hb_w6 | exact after3 HB_w5 hb_w6 | exact after4 HB_w5 hb_w6 | exact after5 HB_w5 hb_w6
    try clear q_m_0 q_m_1 q_m_2
    have H_m := Lib.hid (Box.below (by first | exact H_m.out | exact H_m.out.alloc _ | exact (H_m.out.alloc _).alloc _ | exact ((H_m.out.alloc _).alloc _).alloc _) hb_w6)
    obtain ⟨q_m_0, q_m_1, q_m_2⟩ := H_m.out.c3
    clear q_m_0 q_m_1 q_m_2 q_a_0 q_a_1
    obtain ⟨W2, hW2, HB_W2, hZ, hY⟩ := boxes1 w6 [.int .i64 x0, .int .i64 x1, .int .i64 x2] 29
    have H_x := Lib.hid hY
    clear hY hZ
    replace H_m := Lib.hid (H_m.out.below HB_W2)
    replace HB_W2 := after0 HB_w6 HB_W2
    obtain ⟨q_m_0, q_m_1, q_m_2⟩ := H_m.out.c3
    obtain ⟨q_x_0, q_x_1, q_x_2⟩ := H_x.out.c3
    obtain ⟨rfl, k9, rfl, rfl⟩ := k8.out
    go_wp2_with fail
    all_goals try (exfalso; omega)
    all_goals try (go_ret; first | exact ⟨rfl, HB_W2⟩ | (refine ⟨ret_bool ?_, HB_W2⟩; simp; omega))
end Go.Proofs.Ytmnlkndbdcdngaa
