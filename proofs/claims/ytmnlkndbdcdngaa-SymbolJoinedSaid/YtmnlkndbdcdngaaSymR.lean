/-
  The walk of 'SymbolJoined'.
-/
import Derived.Test.YtmnlkndbdcdngaaSymQ
namespace Go.Proofs.Ytmnlkndbdcdngaa
open Go.RowKit Sb Sk Go.Sort
set_option linter.unusedVariables false



set_option maxRecDepth 100000 in
set_option maxHeartbeats 8000000 in
theorem joined_walk (oa : Int) (aa : Option Addr) (na ca : Nat) (a : List Mk) (ob : Int) (ab : Option Addr) (nb cb : Nat) (b : List Mk) (s : Int) (w : World) (ha : Sl w 3 cM aa na ca a) (hb : Sl w 3 cM ab nb cb b) :
    Calls Try.prog 10 #[.agg #[.int .i64 oa, .slice aa na ca], .agg #[.int .i64 ob, .slice ab nb cb], .int .i64 s] w (Ret w (.bool true)) := by
  obtain ⟨o1, l1, e, h1⟩ := join_ex oa a oa a
  obtain ⟨oc, lc, f, h2⟩ := join_ex oa a ob b
  obtain ⟨od, ld, g, h3⟩ := join_ex ob b oa a
  obtain ⟨x0, x1, x2, h, h4⟩ := find_ex oa a s
  obtain ⟨y0, y1, y2, i, h5⟩ := find_ex ob b s
  obtain ⟨u0, u1, u2, k, h6⟩ := find_ex oc lc s
  obtain ⟨l, m, h7⟩ := syms_ex oa a oc lc isLost
  obtain ⟨n, o, h8⟩ := syms_ex ob b oc lc isLost
  have HLAW := joined_law h1 h2 h3 h4 h5 h6 h7 h8
  replace h1 := Lib.hid h1
  replace h2 := Lib.hid h2
  replace h3 := Lib.hid h3
  replace h4 := Lib.hid h4
  replace h5 := Lib.hid h5
  replace h6 := Lib.hid h6
  replace h7 := Lib.hid h7
  replace h8 := Lib.hid h8
  obtain ⟨W0, hW0, HB_W0, hZ, hA, hB⟩ := boxes2 w [.int .i64 oa, .slice aa na ca] [.int .i64 ob, .slice ab nb cb] 24 24
  have H_a := Lib.hid hA
  have H_b := Lib.hid hB
  have HSA := Lib.hid (ha.below HB_W0)
  have HSB := Lib.hid (hb.below HB_W0)
  clear ha hb hA hB hZ
  rcases HLAW with ⟨rfl, k1, k2, rfl⟩ | ⟨rfl, rfl, rfl, k2, rfl⟩ | ⟨rfl, rfl, rfl, rfl, rfl, rfl, rfl, k1, k2, k3, k4, rfl, rfl, rfl, rfl⟩
  · replace k1 := Lib.hid k1
    go_enter Try.func10, Try.ntmps10
    go_wp2_with fail
    refine (head_any _).mono ?_
    rintro e w1 ⟨rfl, hb_w1⟩
    have HB_w1 : Below w.heap.size w w1 := by first | exact after0 HB_W0 hb_w1 | exact after1 HB_W0 hb_w1 | exact after2 HB_W0 hb_w1 | exact after3 HB_W0 hb_w1 | exact after4 HB_W0 hb_w1 | exact after5 HB_W0 hb_w1
    try clear q_a_0 q_a_1
    have H_a := Lib.hid (Box.below (by first | exact H_a.out | exact H_a.out.alloc _ | exact (H_a.out.alloc _).alloc _ | exact ((H_a.out.alloc _).alloc _).alloc _) hb_w1)
    obtain ⟨q_a_0, q_a_1⟩ := H_a.out.c2
    try clear q_b_0 q_b_1
    have H_b := Lib.hid (Box.below (by first | exact H_b.out | exact H_b.out.alloc _ | exact (H_b.out.alloc _).alloc _ | exact ((H_b.out.alloc _).alloc _).alloc _) hb_w1)
    obtain ⟨q_b_0, q_b_1⟩ := H_b.out.c2
    replace HSA := Lib.hid (show Sl w1 _ _ _ _ _ _ by first | exact HSA.out.below hb_w1 | exact (HSA.out.below (grew1 (Below.refl _ _))).below hb_w1 | exact (HSA.out.below (grew2 (Below.refl _ _))).below hb_w1 | exact (HSA.out.below (grew3 (Below.refl _ _))).below hb_w1)
    replace HSB := Lib.hid (show Sl w1 _ _ _ _ _ _ by first | exact HSB.out.below hb_w1 | exact (HSB.out.below (grew1 (Below.refl _ _))).below hb_w1 | exact (HSB.out.below (grew2 (Below.refl _ _))).below hb_w1 | exact (HSB.out.below (grew3 (Below.refl _ _))).below hb_w1)
    clear hW0
    go_wp2_with fail
    refine (join_to h1.out (by first | exact HSA.out | exact HSA.out.below (grew1 (Below.refl _ _)) | exact HSA.out.below (grew2 (Below.refl _ _)) | exact HSA.out.below (grew3 (Below.refl _ _))) (by first | exact HSA.out | exact HSA.out.below (grew1 (Below.refl _ _)) | exact HSA.out.below (grew2 (Below.refl _ _)) | exact HSA.out.below (grew3 (Below.refl _ _)))).mono ?_
    rintro e w2 ⟨ao1, n1, cap1, rfl, hl, hb_w2⟩
    have HB_w2 : Below w.heap.size w w2 := by first | exact after0 HB_w1 hb_w2 | exact after1 HB_w1 hb_w2 | exact after2 HB_w1 hb_w2 | exact after3 HB_w1 hb_w2 | exact after4 HB_w1 hb_w2 | exact after5 HB_w1 hb_w2
    try clear q_a_0 q_a_1
    have H_a := Lib.hid (Box.below (by first | exact H_a.out | exact H_a.out.alloc _ | exact (H_a.out.alloc _).alloc _ | exact ((H_a.out.alloc _).alloc _).alloc _) hb_w2)
    obtain ⟨q_a_0, q_a_1⟩ := H_a.out.c2
    try clear q_b_0 q_b_1
    have H_b := Lib.hid (Box.below (by first | exact H_b.out | exact H_b.out.alloc _ | exact (H_b.out.alloc _).alloc _ | exact ((H_b.out.alloc _).alloc _).alloc _) hb_w2)
    obtain ⟨q_b_0, q_b_1⟩ := H_b.out.c2
    replace HSA := Lib.hid (show Sl w2 _ _ _ _ _ _ by first | exact HSA.out.below hb_w2 | exact (HSA.out.below (grew1 (Below.refl _ _))).below hb_w2 | exact (HSA.out.below (grew2 (Below.refl _ _))).below hb_w2 | exact (HSA.out.below (grew3 (Below.refl _ _))).below hb_w2)
    replace HSB := Lib.hid (show Sl w2 _ _ _ _ _ _ by first | exact HSB.out.below hb_w2 | exact (HSB.out.below (grew1 (Below.refl _ _))).below hb_w2 | exact (HSB.out.below (grew2 (Below.refl _ _))).below hb_w2 | exact (HSB.out.below (grew3 (Below.refl _ _))).below hb_w2)
    have HS1 := Lib.hid hl
    clear hl
    clear q_a_0 q_a_1 q_b_0 q_b_1
    obtain ⟨W1, hW1, HB_W1, hZ, hY⟩ := boxes1 w2 [.int .i64 o1, .slice ao1 n1 cap1] 24
    have H_o := Lib.hid hY
    replace H_a := Lib.hid (H_a.out.below HB_W1)
    replace H_b := Lib.hid (H_b.out.below HB_W1)
    replace HSA := Lib.hid (HSA.out.below HB_W1)
    replace HSB := Lib.hid (HSB.out.below HB_W1)
    replace HS1 := Lib.hid (HS1.out.below HB_W1)
    replace HB_W1 := after0 HB_w2 HB_W1
    clear hY hZ
    obtain ⟨q_a_0, q_a_1⟩ := H_a.out.c2
    obtain ⟨q_b_0, q_b_1⟩ := H_b.out.c2
    obtain ⟨q_o_0, q_o_1⟩ := H_o.out.c2
    go_wp2_with fail
    all_goals try (exfalso; omega)
    refine (bvalid_any _ _ _ _ _ _ (by first | exact HSA.out | exact HSA.out.below (grew1 (Below.refl _ _)) | exact HSA.out.below (grew2 (Below.refl _ _)) | exact HSA.out.below (grew3 (Below.refl _ _)))).mono ?_
    rintro e w3 ⟨rfl, hb_w3⟩
    have HB_w3 : Below w.heap.size w w3 := by first | exact after0 HB_W1 hb_w3 | exact after1 HB_W1 hb_w3 | exact after2 HB_W1 hb_w3 | exact after3 HB_W1 hb_w3 | exact after4 HB_W1 hb_w3 | exact after5 HB_W1 hb_w3
    try clear q_a_0 q_a_1
    have H_a := Lib.hid (Box.below (by first | exact H_a.out | exact H_a.out.alloc _ | exact (H_a.out.alloc _).alloc _ | exact ((H_a.out.alloc _).alloc _).alloc _) hb_w3)
    obtain ⟨q_a_0, q_a_1⟩ := H_a.out.c2
    try clear q_b_0 q_b_1
    have H_b := Lib.hid (Box.below (by first | exact H_b.out | exact H_b.out.alloc _ | exact (H_b.out.alloc _).alloc _ | exact ((H_b.out.alloc _).alloc _).alloc _) hb_w3)
    obtain ⟨q_b_0, q_b_1⟩ := H_b.out.c2
    replace HSA := Lib.hid (show Sl w3 _ _ _ _ _ _ by first | exact HSA.out.below hb_w3 | exact (HSA.out.below (grew1 (Below.refl _ _))).below hb_w3 | exact (HSA.out.below (grew2 (Below.refl _ _))).below hb_w3 | exact (HSA.out.below (grew3 (Below.refl _ _))).below hb_w3)
    replace HSB := Lib.hid (show Sl w3 _ _ _ _ _ _ by first | exact HSB.out.below hb_w3 | exact (HSB.out.below (grew1 (Below.refl _ _))).below hb_w3 | exact (HSB.out.below (grew2 (Below.refl _ _))).below hb_w3 | exact (HSB.out.below (grew3 (Below.refl _ _))).below hb_w3)
    clear hW1
    rw [k1.out]
    go_wp2_with fail
    refine (join_to h2.out (by first | exact HSA.out | exact HSA.out.below (grew1 (Below.refl _ _)) | exact HSA.out.below (grew2 (Below.refl _ _)) | exact HSA.out.below (grew3 (Below.refl _ _))) (by first | exact HSB.out | exact HSB.out.below (grew1 (Below.refl _ _)) | exact HSB.out.below (grew2 (Below.refl _ _)) | exact HSB.out.below (grew3 (Below.refl _ _)))).mono ?_
    rintro e w4 ⟨ao2, n2, cap2, rfl, hl, hb_w4⟩
    have HB_w4 : Below w.heap.size w w4 := by first | exact after0 HB_w3 hb_w4 | exact after1 HB_w3 hb_w4 | exact after2 HB_w3 hb_w4 | exact after3 HB_w3 hb_w4 | exact after4 HB_w3 hb_w4 | exact after5 HB_w3 hb_w4
    try clear q_a_0 q_a_1
    have H_a := Lib.hid (Box.below (by first | exact H_a.out | exact H_a.out.alloc _ | exact (H_a.out.alloc _).alloc _ | exact ((H_a.out.alloc _).alloc _).alloc _) hb_w4)
    obtain ⟨q_a_0, q_a_1⟩ := H_a.out.c2
    try clear q_b_0 q_b_1
    have H_b := Lib.hid (Box.below (by first | exact H_b.out | exact H_b.out.alloc _ | exact (H_b.out.alloc _).alloc _ | exact ((H_b.out.alloc _).alloc _).alloc _) hb_w4)
    obtain ⟨q_b_0, q_b_1⟩ := H_b.out.c2
    replace HSA := Lib.hid (show Sl w4 _ _ _ _ _ _ by first | exact HSA.out.below hb_w4 | exact (HSA.out.below (grew1 (Below.refl _ _))).below hb_w4 | exact (HSA.out.below (grew2 (Below.refl _ _))).below hb_w4 | exact (HSA.out.below (grew3 (Below.refl _ _))).below hb_w4)
    replace HSB := Lib.hid (show Sl w4 _ _ _ _ _ _ by first | exact HSB.out.below hb_w4 | exact (HSB.out.below (grew1 (Below.refl _ _))).below hb_w4 | exact (HSB.out.below (grew2 (Below.refl _ _))).below hb_w4 | exact (HSB.out.below (grew3 (Below.refl _ _))).below hb_w4)
    have HSC := Lib.hid hl
    clear hl
    have H_c := Lib.hid (Box.new w4 [.int .i64 oc, .slice ao2 n2 cap2] 24)
    have HA' := (H_a.out.alloc (.cells #[.int .i64 oc, .slice ao2 n2 cap2] 24)).c2
    have HB' := (H_b.out.alloc (.cells #[.int .i64 oc, .slice ao2 n2 cap2] 24)).c2
    obtain ⟨z0, z1⟩ := HA'
    obtain ⟨z2, z3⟩ := HB'
    go_wp2_with fail
    all_goals try (exfalso; omega)
    clear z0 z1 z2 z3
    refine (join_to h3.out (by first | exact HSB.out | exact HSB.out.below (grew1 (Below.refl _ _)) | exact HSB.out.below (grew2 (Below.refl _ _)) | exact HSB.out.below (grew3 (Below.refl _ _))) (by first | exact HSA.out | exact HSA.out.below (grew1 (Below.refl _ _)) | exact HSA.out.below (grew2 (Below.refl _ _)) | exact HSA.out.below (grew3 (Below.refl _ _)))).mono ?_
    rintro e w5 ⟨ao3, n3, cap3, rfl, hl, hb_w5⟩
    have HB_w5 : Below w.heap.size w w5 := by first | exact after0 HB_w4 hb_w5 | exact after1 HB_w4 hb_w5 | exact after2 HB_w4 hb_w5 | exact after3 HB_w4 hb_w5 | exact after4 HB_w4 hb_w5 | exact after5 HB_w4 hb_w5
    try clear q_a_0 q_a_1
    have H_a := Lib.hid (Box.below (by first | exact H_a.out | exact H_a.out.alloc _ | exact (H_a.out.alloc _).alloc _ | exact ((H_a.out.alloc _).alloc _).alloc _) hb_w5)
    obtain ⟨q_a_0, q_a_1⟩ := H_a.out.c2
    try clear q_b_0 q_b_1
    have H_b := Lib.hid (Box.below (by first | exact H_b.out | exact H_b.out.alloc _ | exact (H_b.out.alloc _).alloc _ | exact ((H_b.out.alloc _).alloc _).alloc _) hb_w5)
    obtain ⟨q_b_0, q_b_1⟩ := H_b.out.c2
    try clear q_c_0 q_c_1
    have H_c := Lib.hid (Box.below (by first | exact H_c.out | exact H_c.out.alloc _ | exact (H_c.out.alloc _).alloc _ | exact ((H_c.out.alloc _).alloc _).alloc _) hb_w5)
    obtain ⟨q_c_0, q_c_1⟩ := H_c.out.c2
    replace HSA := Lib.hid (show Sl w5 _ _ _ _ _ _ by first | exact HSA.out.below hb_w5 | exact (HSA.out.below (grew1 (Below.refl _ _))).below hb_w5 | exact (HSA.out.below (grew2 (Below.refl _ _))).below hb_w5 | exact (HSA.out.below (grew3 (Below.refl _ _))).below hb_w5)
    replace HSB := Lib.hid (show Sl w5 _ _ _ _ _ _ by first | exact HSB.out.below hb_w5 | exact (HSB.out.below (grew1 (Below.refl _ _))).below hb_w5 | exact (HSB.out.below (grew2 (Below.refl _ _))).below hb_w5 | exact (HSB.out.below (grew3 (Below.refl _ _))).below hb_w5)
    replace HSC := Lib.hid (show Sl w5 _ _ _ _ _ _ by first | exact HSC.out.below hb_w5 | exact (HSC.out.below (grew1 (Below.refl _ _))).below hb_w5 | exact (HSC.out.below (grew2 (Below.refl _ _))).below hb_w5 | exact (HSC.out.below (grew3 (Below.refl _ _))).below hb_w5)
    have HSD := Lib.hid hl
    clear hl
    clear q_a_0 q_a_1 q_b_0 q_b_1 q_c_0 q_c_1
    obtain ⟨W2, hW2, HB_W2, hZ, hY⟩ := boxes1 w5 [.int .i64 od, .slice ao3 n3 cap3] 24
    have H_d := Lib.hid hY
    replace H_a := Lib.hid (H_a.out.below HB_W2)
    replace H_b := Lib.hid (H_b.out.below HB_W2)
    replace H_c := Lib.hid (H_c.out.below HB_W2)
    replace HSA := Lib.hid (HSA.out.below HB_W2)
    replace HSB := Lib.hid (HSB.out.below HB_W2)
    replace HSC := Lib.hid (HSC.out.below HB_W2)
    replace HSD := Lib.hid (HSD.out.below HB_W2)
    replace HB_W2 := after0 HB_w5 HB_W2
    clear hY hZ
    obtain ⟨q_a_0, q_a_1⟩ := H_a.out.c2
    obtain ⟨q_b_0, q_b_1⟩ := H_b.out.c2
    obtain ⟨q_c_0, q_c_1⟩ := H_c.out.c2
    obtain ⟨q_d_0, q_d_1⟩ := H_d.out.c2
    go_wp2_with fail
    all_goals try (exfalso; omega)
    all_goals try (go_ret; first | exact ⟨rfl, HB_W2⟩ | (refine ⟨ret_bool ?_, HB_W2⟩; simp; omega))
  ·
    go_enter Try.func10, Try.ntmps10
    go_wp2_with fail
    refine (head_any _).mono ?_
    rintro e w1 ⟨rfl, hb_w1⟩
    have HB_w1 : Below w.heap.size w w1 := by first | exact after0 HB_W0 hb_w1 | exact after1 HB_W0 hb_w1 | exact after2 HB_W0 hb_w1 | exact after3 HB_W0 hb_w1 | exact after4 HB_W0 hb_w1 | exact after5 HB_W0 hb_w1
    try clear q_a_0 q_a_1
    have H_a := Lib.hid (Box.below (by first | exact H_a.out | exact H_a.out.alloc _ | exact (H_a.out.alloc _).alloc _ | exact ((H_a.out.alloc _).alloc _).alloc _) hb_w1)
    obtain ⟨q_a_0, q_a_1⟩ := H_a.out.c2
    try clear q_b_0 q_b_1
    have H_b := Lib.hid (Box.below (by first | exact H_b.out | exact H_b.out.alloc _ | exact (H_b.out.alloc _).alloc _ | exact ((H_b.out.alloc _).alloc _).alloc _) hb_w1)
    obtain ⟨q_b_0, q_b_1⟩ := H_b.out.c2
    replace HSA := Lib.hid (show Sl w1 _ _ _ _ _ _ by first | exact HSA.out.below hb_w1 | exact (HSA.out.below (grew1 (Below.refl _ _))).below hb_w1 | exact (HSA.out.below (grew2 (Below.refl _ _))).below hb_w1 | exact (HSA.out.below (grew3 (Below.refl _ _))).below hb_w1)
    replace HSB := Lib.hid (show Sl w1 _ _ _ _ _ _ by first | exact HSB.out.below hb_w1 | exact (HSB.out.below (grew1 (Below.refl _ _))).below hb_w1 | exact (HSB.out.below (grew2 (Below.refl _ _))).below hb_w1 | exact (HSB.out.below (grew3 (Below.refl _ _))).below hb_w1)
    clear hW0
    go_wp2_with fail
    refine (join_to h1.out (by first | exact HSA.out | exact HSA.out.below (grew1 (Below.refl _ _)) | exact HSA.out.below (grew2 (Below.refl _ _)) | exact HSA.out.below (grew3 (Below.refl _ _))) (by first | exact HSA.out | exact HSA.out.below (grew1 (Below.refl _ _)) | exact HSA.out.below (grew2 (Below.refl _ _)) | exact HSA.out.below (grew3 (Below.refl _ _)))).mono ?_
    rintro e w2 ⟨ao1, n1, cap1, rfl, hl, hb_w2⟩
    have HB_w2 : Below w.heap.size w w2 := by first | exact after0 HB_w1 hb_w2 | exact after1 HB_w1 hb_w2 | exact after2 HB_w1 hb_w2 | exact after3 HB_w1 hb_w2 | exact after4 HB_w1 hb_w2 | exact after5 HB_w1 hb_w2
    try clear q_a_0 q_a_1
    have H_a := Lib.hid (Box.below (by first | exact H_a.out | exact H_a.out.alloc _ | exact (H_a.out.alloc _).alloc _ | exact ((H_a.out.alloc _).alloc _).alloc _) hb_w2)
    obtain ⟨q_a_0, q_a_1⟩ := H_a.out.c2
    try clear q_b_0 q_b_1
    have H_b := Lib.hid (Box.below (by first | exact H_b.out | exact H_b.out.alloc _ | exact (H_b.out.alloc _).alloc _ | exact ((H_b.out.alloc _).alloc _).alloc _) hb_w2)
    obtain ⟨q_b_0, q_b_1⟩ := H_b.out.c2
    replace HSA := Lib.hid (show Sl w2 _ _ _ _ _ _ by first | exact HSA.out.below hb_w2 | exact (HSA.out.below (grew1 (Below.refl _ _))).below hb_w2 | exact (HSA.out.below (grew2 (Below.refl _ _))).below hb_w2 | exact (HSA.out.below (grew3 (Below.refl _ _))).below hb_w2)
    replace HSB := Lib.hid (show Sl w2 _ _ _ _ _ _ by first | exact HSB.out.below hb_w2 | exact (HSB.out.below (grew1 (Below.refl _ _))).below hb_w2 | exact (HSB.out.below (grew2 (Below.refl _ _))).below hb_w2 | exact (HSB.out.below (grew3 (Below.refl _ _))).below hb_w2)
    have HS1 := Lib.hid hl
    clear hl
    clear q_a_0 q_a_1 q_b_0 q_b_1
    obtain ⟨W1, hW1, HB_W1, hZ, hY⟩ := boxes1 w2 [.int .i64 oa, .slice ao1 n1 cap1] 24
    have H_o := Lib.hid hY
    replace H_a := Lib.hid (H_a.out.below HB_W1)
    replace H_b := Lib.hid (H_b.out.below HB_W1)
    replace HSA := Lib.hid (HSA.out.below HB_W1)
    replace HSB := Lib.hid (HSB.out.below HB_W1)
    replace HS1 := Lib.hid (HS1.out.below HB_W1)
    replace HB_W1 := after0 HB_w2 HB_W1
    clear hY hZ
    obtain ⟨q_a_0, q_a_1⟩ := H_a.out.c2
    obtain ⟨q_b_0, q_b_1⟩ := H_b.out.c2
    obtain ⟨q_o_0, q_o_1⟩ := H_o.out.c2
    go_wp2_with fail
    all_goals try (exfalso; omega)
    refine (rsame_any _ _ _ _ _ _ _ _ _ _ _ (by first | exact HS1.out | exact HS1.out.below (grew1 (Below.refl _ _)) | exact HS1.out.below (grew2 (Below.refl _ _)) | exact HS1.out.below (grew3 (Below.refl _ _))) (by first | exact HSA.out | exact HSA.out.below (grew1 (Below.refl _ _)) | exact HSA.out.below (grew2 (Below.refl _ _)) | exact HSA.out.below (grew3 (Below.refl _ _)))).mono ?_
    rintro e w3 ⟨rfl, hb_w3⟩
    have HB_w3 : Below w.heap.size w w3 := by first | exact after0 HB_W1 hb_w3 | exact after1 HB_W1 hb_w3 | exact after2 HB_W1 hb_w3 | exact after3 HB_W1 hb_w3 | exact after4 HB_W1 hb_w3 | exact after5 HB_W1 hb_w3
    try clear q_a_0 q_a_1
    have H_a := Lib.hid (Box.below (by first | exact H_a.out | exact H_a.out.alloc _ | exact (H_a.out.alloc _).alloc _ | exact ((H_a.out.alloc _).alloc _).alloc _) hb_w3)
    obtain ⟨q_a_0, q_a_1⟩ := H_a.out.c2
    try clear q_b_0 q_b_1
    have H_b := Lib.hid (Box.below (by first | exact H_b.out | exact H_b.out.alloc _ | exact (H_b.out.alloc _).alloc _ | exact ((H_b.out.alloc _).alloc _).alloc _) hb_w3)
    obtain ⟨q_b_0, q_b_1⟩ := H_b.out.c2
    replace HSA := Lib.hid (show Sl w3 _ _ _ _ _ _ by first | exact HSA.out.below hb_w3 | exact (HSA.out.below (grew1 (Below.refl _ _))).below hb_w3 | exact (HSA.out.below (grew2 (Below.refl _ _))).below hb_w3 | exact (HSA.out.below (grew3 (Below.refl _ _))).below hb_w3)
    replace HSB := Lib.hid (show Sl w3 _ _ _ _ _ _ by first | exact HSB.out.below hb_w3 | exact (HSB.out.below (grew1 (Below.refl _ _))).below hb_w3 | exact (HSB.out.below (grew2 (Below.refl _ _))).below hb_w3 | exact (HSB.out.below (grew3 (Below.refl _ _))).below hb_w3)
    clear hW1
    rw [decide_eq_true (show oa = oa ∧ a = a from ⟨rfl, rfl⟩)]
    go_wp2_with fail
    refine (join_to h2.out (by first | exact HSA.out | exact HSA.out.below (grew1 (Below.refl _ _)) | exact HSA.out.below (grew2 (Below.refl _ _)) | exact HSA.out.below (grew3 (Below.refl _ _))) (by first | exact HSB.out | exact HSB.out.below (grew1 (Below.refl _ _)) | exact HSB.out.below (grew2 (Below.refl _ _)) | exact HSB.out.below (grew3 (Below.refl _ _)))).mono ?_
    rintro e w4 ⟨ao2, n2, cap2, rfl, hl, hb_w4⟩
    have HB_w4 : Below w.heap.size w w4 := by first | exact after0 HB_w3 hb_w4 | exact after1 HB_w3 hb_w4 | exact after2 HB_w3 hb_w4 | exact after3 HB_w3 hb_w4 | exact after4 HB_w3 hb_w4 | exact after5 HB_w3 hb_w4
    try clear q_a_0 q_a_1
    have H_a := Lib.hid (Box.below (by first | exact H_a.out | exact H_a.out.alloc _ | exact (H_a.out.alloc _).alloc _ | exact ((H_a.out.alloc _).alloc _).alloc _) hb_w4)
    obtain ⟨q_a_0, q_a_1⟩ := H_a.out.c2
    try clear q_b_0 q_b_1
    have H_b := Lib.hid (Box.below (by first | exact H_b.out | exact H_b.out.alloc _ | exact (H_b.out.alloc _).alloc _ | exact ((H_b.out.alloc _).alloc _).alloc _) hb_w4)
    obtain ⟨q_b_0, q_b_1⟩ := H_b.out.c2
    replace HSA := Lib.hid (show Sl w4 _ _ _ _ _ _ by first | exact HSA.out.below hb_w4 | exact (HSA.out.below (grew1 (Below.refl _ _))).below hb_w4 | exact (HSA.out.below (grew2 (Below.refl _ _))).below hb_w4 | exact (HSA.out.below (grew3 (Below.refl _ _))).below hb_w4)
    replace HSB := Lib.hid (show Sl w4 _ _ _ _ _ _ by first | exact HSB.out.below hb_w4 | exact (HSB.out.below (grew1 (Below.refl _ _))).below hb_w4 | exact (HSB.out.below (grew2 (Below.refl _ _))).below hb_w4 | exact (HSB.out.below (grew3 (Below.refl _ _))).below hb_w4)
    have HSC := Lib.hid hl
    clear hl
    have H_c := Lib.hid (Box.new w4 [.int .i64 oc, .slice ao2 n2 cap2] 24)
    have HA' := (H_a.out.alloc (.cells #[.int .i64 oc, .slice ao2 n2 cap2] 24)).c2
    have HB' := (H_b.out.alloc (.cells #[.int .i64 oc, .slice ao2 n2 cap2] 24)).c2
    obtain ⟨z0, z1⟩ := HA'
    obtain ⟨z2, z3⟩ := HB'
    go_wp2_with fail
    all_goals try (exfalso; omega)
    clear z0 z1 z2 z3
    refine (join_to h3.out (by first | exact HSB.out | exact HSB.out.below (grew1 (Below.refl _ _)) | exact HSB.out.below (grew2 (Below.refl _ _)) | exact HSB.out.below (grew3 (Below.refl _ _))) (by first | exact HSA.out | exact HSA.out.below (grew1 (Below.refl _ _)) | exact HSA.out.below (grew2 (Below.refl _ _)) | exact HSA.out.below (grew3 (Below.refl _ _)))).mono ?_
    rintro e w5 ⟨ao3, n3, cap3, rfl, hl, hb_w5⟩
    have HB_w5 : Below w.heap.size w w5 := by first | exact after0 HB_w4 hb_w5 | exact after1 HB_w4 hb_w5 | exact after2 HB_w4 hb_w5 | exact after3 HB_w4 hb_w5 | exact after4 HB_w4 hb_w5 | exact after5 HB_w4 hb_w5
    try clear q_a_0 q_a_1
    have H_a := Lib.hid (Box.below (by first | exact H_a.out | exact H_a.out.alloc _ | exact (H_a.out.alloc _).alloc _ | exact ((H_a.out.alloc _).alloc _).alloc _) hb_w5)
    obtain ⟨q_a_0, q_a_1⟩ := H_a.out.c2
    try clear q_b_0 q_b_1
    have H_b := Lib.hid (Box.below (by first | exact H_b.out | exact H_b.out.alloc _ | exact (H_b.out.alloc _).alloc _ | exact ((H_b.out.alloc _).alloc _).alloc _) hb_w5)
    obtain ⟨q_b_0, q_b_1⟩ := H_b.out.c2
    try clear q_c_0 q_c_1
    have H_c := Lib.hid (Box.below (by first | exact H_c.out | exact H_c.out.alloc _ | exact (H_c.out.alloc _).alloc _ | exact ((H_c.out.alloc _).alloc _).alloc _) hb_w5)
    obtain ⟨q_c_0, q_c_1⟩ := H_c.out.c2
    replace HSA := Lib.hid (show Sl w5 _ _ _ _ _ _ by first | exact HSA.out.below hb_w5 | exact (HSA.out.below (grew1 (Below.refl _ _))).below hb_w5 | exact (HSA.out.below (grew2 (Below.refl _ _))).below hb_w5 | exact (HSA.out.below (grew3 (Below.refl _ _))).below hb_w5)
    replace HSB := Lib.hid (show Sl w5 _ _ _ _ _ _ by first | exact HSB.out.below hb_w5 | exact (HSB.out.below (grew1 (Below.refl _ _))).below hb_w5 | exact (HSB.out.below (grew2 (Below.refl _ _))).below hb_w5 | exact (HSB.out.below (grew3 (Below.refl _ _))).below hb_w5)
    replace HSC := Lib.hid (show Sl w5 _ _ _ _ _ _ by first | exact HSC.out.below hb_w5 | exact (HSC.out.below (grew1 (Below.refl _ _))).below hb_w5 | exact (HSC.out.below (grew2 (Below.refl _ _))).below hb_w5 | exact (HSC.out.below (grew3 (Below.refl _ _))).below hb_w5)
    have HSD := Lib.hid hl
    clear hl
    clear q_a_0 q_a_1 q_b_0 q_b_1 q_c_0 q_c_1
    obtain ⟨W2, hW2, HB_W2, hZ, hY⟩ := boxes1 w5 [.int .i64 od, .slice ao3 n3 cap3] 24
    have H_d := Lib.hid hY
    replace H_a := Lib.hid (H_a.out.below HB_W2)
    replace H_b := Lib.hid (H_b.out.below HB_W2)
    replace H_c := Lib.hid (H_c.out.below HB_W2)
    replace HSA := Lib.hid (HSA.out.below HB_W2)
    replace HSB := Lib.hid (HSB.out.below HB_W2)
    replace HSC := Lib.hid (HSC.out.below HB_W2)
    replace HSD := Lib.hid (HSD.out.below HB_W2)
    replace HB_W2 := after0 HB_w5 HB_W2
    clear hY hZ
    obtain ⟨q_a_0, q_a_1⟩ := H_a.out.c2
    obtain ⟨q_b_0, q_b_1⟩ := H_b.out.c2
    obtain ⟨q_c_0, q_c_1⟩ := H_c.out.c2
    obtain ⟨q_d_0, q_d_1⟩ := H_d.out.c2
    go_wp2_with fail
    all_goals try (exfalso; omega)
    all_goals try (go_ret; first | exact ⟨rfl, HB_W2⟩ | (refine ⟨ret_bool ?_, HB_W2⟩; simp; omega))
  · replace k1 := Lib.hid k1
    replace k2 := Lib.hid k2
    replace k3 := Lib.hid k3
    replace k4 := Lib.hid k4
    go_enter Try.func10, Try.ntmps10
    go_wp2_with fail
    refine (head_any _).mono ?_
    rintro e w1 ⟨rfl, hb_w1⟩
    have HB_w1 : Below w.heap.size w w1 := by first | exact after0 HB_W0 hb_w1 | exact after1 HB_W0 hb_w1 | exact after2 HB_W0 hb_w1 | exact after3 HB_W0 hb_w1 | exact after4 HB_W0 hb_w1 | exact after5 HB_W0 hb_w1
    try clear q_a_0 q_a_1
    have H_a := Lib.hid (Box.below (by first | exact H_a.out | exact H_a.out.alloc _ | exact (H_a.out.alloc _).alloc _ | exact ((H_a.out.alloc _).alloc _).alloc _) hb_w1)
    obtain ⟨q_a_0, q_a_1⟩ := H_a.out.c2
    try clear q_b_0 q_b_1
    have H_b := Lib.hid (Box.below (by first | exact H_b.out | exact H_b.out.alloc _ | exact (H_b.out.alloc _).alloc _ | exact ((H_b.out.alloc _).alloc _).alloc _) hb_w1)
    obtain ⟨q_b_0, q_b_1⟩ := H_b.out.c2
    replace HSA := Lib.hid (show Sl w1 _ _ _ _ _ _ by first | exact HSA.out.below hb_w1 | exact (HSA.out.below (grew1 (Below.refl _ _))).below hb_w1 | exact (HSA.out.below (grew2 (Below.refl _ _))).below hb_w1 | exact (HSA.out.below (grew3 (Below.refl _ _))).below hb_w1)
    replace HSB := Lib.hid (show Sl w1 _ _ _ _ _ _ by first | exact HSB.out.below hb_w1 | exact (HSB.out.below (grew1 (Below.refl _ _))).below hb_w1 | exact (HSB.out.below (grew2 (Below.refl _ _))).below hb_w1 | exact (HSB.out.below (grew3 (Below.refl _ _))).below hb_w1)
    clear hW0
    go_wp2_with fail
    refine (join_to h1.out (by first | exact HSA.out | exact HSA.out.below (grew1 (Below.refl _ _)) | exact HSA.out.below (grew2 (Below.refl _ _)) | exact HSA.out.below (grew3 (Below.refl _ _))) (by first | exact HSA.out | exact HSA.out.below (grew1 (Below.refl _ _)) | exact HSA.out.below (grew2 (Below.refl _ _)) | exact HSA.out.below (grew3 (Below.refl _ _)))).mono ?_
    rintro e w2 ⟨ao1, n1, cap1, rfl, hl, hb_w2⟩
    have HB_w2 : Below w.heap.size w w2 := by first | exact after0 HB_w1 hb_w2 | exact after1 HB_w1 hb_w2 | exact after2 HB_w1 hb_w2 | exact after3 HB_w1 hb_w2 | exact after4 HB_w1 hb_w2 | exact after5 HB_w1 hb_w2
    try clear q_a_0 q_a_1
    have H_a := Lib.hid (Box.below (by first | exact H_a.out | exact H_a.out.alloc _ | exact (H_a.out.alloc _).alloc _ | exact ((H_a.out.alloc _).alloc _).alloc _) hb_w2)
    obtain ⟨q_a_0, q_a_1⟩ := H_a.out.c2
    try clear q_b_0 q_b_1
    have H_b := Lib.hid (Box.below (by first | exact H_b.out | exact H_b.out.alloc _ | exact (H_b.out.alloc _).alloc _ | exact ((H_b.out.alloc _).alloc _).alloc _) hb_w2)
    obtain ⟨q_b_0, q_b_1⟩ := H_b.out.c2
    replace HSA := Lib.hid (show Sl w2 _ _ _ _ _ _ by first | exact HSA.out.below hb_w2 | exact (HSA.out.below (grew1 (Below.refl _ _))).below hb_w2 | exact (HSA.out.below (grew2 (Below.refl _ _))).below hb_w2 | exact (HSA.out.below (grew3 (Below.refl _ _))).below hb_w2)
    replace HSB := Lib.hid (show Sl w2 _ _ _ _ _ _ by first | exact HSB.out.below hb_w2 | exact (HSB.out.below (grew1 (Below.refl _ _))).below hb_w2 | exact (HSB.out.below (grew2 (Below.refl _ _))).below hb_w2 | exact (HSB.out.below (grew3 (Below.refl _ _))).below hb_w2)
    have HS1 := Lib.hid hl
    clear hl
    clear q_a_0 q_a_1 q_b_0 q_b_1
    obtain ⟨W1, hW1, HB_W1, hZ, hY⟩ := boxes1 w2 [.int .i64 oa, .slice ao1 n1 cap1] 24
    have H_o := Lib.hid hY
    replace H_a := Lib.hid (H_a.out.below HB_W1)
    replace H_b := Lib.hid (H_b.out.below HB_W1)
    replace HSA := Lib.hid (HSA.out.below HB_W1)
    replace HSB := Lib.hid (HSB.out.below HB_W1)
    replace HS1 := Lib.hid (HS1.out.below HB_W1)
    replace HB_W1 := after0 HB_w2 HB_W1
    clear hY hZ
    obtain ⟨q_a_0, q_a_1⟩ := H_a.out.c2
    obtain ⟨q_b_0, q_b_1⟩ := H_b.out.c2
    obtain ⟨q_o_0, q_o_1⟩ := H_o.out.c2
    go_wp2_with fail
    all_goals try (exfalso; omega)
    refine (rsame_any _ _ _ _ _ _ _ _ _ _ _ (by first | exact HS1.out | exact HS1.out.below (grew1 (Below.refl _ _)) | exact HS1.out.below (grew2 (Below.refl _ _)) | exact HS1.out.below (grew3 (Below.refl _ _))) (by first | exact HSA.out | exact HSA.out.below (grew1 (Below.refl _ _)) | exact HSA.out.below (grew2 (Below.refl _ _)) | exact HSA.out.below (grew3 (Below.refl _ _)))).mono ?_
    rintro e w3 ⟨rfl, hb_w3⟩
    have HB_w3 : Below w.heap.size w w3 := by first | exact after0 HB_W1 hb_w3 | exact after1 HB_W1 hb_w3 | exact after2 HB_W1 hb_w3 | exact after3 HB_W1 hb_w3 | exact after4 HB_W1 hb_w3 | exact after5 HB_W1 hb_w3
    try clear q_a_0 q_a_1
    have H_a := Lib.hid (Box.below (by first | exact H_a.out | exact H_a.out.alloc _ | exact (H_a.out.alloc _).alloc _ | exact ((H_a.out.alloc _).alloc _).alloc _) hb_w3)
    obtain ⟨q_a_0, q_a_1⟩ := H_a.out.c2
    try clear q_b_0 q_b_1
    have H_b := Lib.hid (Box.below (by first | exact H_b.out | exact H_b.out.alloc _ | exact (H_b.out.alloc _).alloc _ | exact ((H_b.out.alloc _).alloc _).alloc _) hb_w3)
    obtain ⟨q_b_0, q_b_1⟩ := H_b.out.c2
    replace HSA := Lib.hid (show Sl w3 _ _ _ _ _ _ by first | exact HSA.out.below hb_w3 | exact (HSA.out.below (grew1 (Below.refl _ _))).below hb_w3 | exact (HSA.out.below (grew2 (Below.refl _ _))).below hb_w3 | exact (HSA.out.below (grew3 (Below.refl _ _))).below hb_w3)
    replace HSB := Lib.hid (show Sl w3 _ _ _ _ _ _ by first | exact HSB.out.below hb_w3 | exact (HSB.out.below (grew1 (Below.refl _ _))).below hb_w3 | exact (HSB.out.below (grew2 (Below.refl _ _))).below hb_w3 | exact (HSB.out.below (grew3 (Below.refl _ _))).below hb_w3)
    clear hW1
    rw [decide_eq_true (show oa = oa ∧ a = a from ⟨rfl, rfl⟩)]
    go_wp2_with fail
    refine (join_to h2.out (by first | exact HSA.out | exact HSA.out.below (grew1 (Below.refl _ _)) | exact HSA.out.below (grew2 (Below.refl _ _)) | exact HSA.out.below (grew3 (Below.refl _ _))) (by first | exact HSB.out | exact HSB.out.below (grew1 (Below.refl _ _)) | exact HSB.out.below (grew2 (Below.refl _ _)) | exact HSB.out.below (grew3 (Below.refl _ _)))).mono ?_
    rintro e w4 ⟨ao2, n2, cap2, rfl, hl, hb_w4⟩
    have HB_w4 : Below w.heap.size w w4 := by first | exact after0 HB_w3 hb_w4 | exact after1 HB_w3 hb_w4 | exact after2 HB_w3 hb_w4 | exact after3 HB_w3 hb_w4 | exact after4 HB_w3 hb_w4 | exact after5 HB_w3 hb_w4
    try clear q_a_0 q_a_1
    have H_a := Lib.hid (Box.below (by first | exact H_a.out | exact H_a.out.alloc _ | exact (H_a.out.alloc _).alloc _ | exact ((H_a.out.alloc _).alloc _).alloc _) hb_w4)
    obtain ⟨q_a_0, q_a_1⟩ := H_a.out.c2
    try clear q_b_0 q_b_1
    have H_b := Lib.hid (Box.below (by first | exact H_b.out | exact H_b.out.alloc _ | exact (H_b.out.alloc _).alloc _ | exact ((H_b.out.alloc _).alloc _).alloc _) hb_w4)
    obtain ⟨q_b_0, q_b_1⟩ := H_b.out.c2
    replace HSA := Lib.hid (show Sl w4 _ _ _ _ _ _ by first | exact HSA.out.below hb_w4 | exact (HSA.out.below (grew1 (Below.refl _ _))).below hb_w4 | exact (HSA.out.below (grew2 (Below.refl _ _))).below hb_w4 | exact (HSA.out.below (grew3 (Below.refl _ _))).below hb_w4)
    replace HSB := Lib.hid (show Sl w4 _ _ _ _ _ _ by first | exact HSB.out.below hb_w4 | exact (HSB.out.below (grew1 (Below.refl _ _))).below hb_w4 | exact (HSB.out.below (grew2 (Below.refl _ _))).below hb_w4 | exact (HSB.out.below (grew3 (Below.refl _ _))).below hb_w4)
    have HSC := Lib.hid hl
    clear hl
    have H_c := Lib.hid (Box.new w4 [.int .i64 oa, .slice ao2 n2 cap2] 24)
    have HA' := (H_a.out.alloc (.cells #[.int .i64 oa, .slice ao2 n2 cap2] 24)).c2
    have HB' := (H_b.out.alloc (.cells #[.int .i64 oa, .slice ao2 n2 cap2] 24)).c2
    obtain ⟨z0, z1⟩ := HA'
    obtain ⟨z2, z3⟩ := HB'
    go_wp2_with fail
    all_goals try (exfalso; omega)
    clear z0 z1 z2 z3
    refine (join_to h3.out (by first | exact HSB.out | exact HSB.out.below (grew1 (Below.refl _ _)) | exact HSB.out.below (grew2 (Below.refl _ _)) | exact HSB.out.below (grew3 (Below.refl _ _))) (by first | exact HSA.out | exact HSA.out.below (grew1 (Below.refl _ _)) | exact HSA.out.below (grew2 (Below.refl _ _)) | exact HSA.out.below (grew3 (Below.refl _ _)))).mono ?_
    rintro e w5 ⟨ao3, n3, cap3, rfl, hl, hb_w5⟩
    have HB_w5 : Below w.heap.size w w5 := by first | exact after0 HB_w4 hb_w5 | exact after1 HB_w4 hb_w5 | exact after2 HB_w4 hb_w5 | exact after3 HB_w4 hb_w5 | exact after4 HB_w4 hb_w5 | exact after5 HB_w4 hb_w5
    try clear q_a_0 q_a_1
    have H_a := Lib.hid (Box.below (by first | exact H_a.out | exact H_a.out.alloc _ | exact (H_a.out.alloc _).alloc _ | exact ((H_a.out.alloc _).alloc _).alloc _) hb_w5)
    obtain ⟨q_a_0, q_a_1⟩ := H_a.out.c2
    try clear q_b_0 q_b_1
    have H_b := Lib.hid (Box.below (by first | exact H_b.out | exact H_b.out.alloc _ | exact (H_b.out.alloc _).alloc _ | exact ((H_b.out.alloc _).alloc _).alloc _) hb_w5)
    obtain ⟨q_b_0, q_b_1⟩ := H_b.out.c2
    try clear q_c_0 q_c_1
    have H_c := Lib.hid (Box.below (by first | exact H_c.out | exact H_c.out.alloc _ | exact (H_c.out.alloc _).alloc _ | exact ((H_c.out.alloc _).alloc _).alloc _) hb_w5)
    obtain ⟨q_c_0, q_c_1⟩ := H_c.out.c2
    replace HSA := Lib.hid (show Sl w5 _ _ _ _ _ _ by first | exact HSA.out.below hb_w5 | exact (HSA.out.below (grew1 (Below.refl _ _))).below hb_w5 | exact (HSA.out.below (grew2 (Below.refl _ _))).below hb_w5 | exact (HSA.out.below (grew3 (Below.refl _ _))).below hb_w5)
    replace HSB := Lib.hid (show Sl w5 _ _ _ _ _ _ by first | exact HSB.out.below hb_w5 | exact (HSB.out.below (grew1 (Below.refl _ _))).below hb_w5 | exact (HSB.out.below (grew2 (Below.refl _ _))).below hb_w5 | exact (HSB.out.below (grew3 (Below.refl _ _))).below hb_w5)
    replace HSC := Lib.hid (show Sl w5 _ _ _ _ _ _ by first | exact HSC.out.below hb_w5 | exact (HSC.out.below (grew1 (Below.refl _ _))).below hb_w5 | exact (HSC.out.below (grew2 (Below.refl _ _))).below hb_w5 | exact (HSC.out.below (grew3 (Below.refl _ _))).below hb_w5)
    have HSD := Lib.hid hl
    clear hl
    clear q_a_0 q_a_1 q_b_0 q_b_1 q_c_0 q_c_1
    obtain ⟨z0, z1⟩ := (H_a.out.alloc (.cells #[.int .i64 od, .slice ao3 n3 cap3] 24)).c2
    have hF := (Box.new w5 [.int .i64 od, .slice ao3 n3 cap3] 24).frozen 0
    obtain ⟨W2, hW2, HB_W2, hZ, hY⟩ := boxes1 w5 [.int .i64 oa, .slice ao3 n3 cap3] 24
    have H_d := Lib.hid hY
    replace H_a := Lib.hid (H_a.out.below HB_W2)
    replace H_b := Lib.hid (H_b.out.below HB_W2)
    replace H_c := Lib.hid (H_c.out.below HB_W2)
    replace HSA := Lib.hid (HSA.out.below HB_W2)
    replace HSB := Lib.hid (HSB.out.below HB_W2)
    replace HSC := Lib.hid (HSC.out.below HB_W2)
    replace HSD := Lib.hid (HSD.out.below HB_W2)
    replace HB_W2 := after0 HB_w5 HB_W2
    clear hY hZ
    obtain ⟨q_a_0, q_a_1⟩ := H_a.out.c2
    obtain ⟨q_b_0, q_b_1⟩ := H_b.out.c2
    obtain ⟨q_c_0, q_c_1⟩ := H_c.out.c2
    obtain ⟨q_d_0, q_d_1⟩ := H_d.out.c2
    go_wp2_with fail
    all_goals try (exfalso; omega)
    clear hW2 hF z0 z1
    refine (bvalid_any _ _ _ _ _ _ (by first | exact HSC.out | exact HSC.out.below (grew1 (Below.refl _ _)) | exact HSC.out.below (grew2 (Below.refl _ _)) | exact HSC.out.below (grew3 (Below.refl _ _)))).mono ?_
    rintro e w6 ⟨rfl, hb_w6⟩
    have HB_w6 : Below w.heap.size w w6 := by first | exact after0 HB_W2 hb_w6 | exact after1 HB_W2 hb_w6 | exact after2 HB_W2 hb_w6 | exact after3 HB_W2 hb_w6 | exact after4 HB_W2 hb_w6 | exact after5 HB_W2 hb_w6
    try clear q_a_0 q_a_1
    have H_a := Lib.hid (Box.below (by first | exact H_a.out | exact H_a.out.alloc _ | exact (H_a.out.alloc _).alloc _ | exact ((H_a.out.alloc _).alloc _).alloc _) hb_w6)
    obtain ⟨q_a_0, q_a_1⟩ := H_a.out.c2
    try clear q_b_0 q_b_1
    have H_b := Lib.hid (Box.below (by first | exact H_b.out | exact H_b.out.alloc _ | exact (H_b.out.alloc _).alloc _ | exact ((H_b.out.alloc _).alloc _).alloc _) hb_w6)
    obtain ⟨q_b_0, q_b_1⟩ := H_b.out.c2
    try clear q_c_0 q_c_1
    have H_c := Lib.hid (Box.below (by first | exact H_c.out | exact H_c.out.alloc _ | exact (H_c.out.alloc _).alloc _ | exact ((H_c.out.alloc _).alloc _).alloc _) hb_w6)
    obtain ⟨q_c_0, q_c_1⟩ := H_c.out.c2
    try clear q_d_0 q_d_1
    have H_d := Lib.hid (Box.below (by first | exact H_d.out | exact H_d.out.alloc _ | exact (H_d.out.alloc _).alloc _ | exact ((H_d.out.alloc _).alloc _).alloc _) hb_w6)
    obtain ⟨q_d_0, q_d_1⟩ := H_d.out.c2
    replace HSA := Lib.hid (show Sl w6 _ _ _ _ _ _ by first | exact HSA.out.below hb_w6 | exact (HSA.out.below (grew1 (Below.refl _ _))).below hb_w6 | exact (HSA.out.below (grew2 (Below.refl _ _))).below hb_w6 | exact (HSA.out.below (grew3 (Below.refl _ _))).below hb_w6)
    replace HSB := Lib.hid (show Sl w6 _ _ _ _ _ _ by first | exact HSB.out.below hb_w6 | exact (HSB.out.below (grew1 (Below.refl _ _))).below hb_w6 | exact (HSB.out.below (grew2 (Below.refl _ _))).below hb_w6 | exact (HSB.out.below (grew3 (Below.refl _ _))).below hb_w6)
    replace HSC := Lib.hid (show Sl w6 _ _ _ _ _ _ by first | exact HSC.out.below hb_w6 | exact (HSC.out.below (grew1 (Below.refl _ _))).below hb_w6 | exact (HSC.out.below (grew2 (Below.refl _ _))).below hb_w6 | exact (HSC.out.below (grew3 (Below.refl _ _))).below hb_w6)
    replace HSD := Lib.hid (show Sl w6 _ _ _ _ _ _ by first | exact HSD.out.below hb_w6 | exact (HSD.out.below (grew1 (Below.refl _ _))).below hb_w6 | exact (HSD.out.below (grew2 (Below.refl _ _))).below hb_w6 | exact (HSD.out.below (grew3 (Below.refl _ _))).below hb_w6)
    rw [k1.out]
    go_wp2_with fail
    refine (rsame_any _ _ _ _ _ _ _ _ _ _ _ (by first | exact HSC.out | exact HSC.out.below (grew1 (Below.refl _ _)) | exact HSC.out.below (grew2 (Below.refl _ _)) | exact HSC.out.below (grew3 (Below.refl _ _))) (by first | exact HSD.out | exact HSD.out.below (grew1 (Below.refl _ _)) | exact HSD.out.below (grew2 (Below.refl _ _)) | exact HSD.out.below (grew3 (Below.refl _ _)))).mono ?_
    rintro e w7 ⟨rfl, hb_w7⟩
    have HB_w7 : Below w.heap.size w w7 := by first | exact after0 HB_w6 hb_w7 | exact after1 HB_w6 hb_w7 | exact after2 HB_w6 hb_w7 | exact after3 HB_w6 hb_w7 | exact after4 HB_w6 hb_w7 | exact after5 HB_w6 hb_w7
    try clear q_a_0 q_a_1
    have H_a := Lib.hid (Box.below (by first | exact H_a.out | exact H_a.out.alloc _ | exact (H_a.out.alloc _).alloc _ | exact ((H_a.out.alloc _).alloc _).alloc _) hb_w7)
    obtain ⟨q_a_0, q_a_1⟩ := H_a.out.c2
    try clear q_b_0 q_b_1
    have H_b := Lib.hid (Box.below (by first | exact H_b.out | exact H_b.out.alloc _ | exact (H_b.out.alloc _).alloc _ | exact ((H_b.out.alloc _).alloc _).alloc _) hb_w7)
    obtain ⟨q_b_0, q_b_1⟩ := H_b.out.c2
    try clear q_c_0 q_c_1
    have H_c := Lib.hid (Box.below (by first | exact H_c.out | exact H_c.out.alloc _ | exact (H_c.out.alloc _).alloc _ | exact ((H_c.out.alloc _).alloc _).alloc _) hb_w7)
    obtain ⟨q_c_0, q_c_1⟩ := H_c.out.c2
    replace HSA := Lib.hid (show Sl w7 _ _ _ _ _ _ by first | exact HSA.out.below hb_w7 | exact (HSA.out.below (grew1 (Below.refl _ _))).below hb_w7 | exact (HSA.out.below (grew2 (Below.refl _ _))).below hb_w7 | exact (HSA.out.below (grew3 (Below.refl _ _))).below hb_w7)
    replace HSB := Lib.hid (show Sl w7 _ _ _ _ _ _ by first | exact HSB.out.below hb_w7 | exact (HSB.out.below (grew1 (Below.refl _ _))).below hb_w7 | exact (HSB.out.below (grew2 (Below.refl _ _))).below hb_w7 | exact (HSB.out.below (grew3 (Below.refl _ _))).below hb_w7)
    replace HSC := Lib.hid (show Sl w7 _ _ _ _ _ _ by first | exact HSC.out.below hb_w7 | exact (HSC.out.below (grew1 (Below.refl _ _))).below hb_w7 | exact (HSC.out.below (grew2 (Below.refl _ _))).below hb_w7 | exact (HSC.out.below (grew3 (Below.refl _ _))).below hb_w7)
    rw [decide_eq_true (show oa = oa ∧ lc = lc from ⟨rfl, rfl⟩)]
    clear q_d_0 q_d_1 q_o_0 q_o_1
    go_wp2_with fail
    refine (find_to h4.out (by first | exact HSA.out | exact HSA.out.below (grew1 (Below.refl _ _)) | exact HSA.out.below (grew2 (Below.refl _ _)) | exact HSA.out.below (grew3 (Below.refl _ _)))).mono ?_
    rintro e w8 ⟨rfl, hb_w8⟩
    have HB_w8 : Below w.heap.size w w8 := by first | exact after0 HB_w7 hb_w8 | exact after1 HB_w7 hb_w8 | exact after2 HB_w7 hb_w8 | exact after3 HB_w7 hb_w8 | exact after4 HB_w7 hb_w8 | exact after5 HB_w7 hb_w8
    try clear q_a_0 q_a_1
    have H_a := Lib.hid (Box.below (by first | exact H_a.out | exact H_a.out.alloc _ | exact (H_a.out.alloc _).alloc _ | exact ((H_a.out.alloc _).alloc _).alloc _) hb_w8)
    obtain ⟨q_a_0, q_a_1⟩ := H_a.out.c2
    try clear q_b_0 q_b_1
    have H_b := Lib.hid (Box.below (by first | exact H_b.out | exact H_b.out.alloc _ | exact (H_b.out.alloc _).alloc _ | exact ((H_b.out.alloc _).alloc _).alloc _) hb_w8)
    obtain ⟨q_b_0, q_b_1⟩ := H_b.out.c2
    try clear q_c_0 q_c_1
    have H_c := Lib.hid (Box.below (by first | exact H_c.out | exact H_c.out.alloc _ | exact (H_c.out.alloc _).alloc _ | exact ((H_c.out.alloc _).alloc _).alloc _) hb_w8)
    obtain ⟨q_c_0, q_c_1⟩ := H_c.out.c2
    replace HSA := Lib.hid (show Sl w8 _ _ _ _ _ _ by first | exact HSA.out.below hb_w8 | exact (HSA.out.below (grew1 (Below.refl _ _))).below hb_w8 | exact (HSA.out.below (grew2 (Below.refl _ _))).below hb_w8 | exact (HSA.out.below (grew3 (Below.refl _ _))).below hb_w8)
    replace HSB := Lib.hid (show Sl w8 _ _ _ _ _ _ by first | exact HSB.out.below hb_w8 | exact (HSB.out.below (grew1 (Below.refl _ _))).below hb_w8 | exact (HSB.out.below (grew2 (Below.refl _ _))).below hb_w8 | exact (HSB.out.below (grew3 (Below.refl _ _))).below hb_w8)
    replace HSC := Lib.hid (show Sl w8 _ _ _ _ _ _ by first | exact HSC.out.below hb_w8 | exact (HSC.out.below (grew1 (Below.refl _ _))).below hb_w8 | exact (HSC.out.below (grew2 (Below.refl _ _))).below hb_w8 | exact (HSC.out.below (grew3 (Below.refl _ _))).below hb_w8)
    have H_x := Lib.hid (Box.new w8 [.int .i64 x0, .int .i64 x1, .int .i64 x2] 29)
    obtain ⟨z0, z1⟩ := (H_b.out.alloc (.cells #[.int .i64 x0, .int .i64 x1, .int .i64 x2] 29)).c2
    go_wp2_with fail
    clear z0 z1
    refine (find_to h5.out (by first | exact HSB.out | exact HSB.out.below (grew1 (Below.refl _ _)) | exact HSB.out.below (grew2 (Below.refl _ _)) | exact HSB.out.below (grew3 (Below.refl _ _)))).mono ?_
    rintro e w9 ⟨rfl, hb_w9⟩
    have HB_w9 : Below w.heap.size w w9 := by first | exact after0 HB_w8 hb_w9 | exact after1 HB_w8 hb_w9 | exact after2 HB_w8 hb_w9 | exact after3 HB_w8 hb_w9 | exact after4 HB_w8 hb_w9 | exact after5 HB_w8 hb_w9
    try clear q_a_0 q_a_1
    have H_a := Lib.hid (Box.below (by first | exact H_a.out | exact H_a.out.alloc _ | exact (H_a.out.alloc _).alloc _ | exact ((H_a.out.alloc _).alloc _).alloc _) hb_w9)
    obtain ⟨q_a_0, q_a_1⟩ := H_a.out.c2
    try clear q_b_0 q_b_1
    have H_b := Lib.hid (Box.below (by first | exact H_b.out | exact H_b.out.alloc _ | exact (H_b.out.alloc _).alloc _ | exact ((H_b.out.alloc _).alloc _).alloc _) hb_w9)
    obtain ⟨q_b_0, q_b_1⟩ := H_b.out.c2
    try clear q_c_0 q_c_1
    have H_c := Lib.hid (Box.below (by first | exact H_c.out | exact H_c.out.alloc _ | exact (H_c.out.alloc _).alloc _ | exact ((H_c.out.alloc _).alloc _).alloc _) hb_w9)
    obtain ⟨q_c_0, q_c_1⟩ := H_c.out.c2
    try clear q_x_0 q_x_1 q_x_2
    have H_x := Lib.hid (Box.below (by first | exact H_x.out | exact H_x.out.alloc _ | exact (H_x.out.alloc _).alloc _ | exact ((H_x.out.alloc _).alloc _).alloc _) hb_w9)
    obtain ⟨q_x_0, q_x_1, q_x_2⟩ := H_x.out.c3
    replace HSA := Lib.hid (show Sl w9 _ _ _ _ _ _ by first | exact HSA.out.below hb_w9 | exact (HSA.out.below (grew1 (Below.refl _ _))).below hb_w9 | exact (HSA.out.below (grew2 (Below.refl _ _))).below hb_w9 | exact (HSA.out.below (grew3 (Below.refl _ _))).below hb_w9)
    replace HSB := Lib.hid (show Sl w9 _ _ _ _ _ _ by first | exact HSB.out.below hb_w9 | exact (HSB.out.below (grew1 (Below.refl _ _))).below hb_w9 | exact (HSB.out.below (grew2 (Below.refl _ _))).below hb_w9 | exact (HSB.out.below (grew3 (Below.refl _ _))).below hb_w9)
    replace HSC := Lib.hid (show Sl w9 _ _ _ _ _ _ by first | exact HSC.out.below hb_w9 | exact (HSC.out.below (grew1 (Below.refl _ _))).below hb_w9 | exact (HSC.out.below (grew2 (Below.refl _ _))).below hb_w9 | exact (HSC.out.below (grew3 (Below.refl _ _))).below hb_w9)
    have H_y := Lib.hid (Box.new w9 [.int .i64 y0, .int .i64 y1, .int .i64 y2] 29)
    obtain ⟨z0, z1⟩ := (H_c.out.alloc (.cells #[.int .i64 y0, .int .i64 y1, .int .i64 y2] 29)).c2
    go_wp2_with fail
    clear z0 z1
    refine (find_to h6.out (by first | exact HSC.out | exact HSC.out.below (grew1 (Below.refl _ _)) | exact HSC.out.below (grew2 (Below.refl _ _)) | exact HSC.out.below (grew3 (Below.refl _ _)))).mono ?_
    rintro e w10 ⟨rfl, hb_w10⟩
    have HB_w10 : Below w.heap.size w w10 := by first | exact after0 HB_w9 hb_w10 | exact after1 HB_w9 hb_w10 | exact after2 HB_w9 hb_w10 | exact after3 HB_w9 hb_w10 | exact after4 HB_w9 hb_w10 | exact after5 HB_w9 hb_w10
    try clear q_a_0 q_a_1
    have H_a := Lib.hid (Box.below (by first | exact H_a.out | exact H_a.out.alloc _ | exact (H_a.out.alloc _).alloc _ | exact ((H_a.out.alloc _).alloc _).alloc _) hb_w10)
    obtain ⟨q_a_0, q_a_1⟩ := H_a.out.c2
    try clear q_b_0 q_b_1
    have H_b := Lib.hid (Box.below (by first | exact H_b.out | exact H_b.out.alloc _ | exact (H_b.out.alloc _).alloc _ | exact ((H_b.out.alloc _).alloc _).alloc _) hb_w10)
    obtain ⟨q_b_0, q_b_1⟩ := H_b.out.c2
    try clear q_c_0 q_c_1
    have H_c := Lib.hid (Box.below (by first | exact H_c.out | exact H_c.out.alloc _ | exact (H_c.out.alloc _).alloc _ | exact ((H_c.out.alloc _).alloc _).alloc _) hb_w10)
    obtain ⟨q_c_0, q_c_1⟩ := H_c.out.c2
    try clear q_x_0 q_x_1 q_x_2
    have H_x := Lib.hid (Box.below (by first | exact H_x.out | exact H_x.out.alloc _ | exact (H_x.out.alloc _).alloc _ | exact ((H_x.out.alloc _).alloc _).alloc _) hb_w10)
    obtain ⟨q_x_0, q_x_1, q_x_2⟩ := H_x.out.c3
    try clear q_y_0 q_y_1 q_y_2
    have H_y := Lib.hid (Box.below (by first | exact H_y.out | exact H_y.out.alloc _ | exact (H_y.out.alloc _).alloc _ | exact ((H_y.out.alloc _).alloc _).alloc _) hb_w10)
    obtain ⟨q_y_0, q_y_1, q_y_2⟩ := H_y.out.c3
    replace HSA := Lib.hid (show Sl w10 _ _ _ _ _ _ by first | exact HSA.out.below hb_w10 | exact (HSA.out.below (grew1 (Below.refl _ _))).below hb_w10 | exact (HSA.out.below (grew2 (Below.refl _ _))).below hb_w10 | exact (HSA.out.below (grew3 (Below.refl _ _))).below hb_w10)
    replace HSB := Lib.hid (show Sl w10 _ _ _ _ _ _ by first | exact HSB.out.below hb_w10 | exact (HSB.out.below (grew1 (Below.refl _ _))).below hb_w10 | exact (HSB.out.below (grew2 (Below.refl _ _))).below hb_w10 | exact (HSB.out.below (grew3 (Below.refl _ _))).below hb_w10)
    replace HSC := Lib.hid (show Sl w10 _ _ _ _ _ _ by first | exact HSC.out.below hb_w10 | exact (HSC.out.below (grew1 (Below.refl _ _))).below hb_w10 | exact (HSC.out.below (grew2 (Below.refl _ _))).below hb_w10 | exact (HSC.out.below (grew3 (Below.refl _ _))).below hb_w10)
    clear q_a_0 q_a_1 q_b_0 q_b_1 q_c_0 q_c_1 q_x_0 q_x_1 q_x_2 q_y_0 q_y_1 q_y_2
    obtain ⟨W3, hW3, HB_W3, hZ, hY⟩ := boxes1 w10 [.int .i64 u0, .int .i64 u1, .int .i64 u2] 29
    have H_u := Lib.hid hY
    replace H_a := Lib.hid (H_a.out.below HB_W3)
    replace H_b := Lib.hid (H_b.out.below HB_W3)
    replace H_c := Lib.hid (H_c.out.below HB_W3)
    replace H_x := Lib.hid (H_x.out.below HB_W3)
    replace H_y := Lib.hid (H_y.out.below HB_W3)
    replace HSA := Lib.hid (HSA.out.below HB_W3)
    replace HSB := Lib.hid (HSB.out.below HB_W3)
    replace HSC := Lib.hid (HSC.out.below HB_W3)
    replace HB_W3 := after0 HB_w10 HB_W3
    clear hY hZ
    obtain ⟨q_a_0, q_a_1⟩ := H_a.out.c2
    obtain ⟨q_b_0, q_b_1⟩ := H_b.out.c2
    obtain ⟨q_c_0, q_c_1⟩ := H_c.out.c2
    obtain ⟨q_x_0, q_x_1, q_x_2⟩ := H_x.out.c3
    obtain ⟨q_y_0, q_y_1, q_y_2⟩ := H_y.out.c3
    obtain ⟨q_u_0, q_u_1, q_u_2⟩ := H_u.out.c3
    by_cases hh : h = 0
    · subst hh
      obtain ⟨rfl, e1, e2⟩ := k2.out rfl
      try dsimp only at e1 e2
      subst e1
      by_cases hi : i = 0
      · subst hi
        obtain ⟨_, e3, e4⟩ := k3.out rfl
        try dsimp only at e3 e4
        subst e3
        go_wp2_with fail
        all_goals try (exfalso; omega)
        clear hW3
        refine (lost_to h7.out (by first | exact HSA.out | exact HSA.out.below (grew1 (Below.refl _ _)) | exact HSA.out.below (grew2 (Below.refl _ _)) | exact HSA.out.below (grew3 (Below.refl _ _))) (by first | exact HSC.out | exact HSC.out.below (grew1 (Below.refl _ _)) | exact HSC.out.below (grew2 (Below.refl _ _)) | exact HSC.out.below (grew3 (Below.refl _ _)))).mono ?_
        rintro e w11 ⟨ao4, n4, cap4, rfl, hl, hb_w11⟩
        have HB_w11 : Below w.heap.size w w11 := by first | exact after0 HB_W3 hb_w11 | exact after1 HB_W3 hb_w11 | exact after2 HB_W3 hb_w11 | exact after3 HB_W3 hb_w11 | exact after4 HB_W3 hb_w11 | exact after5 HB_W3 hb_w11
        try clear q_b_0 q_b_1
        have H_b := Lib.hid (Box.below (by first | exact H_b.out | exact H_b.out.alloc _ | exact (H_b.out.alloc _).alloc _ | exact ((H_b.out.alloc _).alloc _).alloc _) hb_w11)
        obtain ⟨q_b_0, q_b_1⟩ := H_b.out.c2
        try clear q_c_0 q_c_1
        have H_c := Lib.hid (Box.below (by first | exact H_c.out | exact H_c.out.alloc _ | exact (H_c.out.alloc _).alloc _ | exact ((H_c.out.alloc _).alloc _).alloc _) hb_w11)
        obtain ⟨q_c_0, q_c_1⟩ := H_c.out.c2
        replace HSB := Lib.hid (show Sl w11 _ _ _ _ _ _ by first | exact HSB.out.below hb_w11 | exact (HSB.out.below (grew1 (Below.refl _ _))).below hb_w11 | exact (HSB.out.below (grew2 (Below.refl _ _))).below hb_w11 | exact (HSB.out.below (grew3 (Below.refl _ _))).below hb_w11)
        replace HSC := Lib.hid (show Sl w11 _ _ _ _ _ _ by first | exact HSC.out.below hb_w11 | exact (HSC.out.below (grew1 (Below.refl _ _))).below hb_w11 | exact (HSC.out.below (grew2 (Below.refl _ _))).below hb_w11 | exact (HSC.out.below (grew3 (Below.refl _ _))).below hb_w11)
        obtain rfl : 0 = n4 := hl.len
        clear hl
        go_wp2_with fail
        refine (lost_to h8.out (by first | exact HSB.out | exact HSB.out.below (grew1 (Below.refl _ _)) | exact HSB.out.below (grew2 (Below.refl _ _)) | exact HSB.out.below (grew3 (Below.refl _ _))) (by first | exact HSC.out | exact HSC.out.below (grew1 (Below.refl _ _)) | exact HSC.out.below (grew2 (Below.refl _ _)) | exact HSC.out.below (grew3 (Below.refl _ _)))).mono ?_
        rintro e w12 ⟨ao5, n5, cap5, rfl, hl, hb_w12⟩
        have HB_w12 : Below w.heap.size w w12 := by first | exact after0 HB_w11 hb_w12 | exact after1 HB_w11 hb_w12 | exact after2 HB_w11 hb_w12 | exact after3 HB_w11 hb_w12 | exact after4 HB_w11 hb_w12 | exact after5 HB_w11 hb_w12
        obtain rfl : 0 = n5 := hl.len
        clear hl
        go_wp2_with fail
        all_goals try (exfalso; omega)
        all_goals
          go_ret
          exact ⟨rfl, HB_w12⟩
      · clear k3 k4
        go_wp2_with fail
        all_goals try (exfalso; omega)
        clear hW3
        refine (lost_to h7.out (by first | exact HSA.out | exact HSA.out.below (grew1 (Below.refl _ _)) | exact HSA.out.below (grew2 (Below.refl _ _)) | exact HSA.out.below (grew3 (Below.refl _ _))) (by first | exact HSC.out | exact HSC.out.below (grew1 (Below.refl _ _)) | exact HSC.out.below (grew2 (Below.refl _ _)) | exact HSC.out.below (grew3 (Below.refl _ _)))).mono ?_
        rintro e w11 ⟨ao4, n4, cap4, rfl, hl, hb_w11⟩
        have HB_w11 : Below w.heap.size w w11 := by first | exact after0 HB_W3 hb_w11 | exact after1 HB_W3 hb_w11 | exact after2 HB_W3 hb_w11 | exact after3 HB_W3 hb_w11 | exact after4 HB_W3 hb_w11 | exact after5 HB_W3 hb_w11
        try clear q_b_0 q_b_1
        have H_b := Lib.hid (Box.below (by first | exact H_b.out | exact H_b.out.alloc _ | exact (H_b.out.alloc _).alloc _ | exact ((H_b.out.alloc _).alloc _).alloc _) hb_w11)
        obtain ⟨q_b_0, q_b_1⟩ := H_b.out.c2
        try clear q_c_0 q_c_1
        have H_c := Lib.hid (Box.below (by first | exact H_c.out | exact H_c.out.alloc _ | exact (H_c.out.alloc _).alloc _ | exact ((H_c.out.alloc _).alloc _).alloc _) hb_w11)
        obtain ⟨q_c_0, q_c_1⟩ := H_c.out.c2
        replace HSB := Lib.hid (show Sl w11 _ _ _ _ _ _ by first | exact HSB.out.below hb_w11 | exact (HSB.out.below (grew1 (Below.refl _ _))).below hb_w11 | exact (HSB.out.below (grew2 (Below.refl _ _))).below hb_w11 | exact (HSB.out.below (grew3 (Below.refl _ _))).below hb_w11)
        replace HSC := Lib.hid (show Sl w11 _ _ _ _ _ _ by first | exact HSC.out.below hb_w11 | exact (HSC.out.below (grew1 (Below.refl _ _))).below hb_w11 | exact (HSC.out.below (grew2 (Below.refl _ _))).below hb_w11 | exact (HSC.out.below (grew3 (Below.refl _ _))).below hb_w11)
        obtain rfl : 0 = n4 := hl.len
        clear hl
        go_wp2_with fail
        refine (lost_to h8.out (by first | exact HSB.out | exact HSB.out.below (grew1 (Below.refl _ _)) | exact HSB.out.below (grew2 (Below.refl _ _)) | exact HSB.out.below (grew3 (Below.refl _ _))) (by first | exact HSC.out | exact HSC.out.below (grew1 (Below.refl _ _)) | exact HSC.out.below (grew2 (Below.refl _ _)) | exact HSC.out.below (grew3 (Below.refl _ _)))).mono ?_
        rintro e w12 ⟨ao5, n5, cap5, rfl, hl, hb_w12⟩
        have HB_w12 : Below w.heap.size w w12 := by first | exact after0 HB_w11 hb_w12 | exact after1 HB_w11 hb_w12 | exact after2 HB_w11 hb_w12 | exact after3 HB_w11 hb_w12 | exact after4 HB_w11 hb_w12 | exact after5 HB_w11 hb_w12
        obtain rfl : 0 = n5 := hl.len
        clear hl
        go_wp2_with fail
        all_goals try (exfalso; omega)
        all_goals
          go_ret
          exact ⟨rfl, HB_w12⟩
    · by_cases hi : i = 0
      · subst hi
        obtain ⟨rfl, e3, e4⟩ := k3.out rfl
        try dsimp only at e3 e4
        subst e3
        clear k2
        go_wp2_with fail
        all_goals try (exfalso; omega)
        clear hW3
        refine (lost_to h7.out (by first | exact HSA.out | exact HSA.out.below (grew1 (Below.refl _ _)) | exact HSA.out.below (grew2 (Below.refl _ _)) | exact HSA.out.below (grew3 (Below.refl _ _))) (by first | exact HSC.out | exact HSC.out.below (grew1 (Below.refl _ _)) | exact HSC.out.below (grew2 (Below.refl _ _)) | exact HSC.out.below (grew3 (Below.refl _ _)))).mono ?_
        rintro e w11 ⟨ao4, n4, cap4, rfl, hl, hb_w11⟩
        have HB_w11 : Below w.heap.size w w11 := by first | exact after0 HB_W3 hb_w11 | exact after1 HB_W3 hb_w11 | exact after2 HB_W3 hb_w11 | exact after3 HB_W3 hb_w11 | exact after4 HB_W3 hb_w11 | exact after5 HB_W3 hb_w11
        try clear q_b_0 q_b_1
        have H_b := Lib.hid (Box.below (by first | exact H_b.out | exact H_b.out.alloc _ | exact (H_b.out.alloc _).alloc _ | exact ((H_b.out.alloc _).alloc _).alloc _) hb_w11)
        obtain ⟨q_b_0, q_b_1⟩ := H_b.out.c2
        try clear q_c_0 q_c_1
        have H_c := Lib.hid (Box.below (by first | exact H_c.out | exact H_c.out.alloc _ | exact (H_c.out.alloc _).alloc _ | exact ((H_c.out.alloc _).alloc _).alloc _) hb_w11)
        obtain ⟨q_c_0, q_c_1⟩ := H_c.out.c2
        replace HSB := Lib.hid (show Sl w11 _ _ _ _ _ _ by first | exact HSB.out.below hb_w11 | exact (HSB.out.below (grew1 (Below.refl _ _))).below hb_w11 | exact (HSB.out.below (grew2 (Below.refl _ _))).below hb_w11 | exact (HSB.out.below (grew3 (Below.refl _ _))).below hb_w11)
        replace HSC := Lib.hid (show Sl w11 _ _ _ _ _ _ by first | exact HSC.out.below hb_w11 | exact (HSC.out.below (grew1 (Below.refl _ _))).below hb_w11 | exact (HSC.out.below (grew2 (Below.refl _ _))).below hb_w11 | exact (HSC.out.below (grew3 (Below.refl _ _))).below hb_w11)
        obtain rfl : 0 = n4 := hl.len
        clear hl
        go_wp2_with fail
        refine (lost_to h8.out (by first | exact HSB.out | exact HSB.out.below (grew1 (Below.refl _ _)) | exact HSB.out.below (grew2 (Below.refl _ _)) | exact HSB.out.below (grew3 (Below.refl _ _))) (by first | exact HSC.out | exact HSC.out.below (grew1 (Below.refl _ _)) | exact HSC.out.below (grew2 (Below.refl _ _)) | exact HSC.out.below (grew3 (Below.refl _ _)))).mono ?_
        rintro e w12 ⟨ao5, n5, cap5, rfl, hl, hb_w12⟩
        have HB_w12 : Below w.heap.size w w12 := by first | exact after0 HB_w11 hb_w12 | exact after1 HB_w11 hb_w12 | exact after2 HB_w11 hb_w12 | exact after3 HB_w11 hb_w12 | exact after4 HB_w11 hb_w12 | exact after5 HB_w11 hb_w12
        obtain rfl : 0 = n5 := hl.len
        clear hl
        go_wp2_with fail
        all_goals try (exfalso; omega)
        all_goals
          go_ret
          exact ⟨rfl, HB_w12⟩
      · have hk : k ≠ 0 := fun e => by
          rcases k4.out e with e | e
          · exact hh e
          · exact hi e
        clear k2 k3 k4
        go_wp2_with fail
        all_goals try (exfalso; omega)
        clear hW3
        refine (lost_to h7.out (by first | exact HSA.out | exact HSA.out.below (grew1 (Below.refl _ _)) | exact HSA.out.below (grew2 (Below.refl _ _)) | exact HSA.out.below (grew3 (Below.refl _ _))) (by first | exact HSC.out | exact HSC.out.below (grew1 (Below.refl _ _)) | exact HSC.out.below (grew2 (Below.refl _ _)) | exact HSC.out.below (grew3 (Below.refl _ _)))).mono ?_
        rintro e w11 ⟨ao4, n4, cap4, rfl, hl, hb_w11⟩
        have HB_w11 : Below w.heap.size w w11 := by first | exact after0 HB_W3 hb_w11 | exact after1 HB_W3 hb_w11 | exact after2 HB_W3 hb_w11 | exact after3 HB_W3 hb_w11 | exact after4 HB_W3 hb_w11 | exact after5 HB_W3 hb_w11
        try clear q_b_0 q_b_1
        have H_b := Lib.hid (Box.below (by first | exact H_b.out | exact H_b.out.alloc _ | exact (H_b.out.alloc _).alloc _ | exact ((H_b.out.alloc _).alloc _).alloc _) hb_w11)
        obtain ⟨q_b_0, q_b_1⟩ := H_b.out.c2
        try clear q_c_0 q_c_1
        have H_c := Lib.hid (Box.below (by first | exact H_c.out | exact H_c.out.alloc _ | exact (H_c.out.alloc _).alloc _ | exact ((H_c.out.alloc _).alloc _).alloc _) hb_w11)
        obtain ⟨q_c_0, q_c_1⟩ := H_c.out.c2
        replace HSB := Lib.hid (show Sl w11 _ _ _ _ _ _ by first | exact HSB.out.below hb_w11 | exact (HSB.out.below (grew1 (Below.refl _ _))).below hb_w11 | exact (HSB.out.below (grew2 (Below.refl _ _))).below hb_w11 | exact (HSB.out.below (grew3 (Below.refl _ _))).below hb_w11)
        replace HSC := Lib.hid (show Sl w11 _ _ _ _ _ _ by first | exact HSC.out.below hb_w11 | exact (HSC.out.below (grew1 (Below.refl _ _))).below hb_w11 | exact (HSC.out.below (grew2 (Below.refl _ _))).below hb_w11 | exact (HSC.out.below (grew3 (Below.refl _ _))).below hb_w11)
        obtain rfl : 0 = n4 := hl.len
        clear hl
        go_wp2_with fail
        refine (lost_to h8.out (by first | exact HSB.out | exact HSB.out.below (grew1 (Below.refl _ _)) | exact HSB.out.below (grew2 (Below.refl _ _)) | exact HSB.out.below (grew3 (Below.refl _ _))) (by first | exact HSC.out | exact HSC.out.below (grew1 (Below.refl _ _)) | exact HSC.out.below (grew2 (Below.refl _ _)) | exact HSC.out.below (grew3 (Below.refl _ _)))).mono ?_
        rintro e w12 ⟨ao5, n5, cap5, rfl, hl, hb_w12⟩
        have HB_w12 : Below w.heap.size w w12 := by first | exact after0 HB_w11 hb_w12 | exact after1 HB_w11 hb_w12 | exact after2 HB_w11 hb_w12 | exact after3 HB_w11 hb_w12 | exact after4 HB_w11 hb_w12 | exact after5 HB_w11 hb_w12
        obtain rfl : 0 = n5 := hl.len
        clear hl
        go_wp2_with fail
        all_goals try (exfalso; omega)
        all_goals
          go_ret
          exact ⟨rfl, HB_w12⟩
end Go.Proofs.Ytmnlkndbdcdngaa
