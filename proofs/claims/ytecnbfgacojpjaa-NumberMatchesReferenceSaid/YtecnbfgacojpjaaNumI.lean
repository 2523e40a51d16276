/-
  Walks of the layer 'number': the examples (head), last.
-/
import Derived.Test.YtecnbfgacojpjaaNumH
namespace Go.Proofs.Ytecnbfgacojpjaa
open Go.RowKit Nb Sk Go.Sort

def hl : List Us := [⟨⟨5, 2, 7⟩, 10, 100⟩, ⟨⟨5, 2, 8⟩, 20, 60⟩]
def s1 : ByteArray := ⟨#[69, 66, 48, 55]⟩
def s2 : ByteArray := ⟨#[90, 74, 57, 57]⟩
def s3 : ByteArray := ⟨#[69, 66, 48, 48]⟩
def s4 : ByteArray := ⟨#[69, 75, 48, 55]⟩
theorem e_text : text ⟨5, 2, 7⟩ = (s1, 0) := by kernel_rfl
theorem e_p2 : parse s2 = (⟨26, 10, 99⟩, 0) := by kernel_rfl
theorem e_p3 : parse s3 = (⟨0, 0, 0⟩, 1) := by kernel_rfl
theorem e_p4 : parse s4 = (⟨0, 0, 0⟩, 1) := by kernel_rfl
theorem e_n1 : next hl 5 2 30 = (⟨5, 2, 9⟩, 0) := by kernel_rfl
theorem e_n2 : next hl 5 2 19 = (⟨0, 0, 0⟩, 13) := by kernel_rfl
theorem e_n3 : next hl 5 3 30 = (⟨5, 3, 1⟩, 0) := by kernel_rfl
theorem e_w1 : who hl ⟨5, 2, 8⟩ 59 = (1, 0) := by kernel_rfl
theorem e_w2 : who hl ⟨5, 2, 8⟩ 60 = (0, 4) := by kernel_rfl
theorem e_s1 : sure hl ⟨5, 2, 7⟩ 100 200 = (0, 4) := by kernel_rfl
theorem e_s2 : sure hl ⟨5, 2, 7⟩ 90 200 = (0, 0) := by kernel_rfl
theorem e_r1 : room hl 5 2 30 = (97, 0) := by kernel_rfl
theorem e_r2 : room hl 5 2 60 = (98, 0) := by kernel_rfl
theorem e_rows : rows hl = true := by kernel_rfl
theorem e_ok : okN ⟨5, 2, 9⟩ = true := by kernel_rfl

theorem hl_cells : hl.flatMap cU = [.int .i64 5, .int .i64 2, .int .i64 7, .int .i64 10, .int .i64 100, .int .i64 5, .int .i64 2, .int .i64 8, .int .i64 20, .int .i64 60] := rfl

set_option maxRecDepth 100000 in
set_option maxHeartbeats 4000000 in
theorem head_any (w : World) : Calls Try.prog 11 #[] w (Ret w (.bool true)) := by
  have HB_w : Below w.heap.size w w := Below.refl _ _
  go_enter Try.func11, Try.ntmps11
  go_wp2_with fail
  refine (name_any _ _ _ _).mono ?_
  rintro e wa ⟨rfl, hb_wa⟩
  have HB_wa : Below w.heap.size w wa := by first | exact after0 HB_w hb_wa | exact after1 HB_w hb_wa | exact after2 HB_w hb_wa | exact after3 HB_w hb_wa | exact after4 HB_w hb_wa | exact after5 HB_w hb_wa
  go_wp2_with fail
  refine (name_any _ _ _ _).mono ?_
  rintro e wb ⟨rfl, hb_wb⟩
  have HB_wb : Below w.heap.size w wb := by first | exact after0 HB_wa hb_wb | exact after1 HB_wa hb_wb | exact after2 HB_wa hb_wb | exact after3 HB_wa hb_wb | exact after4 HB_wa hb_wb | exact after5 HB_wa hb_wb
  obtain ⟨W1, hW1, hB1, hZ1, hbx⟩ := boxes1 wb [.int .i64 5, .int .i64 2, .int .i64 7, .int .i64 10, .int .i64 100, .int .i64 5, .int .i64 2, .int .i64 8, .int .i64 20, .int .i64 60] 43
  have HB_W1 : Below w.heap.size w W1 := after0 HB_wb hB1
  obtain ⟨L, hL⟩ : ∃ L, wb.heap.size = L := ⟨_, rfl⟩
  rw [hL] at hbx
  have HSL : Hid (Sl W1 5 cU (some ⟨L, 0, none⟩) 2 2 hl) := Sl.lit (l := hl) cU_len hbx (by unfold maxLen; decide)
  clear hbx hB1 hZ1
  go_wp2_with fail
  refine (name_any _ _ _ _).mono ?_
  rintro e wc ⟨rfl, hb_wc⟩
  have HB_wc : Below w.heap.size w wc := by first | exact after0 HB_W1 hb_wc | exact after1 HB_W1 hb_wc | exact after2 HB_W1 hb_wc | exact after3 HB_W1 hb_wc | exact after4 HB_W1 hb_wc | exact after5 HB_W1 hb_wc
  replace HSL := Lib.hid (show Sl wc _ _ _ _ _ _ by first | exact HSL.out.below hb_wc | exact (HSL.out.below (grew1 (Below.refl _ _))).below hb_wc | exact (HSL.out.below (grew2 (Below.refl _ _))).below hb_wc | exact (HSL.out.below (grew3 (Below.refl _ _))).below hb_wc)
  clear hW1 hL
  go_wp2_with fail
  refine (text_any _ _ _ _).mono ?_
  rintro e wd ⟨rfl, hb_wd⟩
  have HB_wd : Below w.heap.size w wd := by first | exact after0 HB_wc hb_wd | exact after1 HB_wc hb_wd | exact after2 HB_wc hb_wd | exact after3 HB_wc hb_wd | exact after4 HB_wc hb_wd | exact after5 HB_wc hb_wd
  replace HSL := Lib.hid (show Sl wd _ _ _ _ _ _ by first | exact HSL.out.below hb_wd | exact (HSL.out.below (grew1 (Below.refl _ _))).below hb_wd | exact (HSL.out.below (grew2 (Below.refl _ _))).below hb_wd | exact (HSL.out.below (grew3 (Below.refl _ _))).below hb_wd)
  rw [e_text]
  go_wp2_with fail
  refine (parse_any s2 _).mono ?_
  rintro e we ⟨rfl, hb_we⟩
  have HB_we : Below w.heap.size w we := by first | exact after0 HB_wd hb_we | exact after1 HB_wd hb_we | exact after2 HB_wd hb_we | exact after3 HB_wd hb_we | exact after4 HB_wd hb_we | exact after5 HB_wd hb_we
  replace HSL := Lib.hid (show Sl we _ _ _ _ _ _ by first | exact HSL.out.below hb_we | exact (HSL.out.below (grew1 (Below.refl _ _))).below hb_we | exact (HSL.out.below (grew2 (Below.refl _ _))).below hb_we | exact (HSL.out.below (grew3 (Below.refl _ _))).below hb_we)
  rw [e_p2]
  dsimp only
  obtain ⟨W2, hW2, hB2, hZ2, ha⟩ := boxes1 we [.int .i64 26, .int .i64 10, .int .i64 99] 23
  have H_a := Lib.hid ha
  have HB_W2 : Below w.heap.size w W2 := after0 HB_we hB2
  replace HSL := Lib.hid (HSL.out.below hB2)
  obtain ⟨A, hA⟩ : ∃ A, we.heap.size = A := ⟨_, rfl⟩
  rw [hA] at H_a
  go_wp2_with fail
  refine (parse_any s3 _).mono ?_
  rintro e wf ⟨rfl, hb_wf⟩
  have HB_wf : Below w.heap.size w wf := by first | exact after0 HB_W2 hb_wf | exact after1 HB_W2 hb_wf | exact after2 HB_W2 hb_wf | exact after3 HB_W2 hb_wf | exact after4 HB_W2 hb_wf | exact after5 HB_W2 hb_wf
  try clear q_a_0 q_a_1 q_a_2
  have H_a := Lib.hid (Box.below (by first | exact H_a.out | exact H_a.out.alloc _ | exact (H_a.out.alloc _).alloc _ | exact ((H_a.out.alloc _).alloc _).alloc _) hb_wf)
  obtain ⟨q_a_0, q_a_1, q_a_2⟩ := H_a.out.c3
  replace HSL := Lib.hid (show Sl wf _ _ _ _ _ _ by first | exact HSL.out.below hb_wf | exact (HSL.out.below (grew1 (Below.refl _ _))).below hb_wf | exact (HSL.out.below (grew2 (Below.refl _ _))).below hb_wf | exact (HSL.out.below (grew3 (Below.refl _ _))).below hb_wf)
  clear hW2 hA hB2 hZ2 ha
  rw [e_p3]
  go_wp2_with fail
  refine (parse_any s4 _).mono ?_
  rintro e wg ⟨rfl, hb_wg⟩
  have HB_wg : Below w.heap.size w wg := by first | exact after0 HB_wf hb_wg | exact after1 HB_wf hb_wg | exact after2 HB_wf hb_wg | exact after3 HB_wf hb_wg | exact after4 HB_wf hb_wg | exact after5 HB_wf hb_wg
  try clear q_a_0 q_a_1 q_a_2
  have H_a := Lib.hid (Box.below (by first | exact H_a.out | exact H_a.out.alloc _ | exact (H_a.out.alloc _).alloc _ | exact ((H_a.out.alloc _).alloc _).alloc _) hb_wg)
  obtain ⟨q_a_0, q_a_1, q_a_2⟩ := H_a.out.c3
  replace HSL := Lib.hid (show Sl wg _ _ _ _ _ _ by first | exact HSL.out.below hb_wg | exact (HSL.out.below (grew1 (Below.refl _ _))).below hb_wg | exact (HSL.out.below (grew2 (Below.refl _ _))).below hb_wg | exact (HSL.out.below (grew3 (Below.refl _ _))).below hb_wg)
  rw [e_p4]
  go_wp2_with fail
  refine (next_any _ _ _ hl _ _ _ _ (by first | exact HSL.out | exact HSL.out.below (grew1 (Below.refl _ _)) | exact HSL.out.below (grew2 (Below.refl _ _)) | exact HSL.out.below (grew3 (Below.refl _ _)))).mono ?_
  rintro e wh ⟨rfl, hb_wh⟩
  have HB_wh : Below w.heap.size w wh := by first | exact after0 HB_wg hb_wh | exact after1 HB_wg hb_wh | exact after2 HB_wg hb_wh | exact after3 HB_wg hb_wh | exact after4 HB_wg hb_wh | exact after5 HB_wg hb_wh
  try clear q_a_0 q_a_1 q_a_2
  have H_a := Lib.hid (Box.below (by first | exact H_a.out | exact H_a.out.alloc _ | exact (H_a.out.alloc _).alloc _ | exact ((H_a.out.alloc _).alloc _).alloc _) hb_wh)
  obtain ⟨q_a_0, q_a_1, q_a_2⟩ := H_a.out.c3
  replace HSL := Lib.hid (show Sl wh _ _ _ _ _ _ by first | exact HSL.out.below hb_wh | exact (HSL.out.below (grew1 (Below.refl _ _))).below hb_wh | exact (HSL.out.below (grew2 (Below.refl _ _))).below hb_wh | exact (HSL.out.below (grew3 (Below.refl _ _))).below hb_wh)
  rw [e_n1]
  dsimp only
  obtain ⟨W3, hW3, hB3, hZ3, hb⟩ := boxes1 wh [.int .i64 5, .int .i64 2, .int .i64 9] 23
  have H_b := Lib.hid hb
  have HB_W3 : Below w.heap.size w W3 := after0 HB_wh hB3
  replace HSL := Lib.hid (HSL.out.below hB3)
  replace H_a := Lib.hid (H_a.out.below hB3)
  obtain ⟨B, hB⟩ : ∃ B, wh.heap.size = B := ⟨_, rfl⟩
  rw [hB] at H_b
  go_wp2_with fail
  refine (next_any _ _ _ hl _ _ _ _ (by first | exact HSL.out | exact HSL.out.below (grew1 (Below.refl _ _)) | exact HSL.out.below (grew2 (Below.refl _ _)) | exact HSL.out.below (grew3 (Below.refl _ _)))).mono ?_
  rintro e wi ⟨rfl, hb_wi⟩
  have HB_wi : Below w.heap.size w wi := by first | exact after0 HB_W3 hb_wi | exact after1 HB_W3 hb_wi | exact after2 HB_W3 hb_wi | exact after3 HB_W3 hb_wi | exact after4 HB_W3 hb_wi | exact after5 HB_W3 hb_wi
  try clear q_a_0 q_a_1 q_a_2
  have H_a := Lib.hid (Box.below (by first | exact H_a.out | exact H_a.out.alloc _ | exact (H_a.out.alloc _).alloc _ | exact ((H_a.out.alloc _).alloc _).alloc _) hb_wi)
  obtain ⟨q_a_0, q_a_1, q_a_2⟩ := H_a.out.c3
  try clear q_b_0 q_b_1 q_b_2
  have H_b := Lib.hid (Box.below (by first | exact H_b.out | exact H_b.out.alloc _ | exact (H_b.out.alloc _).alloc _ | exact ((H_b.out.alloc _).alloc _).alloc _) hb_wi)
  obtain ⟨q_b_0, q_b_1, q_b_2⟩ := H_b.out.c3
  replace HSL := Lib.hid (show Sl wi _ _ _ _ _ _ by first | exact HSL.out.below hb_wi | exact (HSL.out.below (grew1 (Below.refl _ _))).below hb_wi | exact (HSL.out.below (grew2 (Below.refl _ _))).below hb_wi | exact (HSL.out.below (grew3 (Below.refl _ _))).below hb_wi)
  clear hW3 hB hB3 hZ3 hb
  rw [e_n2]
  go_wp2_with fail
  refine (next_any _ _ _ hl _ _ _ _ (by first | exact HSL.out | exact HSL.out.below (grew1 (Below.refl _ _)) | exact HSL.out.below (grew2 (Below.refl _ _)) | exact HSL.out.below (grew3 (Below.refl _ _)))).mono ?_
  rintro e wj ⟨rfl, hb_wj⟩
  have HB_wj : Below w.heap.size w wj := by first | exact after0 HB_wi hb_wj | exact after1 HB_wi hb_wj | exact after2 HB_wi hb_wj | exact after3 HB_wi hb_wj | exact after4 HB_wi hb_wj | exact after5 HB_wi hb_wj
  try clear q_a_0 q_a_1 q_a_2
  have H_a := Lib.hid (Box.below (by first | exact H_a.out | exact H_a.out.alloc _ | exact (H_a.out.alloc _).alloc _ | exact ((H_a.out.alloc _).alloc _).alloc _) hb_wj)
  obtain ⟨q_a_0, q_a_1, q_a_2⟩ := H_a.out.c3
  try clear q_b_0 q_b_1 q_b_2
  have H_b := Lib.hid (Box.below (by first | exact H_b.out | exact H_b.out.alloc _ | exact (H_b.out.alloc _).alloc _ | exact ((H_b.out.alloc _).alloc _).alloc _) hb_wj)
  obtain ⟨q_b_0, q_b_1, q_b_2⟩ := H_b.out.c3
  replace HSL := Lib.hid (show Sl wj _ _ _ _ _ _ by first | exact HSL.out.below hb_wj | exact (HSL.out.below (grew1 (Below.refl _ _))).below hb_wj | exact (HSL.out.below (grew2 (Below.refl _ _))).below hb_wj | exact (HSL.out.below (grew3 (Below.refl _ _))).below hb_wj)
  rw [e_n3]
  dsimp only
  obtain ⟨W4, hW4, hB4, hZ4, hc⟩ := boxes1 wj [.int .i64 5, .int .i64 3, .int .i64 1] 23
  have H_c := Lib.hid hc
  have HB_W4 : Below w.heap.size w W4 := after0 HB_wj hB4
  replace HSL := Lib.hid (HSL.out.below hB4)
  replace H_a := Lib.hid (H_a.out.below hB4)
  replace H_b := Lib.hid (H_b.out.below hB4)
  obtain ⟨C, hC⟩ : ∃ C, wj.heap.size = C := ⟨_, rfl⟩
  rw [hC] at H_c
  go_wp2_with fail
  refine (name_any _ _ _ _).mono ?_
  rintro e wk ⟨rfl, hb_wk⟩
  have HB_wk : Below w.heap.size w wk := by first | exact after0 HB_W4 hb_wk | exact after1 HB_W4 hb_wk | exact after2 HB_W4 hb_wk | exact after3 HB_W4 hb_wk | exact after4 HB_W4 hb_wk | exact after5 HB_W4 hb_wk
  try clear q_a_0 q_a_1 q_a_2
  have H_a := Lib.hid (Box.below (by first | exact H_a.out | exact H_a.out.alloc _ | exact (H_a.out.alloc _).alloc _ | exact ((H_a.out.alloc _).alloc _).alloc _) hb_wk)
  obtain ⟨q_a_0, q_a_1, q_a_2⟩ := H_a.out.c3
  try clear q_b_0 q_b_1 q_b_2
  have H_b := Lib.hid (Box.below (by first | exact H_b.out | exact H_b.out.alloc _ | exact (H_b.out.alloc _).alloc _ | exact ((H_b.out.alloc _).alloc _).alloc _) hb_wk)
  obtain ⟨q_b_0, q_b_1, q_b_2⟩ := H_b.out.c3
  try clear q_c_0 q_c_1 q_c_2
  have H_c := Lib.hid (Box.below (by first | exact H_c.out | exact H_c.out.alloc _ | exact (H_c.out.alloc _).alloc _ | exact ((H_c.out.alloc _).alloc _).alloc _) hb_wk)
  obtain ⟨q_c_0, q_c_1, q_c_2⟩ := H_c.out.c3
  replace HSL := Lib.hid (show Sl wk _ _ _ _ _ _ by first | exact HSL.out.below hb_wk | exact (HSL.out.below (grew1 (Below.refl _ _))).below hb_wk | exact (HSL.out.below (grew2 (Below.refl _ _))).below hb_wk | exact (HSL.out.below (grew3 (Below.refl _ _))).below hb_wk)
  clear hW4 hC hB4 hZ4 hc
  go_wp2_with fail
  refine (who_any _ _ _ hl _ _ _ _ _ (by first | exact HSL.out | exact HSL.out.below (grew1 (Below.refl _ _)) | exact HSL.out.below (grew2 (Below.refl _ _)) | exact HSL.out.below (grew3 (Below.refl _ _)))).mono ?_
  rintro e wl ⟨rfl, hb_wl⟩
  have HB_wl : Below w.heap.size w wl := by first | exact after0 HB_wk hb_wl | exact after1 HB_wk hb_wl | exact after2 HB_wk hb_wl | exact after3 HB_wk hb_wl | exact after4 HB_wk hb_wl | exact after5 HB_wk hb_wl
  try clear q_a_0 q_a_1 q_a_2
  have H_a := Lib.hid (Box.below (by first | exact H_a.out | exact H_a.out.alloc _ | exact (H_a.out.alloc _).alloc _ | exact ((H_a.out.alloc _).alloc _).alloc _) hb_wl)
  obtain ⟨q_a_0, q_a_1, q_a_2⟩ := H_a.out.c3
  try clear q_b_0 q_b_1 q_b_2
  have H_b := Lib.hid (Box.below (by first | exact H_b.out | exact H_b.out.alloc _ | exact (H_b.out.alloc _).alloc _ | exact ((H_b.out.alloc _).alloc _).alloc _) hb_wl)
  obtain ⟨q_b_0, q_b_1, q_b_2⟩ := H_b.out.c3
  try clear q_c_0 q_c_1 q_c_2
  have H_c := Lib.hid (Box.below (by first | exact H_c.out | exact H_c.out.alloc _ | exact (H_c.out.alloc _).alloc _ | exact ((H_c.out.alloc _).alloc _).alloc _) hb_wl)
  obtain ⟨q_c_0, q_c_1, q_c_2⟩ := H_c.out.c3
  replace HSL := Lib.hid (show Sl wl _ _ _ _ _ _ by first | exact HSL.out.below hb_wl | exact (HSL.out.below (grew1 (Below.refl _ _))).below hb_wl | exact (HSL.out.below (grew2 (Below.refl _ _))).below hb_wl | exact (HSL.out.below (grew3 (Below.refl _ _))).below hb_wl)
  rw [e_w1]
  go_wp2_with fail
  refine (name_any _ _ _ _).mono ?_
  rintro e wm ⟨rfl, hb_wm⟩
  have HB_wm : Below w.heap.size w wm := by first | exact after0 HB_wl hb_wm | exact after1 HB_wl hb_wm | exact after2 HB_wl hb_wm | exact after3 HB_wl hb_wm | exact after4 HB_wl hb_wm | exact after5 HB_wl hb_wm
  try clear q_a_0 q_a_1 q_a_2
  have H_a := Lib.hid (Box.below (by first | exact H_a.out | exact H_a.out.alloc _ | exact (H_a.out.alloc _).alloc _ | exact ((H_a.out.alloc _).alloc _).alloc _) hb_wm)
  obtain ⟨q_a_0, q_a_1, q_a_2⟩ := H_a.out.c3
  try clear q_b_0 q_b_1 q_b_2
  have H_b := Lib.hid (Box.below (by first | exact H_b.out | exact H_b.out.alloc _ | exact (H_b.out.alloc _).alloc _ | exact ((H_b.out.alloc _).alloc _).alloc _) hb_wm)
  obtain ⟨q_b_0, q_b_1, q_b_2⟩ := H_b.out.c3
  try clear q_c_0 q_c_1 q_c_2
  have H_c := Lib.hid (Box.below (by first | exact H_c.out | exact H_c.out.alloc _ | exact (H_c.out.alloc _).alloc _ | exact ((H_c.out.alloc _).alloc _).alloc _) hb_wm)
  obtain ⟨q_c_0, q_c_1, q_c_2⟩ := H_c.out.c3
  replace HSL := Lib.hid (show Sl wm _ _ _ _ _ _ by first | exact HSL.out.below hb_wm | exact (HSL.out.below (grew1 (Below.refl _ _))).below hb_wm | exact (HSL.out.below (grew2 (Below.refl _ _))).below hb_wm | exact (HSL.out.below (grew3 (Below.refl _ _))).below hb_wm)
  go_wp2_with fail
  refine (who_any _ _ _ hl _ _ _ _ _ (by first | exact HSL.out | exact HSL.out.below (grew1 (Below.refl _ _)) | exact HSL.out.below (grew2 (Below.refl _ _)) | exact HSL.out.below (grew3 (Below.refl _ _)))).mono ?_
  rintro e wn ⟨rfl, hb_wn⟩
  have HB_wn : Below w.heap.size w wn := by first | exact after0 HB_wm hb_wn | exact after1 HB_wm hb_wn | exact after2 HB_wm hb_wn | exact after3 HB_wm hb_wn | exact after4 HB_wm hb_wn | exact after5 HB_wm hb_wn
  try clear q_a_0 q_a_1 q_a_2
  have H_a := Lib.hid (Box.below (by first | exact H_a.out | exact H_a.out.alloc _ | exact (H_a.out.alloc _).alloc _ | exact ((H_a.out.alloc _).alloc _).alloc _) hb_wn)
  obtain ⟨q_a_0, q_a_1, q_a_2⟩ := H_a.out.c3
  try clear q_b_0 q_b_1 q_b_2
  have H_b := Lib.hid (Box.below (by first | exact H_b.out | exact H_b.out.alloc _ | exact (H_b.out.alloc _).alloc _ | exact ((H_b.out.alloc _).alloc _).alloc _) hb_wn)
  obtain ⟨q_b_0, q_b_1, q_b_2⟩ := H_b.out.c3
  try clear q_c_0 q_c_1 q_c_2
  have H_c := Lib.hid (Box.below (by first | exact H_c.out | exact H_c.out.alloc _ | exact (H_c.out.alloc _).alloc _ | exact ((H_c.out.alloc _).alloc _).alloc _) hb_wn)
  obtain ⟨q_c_0, q_c_1, q_c_2⟩ := H_c.out.c3
  replace HSL := Lib.hid (show Sl wn _ _ _ _ _ _ by first | exact HSL.out.below hb_wn | exact (HSL.out.below (grew1 (Below.refl _ _))).below hb_wn | exact (HSL.out.below (grew2 (Below.refl _ _))).below hb_wn | exact (HSL.out.below (grew3 (Below.refl _ _))).below hb_wn)
  rw [e_w2]
  go_wp2_with fail
  refine (name_any _ _ _ _).mono ?_
  rintro e wo ⟨rfl, hb_wo⟩
  have HB_wo : Below w.heap.size w wo := by first | exact after0 HB_wn hb_wo | exact after1 HB_wn hb_wo | exact after2 HB_wn hb_wo | exact after3 HB_wn hb_wo | exact after4 HB_wn hb_wo | exact after5 HB_wn hb_wo
  try clear q_a_0 q_a_1 q_a_2
  have H_a := Lib.hid (Box.below (by first | exact H_a.out | exact H_a.out.alloc _ | exact (H_a.out.alloc _).alloc _ | exact ((H_a.out.alloc _).alloc _).alloc _) hb_wo)
  obtain ⟨q_a_0, q_a_1, q_a_2⟩ := H_a.out.c3
  try clear q_b_0 q_b_1 q_b_2
  have H_b := Lib.hid (Box.below (by first | exact H_b.out | exact H_b.out.alloc _ | exact (H_b.out.alloc _).alloc _ | exact ((H_b.out.alloc _).alloc _).alloc _) hb_wo)
  obtain ⟨q_b_0, q_b_1, q_b_2⟩ := H_b.out.c3
  try clear q_c_0 q_c_1 q_c_2
  have H_c := Lib.hid (Box.below (by first | exact H_c.out | exact H_c.out.alloc _ | exact (H_c.out.alloc _).alloc _ | exact ((H_c.out.alloc _).alloc _).alloc _) hb_wo)
  obtain ⟨q_c_0, q_c_1, q_c_2⟩ := H_c.out.c3
  replace HSL := Lib.hid (show Sl wo _ _ _ _ _ _ by first | exact HSL.out.below hb_wo | exact (HSL.out.below (grew1 (Below.refl _ _))).below hb_wo | exact (HSL.out.below (grew2 (Below.refl _ _))).below hb_wo | exact (HSL.out.below (grew3 (Below.refl _ _))).below hb_wo)
  go_wp2_with fail
  refine (sure_any _ _ _ hl _ _ _ _ _ _ (by first | exact HSL.out | exact HSL.out.below (grew1 (Below.refl _ _)) | exact HSL.out.below (grew2 (Below.refl _ _)) | exact HSL.out.below (grew3 (Below.refl _ _)))).mono ?_
  rintro e wp ⟨rfl, hb_wp⟩
  have HB_wp : Below w.heap.size w wp := by first | exact after0 HB_wo hb_wp | exact after1 HB_wo hb_wp | exact after2 HB_wo hb_wp | exact after3 HB_wo hb_wp | exact after4 HB_wo hb_wp | exact after5 HB_wo hb_wp
  try clear q_a_0 q_a_1 q_a_2
  have H_a := Lib.hid (Box.below (by first | exact H_a.out | exact H_a.out.alloc _ | exact (H_a.out.alloc _).alloc _ | exact ((H_a.out.alloc _).alloc _).alloc _) hb_wp)
  obtain ⟨q_a_0, q_a_1, q_a_2⟩ := H_a.out.c3
  try clear q_b_0 q_b_1 q_b_2
  have H_b := Lib.hid (Box.below (by first | exact H_b.out | exact H_b.out.alloc _ | exact (H_b.out.alloc _).alloc _ | exact ((H_b.out.alloc _).alloc _).alloc _) hb_wp)
  obtain ⟨q_b_0, q_b_1, q_b_2⟩ := H_b.out.c3
  try clear q_c_0 q_c_1 q_c_2
  have H_c := Lib.hid (Box.below (by first | exact H_c.out | exact H_c.out.alloc _ | exact (H_c.out.alloc _).alloc _ | exact ((H_c.out.alloc _).alloc _).alloc _) hb_wp)
  obtain ⟨q_c_0, q_c_1, q_c_2⟩ := H_c.out.c3
  replace HSL := Lib.hid (show Sl wp _ _ _ _ _ _ by first | exact HSL.out.below hb_wp | exact (HSL.out.below (grew1 (Below.refl _ _))).below hb_wp | exact (HSL.out.below (grew2 (Below.refl _ _))).below hb_wp | exact (HSL.out.below (grew3 (Below.refl _ _))).below hb_wp)
  rw [e_s1]
  go_wp2_with fail
  refine (name_any _ _ _ _).mono ?_
  rintro e wq ⟨rfl, hb_wq⟩
  have HB_wq : Below w.heap.size w wq := by first | exact after0 HB_wp hb_wq | exact after1 HB_wp hb_wq | exact after2 HB_wp hb_wq | exact after3 HB_wp hb_wq | exact after4 HB_wp hb_wq | exact after5 HB_wp hb_wq
  try clear q_a_0 q_a_1 q_a_2
  have H_a := Lib.hid (Box.below (by first | exact H_a.out | exact H_a.out.alloc _ | exact (H_a.out.alloc _).alloc _ | exact ((H_a.out.alloc _).alloc _).alloc _) hb_wq)
  obtain ⟨q_a_0, q_a_1, q_a_2⟩ := H_a.out.c3
  try clear q_b_0 q_b_1 q_b_2
  have H_b := Lib.hid (Box.below (by first | exact H_b.out | exact H_b.out.alloc _ | exact (H_b.out.alloc _).alloc _ | exact ((H_b.out.alloc _).alloc _).alloc _) hb_wq)
  obtain ⟨q_b_0, q_b_1, q_b_2⟩ := H_b.out.c3
  try clear q_c_0 q_c_1 q_c_2
  have H_c := Lib.hid (Box.below (by first | exact H_c.out | exact H_c.out.alloc _ | exact (H_c.out.alloc _).alloc _ | exact ((H_c.out.alloc _).alloc _).alloc _) hb_wq)
  obtain ⟨q_c_0, q_c_1, q_c_2⟩ := H_c.out.c3
  replace HSL := Lib.hid (show Sl wq _ _ _ _ _ _ by first | exact HSL.out.below hb_wq | exact (HSL.out.below (grew1 (Below.refl _ _))).below hb_wq | exact (HSL.out.below (grew2 (Below.refl _ _))).below hb_wq | exact (HSL.out.below (grew3 (Below.refl _ _))).below hb_wq)
  go_wp2_with fail
  refine (sure_any _ _ _ hl _ _ _ _ _ _ (by first | exact HSL.out | exact HSL.out.below (grew1 (Below.refl _ _)) | exact HSL.out.below (grew2 (Below.refl _ _)) | exact HSL.out.below (grew3 (Below.refl _ _)))).mono ?_
  rintro e wr ⟨rfl, hb_wr⟩
  have HB_wr : Below w.heap.size w wr := by first | exact after0 HB_wq hb_wr | exact after1 HB_wq hb_wr | exact after2 HB_wq hb_wr | exact after3 HB_wq hb_wr | exact after4 HB_wq hb_wr | exact after5 HB_wq hb_wr
  try clear q_a_0 q_a_1 q_a_2
  have H_a := Lib.hid (Box.below (by first | exact H_a.out | exact H_a.out.alloc _ | exact (H_a.out.alloc _).alloc _ | exact ((H_a.out.alloc _).alloc _).alloc _) hb_wr)
  obtain ⟨q_a_0, q_a_1, q_a_2⟩ := H_a.out.c3
  try clear q_b_0 q_b_1 q_b_2
  have H_b := Lib.hid (Box.below (by first | exact H_b.out | exact H_b.out.alloc _ | exact (H_b.out.alloc _).alloc _ | exact ((H_b.out.alloc _).alloc _).alloc _) hb_wr)
  obtain ⟨q_b_0, q_b_1, q_b_2⟩ := H_b.out.c3
  try clear q_c_0 q_c_1 q_c_2
  have H_c := Lib.hid (Box.below (by first | exact H_c.out | exact H_c.out.alloc _ | exact (H_c.out.alloc _).alloc _ | exact ((H_c.out.alloc _).alloc _).alloc _) hb_wr)
  obtain ⟨q_c_0, q_c_1, q_c_2⟩ := H_c.out.c3
  replace HSL := Lib.hid (show Sl wr _ _ _ _ _ _ by first | exact HSL.out.below hb_wr | exact (HSL.out.below (grew1 (Below.refl _ _))).below hb_wr | exact (HSL.out.below (grew2 (Below.refl _ _))).below hb_wr | exact (HSL.out.below (grew3 (Below.refl _ _))).below hb_wr)
  rw [e_s2]
  go_wp2_with fail
  refine (room_any _ _ _ hl _ _ _ _ (by first | exact HSL.out | exact HSL.out.below (grew1 (Below.refl _ _)) | exact HSL.out.below (grew2 (Below.refl _ _)) | exact HSL.out.below (grew3 (Below.refl _ _)))).mono ?_
  rintro e ws ⟨rfl, hb_ws⟩
  have HB_ws : Below w.heap.size w ws := by first | exact after0 HB_wr hb_ws | exact after1 HB_wr hb_ws | exact after2 HB_wr hb_ws | exact after3 HB_wr hb_ws | exact after4 HB_wr hb_ws | exact after5 HB_wr hb_ws
  try clear q_a_0 q_a_1 q_a_2
  have H_a := Lib.hid (Box.below (by first | exact H_a.out | exact H_a.out.alloc _ | exact (H_a.out.alloc _).alloc _ | exact ((H_a.out.alloc _).alloc _).alloc _) hb_ws)
  obtain ⟨q_a_0, q_a_1, q_a_2⟩ := H_a.out.c3
  try clear q_b_0 q_b_1 q_b_2
  have H_b := Lib.hid (Box.below (by first | exact H_b.out | exact H_b.out.alloc _ | exact (H_b.out.alloc _).alloc _ | exact ((H_b.out.alloc _).alloc _).alloc _) hb_ws)
  obtain ⟨q_b_0, q_b_1, q_b_2⟩ := H_b.out.c3
  try clear q_c_0 q_c_1 q_c_2
  have H_c := Lib.hid (Box.below (by first | exact H_c.out | exact H_c.out.alloc _ | exact (H_c.out.alloc _).alloc _ | exact ((H_c.out.alloc _).alloc _).alloc _) hb_ws)
  obtain ⟨q_c_0, q_c_1, q_c_2⟩ := H_c.out.c3
  replace HSL := Lib.hid (show Sl ws _ _ _ _ _ _ by first | exact HSL.out.below hb_ws | exact (HSL.out.below (grew1 (Below.refl _ _))).below hb_ws | exact (HSL.out.below (grew2 (Below.refl _ _))).below hb_ws | exact (HSL.out.below (grew3 (Below.refl _ _))).below hb_ws)
  rw [e_r1]
  go_wp2_with fail
  refine (room_any _ _ _ hl _ _ _ _ (by first | exact HSL.out | exact HSL.out.below (grew1 (Below.refl _ _)) | exact HSL.out.below (grew2 (Below.refl _ _)) | exact HSL.out.below (grew3 (Below.refl _ _)))).mono ?_
  rintro e wt ⟨rfl, hb_wt⟩
  have HB_wt : Below w.heap.size w wt := by first | exact after0 HB_ws hb_wt | exact after1 HB_ws hb_wt | exact after2 HB_ws hb_wt | exact after3 HB_ws hb_wt | exact after4 HB_ws hb_wt | exact after5 HB_ws hb_wt
  try clear q_a_0 q_a_1 q_a_2
  have H_a := Lib.hid (Box.below (by first | exact H_a.out | exact H_a.out.alloc _ | exact (H_a.out.alloc _).alloc _ | exact ((H_a.out.alloc _).alloc _).alloc _) hb_wt)
  obtain ⟨q_a_0, q_a_1, q_a_2⟩ := H_a.out.c3
  try clear q_b_0 q_b_1 q_b_2
  have H_b := Lib.hid (Box.below (by first | exact H_b.out | exact H_b.out.alloc _ | exact (H_b.out.alloc _).alloc _ | exact ((H_b.out.alloc _).alloc _).alloc _) hb_wt)
  obtain ⟨q_b_0, q_b_1, q_b_2⟩ := H_b.out.c3
  try clear q_c_0 q_c_1 q_c_2
  have H_c := Lib.hid (Box.below (by first | exact H_c.out | exact H_c.out.alloc _ | exact (H_c.out.alloc _).alloc _ | exact ((H_c.out.alloc _).alloc _).alloc _) hb_wt)
  obtain ⟨q_c_0, q_c_1, q_c_2⟩ := H_c.out.c3
  replace HSL := Lib.hid (show Sl wt _ _ _ _ _ _ by first | exact HSL.out.below hb_wt | exact (HSL.out.below (grew1 (Below.refl _ _))).below hb_wt | exact (HSL.out.below (grew2 (Below.refl _ _))).below hb_wt | exact (HSL.out.below (grew3 (Below.refl _ _))).below hb_wt)
  rw [e_r2]
  go_wp2_with fail
  have z0 := cell_regrown q_a_0
  have z1 := cell_regrown q_a_1
  have z2 := cell_regrown q_a_2
  have z3 := cell_regrown q_b_0
  have z4 := cell_regrown q_b_1
  have z5 := cell_regrown q_b_2
  have z6 := cell_regrown q_c_0
  have z7 := cell_regrown q_c_1
  have z8 := cell_regrown q_c_2
  clear q_a_0 q_a_1 q_a_2 q_b_0 q_b_1 q_b_2 q_c_0 q_c_1 q_c_2
  unfold s1
  refine wp_region_mix (C := fun w' => ∃ p : Regrown, w' = grow (redrawn wt p.d) p.os) [(0, 0), (1, 0), (2, 0), (3, 0), (4, 0), (5, 0), (6, 0), (7, 1), (8, 0), (9, 0), (10, 0), (11, 0), (12, 1), (13, 0), (14, 0), (15, 0), (16, 0), (17, 1), (18, 0), (19, 0), (20, 0), (21, 0), (22, 0), (23, 0), (24, 0), (25, 0), (26, 0), (27, 0), (28, 0), (29, 0), (30, 0), (31, 0), (32, 0), (33, 0), (34, 0), (35, 0), (36, 0)] 37 (by kernel_rfl) (by kernel_rfl) (grew_drew _) ?_
  have HG_t : Below wt.heap.size wt wt.drew := (Below.refl _ _).drew
  repeat (refine mix_q rfl rfl ?_; first | go_big_quiet_skip | (go_big_quiet_want; go_big_quiet_op; go_big_quiet_on); refine wpQuiet_nil ?_)
  refine mix_e rfl ?_
  go_wp2_with fail
  refine (name_any _ _ _ _).mono ?_
  rintro e wu ⟨rfl, hb'⟩
  have HG_u : Below wt.heap.size wt wu := by exact HG_t.trans (hb'.mono HG_t.size)
  clear hb'
  go_wp2_with fail
  refine MixPost.intro (grew_of_below HG_u) ?_
  repeat (refine mix_q rfl rfl ?_; first | go_big_quiet_skip | (go_big_quiet_want; go_big_quiet_op; go_big_quiet_on); refine wpQuiet_nil ?_)
  refine mix_e rfl ?_
  go_wp2_with fail
  refine (name_any _ _ _ _).mono ?_
  rintro e wv ⟨rfl, hb'⟩
  have HG_v : Below wt.heap.size wt wv := by exact HG_u.trans (hb'.mono HG_u.size)
  clear hb'
  go_wp2_with fail
  refine MixPost.intro (grew_of_below HG_v) ?_
  repeat (refine mix_q rfl rfl ?_; first | go_big_quiet_skip | (go_big_quiet_want; go_big_quiet_op; go_big_quiet_on); refine wpQuiet_nil ?_)
  refine mix_e rfl ?_
  go_wp2_with fail
  refine (name_any _ _ _ _).mono ?_
  rintro e wx ⟨rfl, hb'⟩
  have HG_x : Below wt.heap.size wt wx := by exact HG_v.trans (hb'.mono HG_v.size)
  clear hb'
  go_wp2_with fail
  refine MixPost.intro (grew_of_below HG_x) ?_
  repeat (refine mix_q rfl rfl ?_; first | go_big_quiet_skip | (go_big_quiet_want; go_big_quiet_op; go_big_quiet_on); refine wpQuiet_nil ?_)
  refine wpMix_nil ?_
  try simp only [List.drop_succ_cons, List.drop_zero]
  go_wp2_with fail
  refine NoPanic.normal ?_
  have HB_wx : Below w.heap.size w wx := HB_wt.trans (HG_x.mono HB_wt.size)
  have HSL2 : Hid (Sl wx 5 cU (some ⟨L, 0, none⟩) 2 2 hl) := HSL.out.below HG_x
  replace H_b := Lib.hid (H_b.out.below HG_x)
  obtain ⟨q_b_0, q_b_1, q_b_2⟩ := H_b.out.c3
  clear z0 z1 z2 z3 z4 z5 z6 z7 z8 HSL
  have HSL := HSL2
  clear HSL2
  go_wp2_with fail
  refine (rows_any _ _ _ hl _ (by first | exact HSL.out | exact HSL.out.below (grew1 (Below.refl _ _)) | exact HSL.out.below (grew2 (Below.refl _ _)) | exact HSL.out.below (grew3 (Below.refl _ _)))).mono ?_
  rintro e wy ⟨rfl, hb_wy⟩
  have HB_wy : Below w.heap.size w wy := by first | exact after0 HB_wx hb_wy | exact after1 HB_wx hb_wy | exact after2 HB_wx hb_wy | exact after3 HB_wx hb_wy | exact after4 HB_wx hb_wy | exact after5 HB_wx hb_wy
  try clear q_b_0 q_b_1 q_b_2
  have H_b := Lib.hid (Box.below (by first | exact H_b.out | exact H_b.out.alloc _ | exact (H_b.out.alloc _).alloc _ | exact ((H_b.out.alloc _).alloc _).alloc _) hb_wy)
  obtain ⟨q_b_0, q_b_1, q_b_2⟩ := H_b.out.c3
  replace HSL := Lib.hid (show Sl wy _ _ _ _ _ _ by first | exact HSL.out.below hb_wy | exact (HSL.out.below (grew1 (Below.refl _ _))).below hb_wy | exact (HSL.out.below (grew2 (Below.refl _ _))).below hb_wy | exact (HSL.out.below (grew3 (Below.refl _ _))).below hb_wy)
  rw [e_rows]
  go_wp2_with fail
  refine (valid_any _ _ _ _).mono ?_
  rintro e wz ⟨rfl, hb_wz⟩
  have HB_wz : Below w.heap.size w wz := by first | exact after0 HB_wy hb_wz | exact after1 HB_wy hb_wz | exact after2 HB_wy hb_wz | exact after3 HB_wy hb_wz | exact after4 HB_wy hb_wz | exact after5 HB_wy hb_wz
  rw [e_ok]
  go_wp2_with fail
  go_ret
  exact ⟨rfl, HB_wz⟩
end Go.Proofs.Ytecnbfgacojpjaa
