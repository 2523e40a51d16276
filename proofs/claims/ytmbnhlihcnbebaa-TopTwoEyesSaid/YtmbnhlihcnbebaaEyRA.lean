/-
  Walks of the reference of the layer 'eyes': persons, times, boxes, acts, dangers.
-/
import Derived.Test.YtmbnhlihcnbebaaEyC
set_option linter.unusedVariables false
namespace Go.Proofs.Ytmbnhlihcnbebaa
open Go Go.RowKit Ey Sk

theorem rperson_any (n : Int) (w : World) : Calls Try.prog 51 #[.int .i64 n] w (Ret w (.bool (numB n))) := by
  go_enter Try.func51, Try.ntmps51
  go_wp2
  all_goals
    go_ret
    refine ⟨ret_bool ?_, (Below.refl _ _)⟩
    simp [numB]; try omega
theorem rtime_any (n : Int) (w : World) : Calls Try.prog 49 #[.int .i64 n] w (Ret w (.bool (timeB n))) := by
  go_enter Try.func49, Try.ntmps49
  go_wp2
  all_goals
    go_ret
    refine ⟨ret_bool ?_, (Below.refl _ _)⟩
    simp [timeB]; try omega
def coB (a b : Int) : Bool := decide (-1000000 ≤ a ∧ a ≤ b ∧ b ≤ 1000000)
theorem rcoords_any (a b : Int) (w : World) : Calls Try.prog 73 #[.agg #[.int .i64 a, .int .i64 b]] w (Ret w (.bool (coB a b))) := by
  go_enter Try.func73, Try.ntmps73
  go_wp2
  all_goals
    go_ret
    refine ⟨ret_bool ?_, grew1 (Below.refl _ _)⟩
    simp [coB]; try omega
theorem boxB_co (b : Bx) : boxB b = (coB b.a b.b && coB b.c b.d) := by
  unfold boxB coB
  rw [← Bool.decide_and]
  congr 1
  exact propext (by omega)
set_option maxRecDepth 100000 in
set_option maxHeartbeats 4000000 in
theorem rvalidBox_any (b : Bx) (w : World) : Calls Try.prog 57 #[eB b] w (Ret w (.bool (boxB b))) := by
  have HS := Lib.hid (boxB_co b)
  obtain ⟨a0, a1, a2, a3⟩ := b
  dsimp only at HS
  generalize boxB ⟨a0, a1, a2, a3⟩ = p at *
  obtain ⟨W0, hW0, HB_W0, hZ, hn⟩ := boxes1 w [.int .i64 a0, .int .i64 a1, .int .i64 a2, .int .i64 a3] 31
  have H_n := Lib.hid hn
  dsimp only [eB]
  clear hn hZ
  obtain ⟨q_n_0, q_n_1, q_n_2, q_n_3⟩ := H_n.out.c4
  go_enter Try.func57, Try.ntmps57
  go_wp2_with fail
  refine (rcoords_any a0 a1 _).mono ?_
  rintro e wa ⟨rfl, hb_wa⟩
  have HB_wa : Below w.heap.size w wa := by first | exact after0 HB_W0 hb_wa | exact after1 HB_W0 hb_wa | exact after2 HB_W0 hb_wa | exact after3 HB_W0 hb_wa | exact after4 HB_W0 hb_wa | exact after5 HB_W0 hb_wa
  try clear q_n_0 q_n_1 q_n_2 q_n_3
  have H_n := Lib.hid (Box.below (by first | exact H_n.out | exact H_n.out.alloc _ | exact (H_n.out.alloc _).alloc _ | exact ((H_n.out.alloc _).alloc _).alloc _) hb_wa)
  obtain ⟨q_n_0, q_n_1, q_n_2, q_n_3⟩ := H_n.out.c4
  clear hW0
  go_wp2_with fail
  refine (rcoords_any a2 a3 _).mono ?_
  rintro e wb ⟨rfl, hb_wb⟩
  have HB_wb : Below w.heap.size w wb := by first | exact after0 HB_wa hb_wb | exact after1 HB_wa hb_wb | exact after2 HB_wa hb_wb | exact after3 HB_wa hb_wb | exact after4 HB_wa hb_wb | exact after5 HB_wa hb_wb
  generalize coB a0 a1 = q at *
  generalize coB a2 a3 = r at *
  cases q
  · have HP := Lib.hid (show p = false by rw [HS.out]; rfl)
    go_wp2_with fail
    all_goals try (exfalso; omega)
    go_ret
    exact ⟨ret_bool' HP.out.symm, HB_wb⟩
  · have HP := Lib.hid (show p = r by rw [HS.out]; rfl)
    go_wp2_with fail
    all_goals try (exfalso; omega)
    go_ret
    exact ⟨ret_bool' HP.out.symm, HB_wb⟩

set_option maxRecDepth 100000 in
set_option maxHeartbeats 8000000 in
theorem ract_any (a : Ac) (w : World) : Calls Try.prog 29 #[eA a] w (Ret w (.bool (validA a))) := by
  obtain ⟨a0, a1, a2, a3, a4, a5, a6, a7⟩ := a
  have HS := Lib.hid (show validA ⟨a0, a1, a2, a3, ⟨a4, a5, a6, a7⟩⟩ = (numB a1 && numB a2 && timeB a3 && (if a0 = 1 then boxB ⟨a4, a5, a6, a7⟩ else if a0 = 2 ∨ a0 = 3 ∨ a0 = 4 then decide ((⟨a4, a5, a6, a7⟩ : Bx) = bx0) else false)) from rfl)
  have HV := Lib.hid (fun W => rvalidBox_any ⟨a4, a5, a6, a7⟩ W)
  generalize validA ⟨a0, a1, a2, a3, ⟨a4, a5, a6, a7⟩⟩ = p at *
  obtain ⟨W0, hW0, HB_W0, hZ, hn⟩ := boxes1 w [.int .i64 a0, .int .i64 a1, .int .i64 a2, .int .i64 a3, .int .i64 a4, .int .i64 a5, .int .i64 a6, .int .i64 a7] 37
  have H_n := Lib.hid hn
  dsimp only [eB] at HV
  dsimp only [eA]
  clear hn hZ
  obtain ⟨q_n_0, q_n_1, q_n_2, q_n_3, q_n_4, q_n_5, q_n_6, q_n_7⟩ := H_n.out.c8
  go_enter Try.func29, Try.ntmps29
  go_wp2_with fail
  refine (rperson_any a1 _).mono ?_
  rintro e wa ⟨rfl, hb_wa⟩
  have HB_wa : Below w.heap.size w wa := by first | exact after0 HB_W0 hb_wa | exact after1 HB_W0 hb_wa | exact after2 HB_W0 hb_wa | exact after3 HB_W0 hb_wa | exact after4 HB_W0 hb_wa | exact after5 HB_W0 hb_wa
  try clear q_n_0 q_n_1 q_n_2 q_n_3 q_n_4 q_n_5 q_n_6 q_n_7
  have H_n := Lib.hid (Box.below (by first | exact H_n.out | exact H_n.out.alloc _ | exact (H_n.out.alloc _).alloc _ | exact ((H_n.out.alloc _).alloc _).alloc _) hb_wa)
  obtain ⟨q_n_0, q_n_1, q_n_2, q_n_3, q_n_4, q_n_5, q_n_6, q_n_7⟩ := H_n.out.c8
  clear hW0
  go_wp2_with fail
  refine (rperson_any a2 _).mono ?_
  rintro e wb ⟨rfl, hb_wb⟩
  have HB_wb : Below w.heap.size w wb := by first | exact after0 HB_wa hb_wb | exact after1 HB_wa hb_wb | exact after2 HB_wa hb_wb | exact after3 HB_wa hb_wb | exact after4 HB_wa hb_wb | exact after5 HB_wa hb_wb
  try clear q_n_0 q_n_1 q_n_2 q_n_3 q_n_4 q_n_5 q_n_6 q_n_7
  have H_n := Lib.hid (Box.below (by first | exact H_n.out | exact H_n.out.alloc _ | exact (H_n.out.alloc _).alloc _ | exact ((H_n.out.alloc _).alloc _).alloc _) hb_wb)
  obtain ⟨q_n_0, q_n_1, q_n_2, q_n_3, q_n_4, q_n_5, q_n_6, q_n_7⟩ := H_n.out.c8
  go_wp2_with fail
  refine (rtime_any a3 _).mono ?_
  rintro e wc ⟨rfl, hb_wc⟩
  have HB_wc : Below w.heap.size w wc := by first | exact after0 HB_wb hb_wc | exact after1 HB_wb hb_wc | exact after2 HB_wb hb_wc | exact after3 HB_wb hb_wc | exact after4 HB_wb hb_wc | exact after5 HB_wb hb_wc
  try clear q_n_0 q_n_1 q_n_2 q_n_3 q_n_4 q_n_5 q_n_6 q_n_7
  have H_n := Lib.hid (Box.below (by first | exact H_n.out | exact H_n.out.alloc _ | exact (H_n.out.alloc _).alloc _ | exact ((H_n.out.alloc _).alloc _).alloc _) hb_wc)
  obtain ⟨q_n_0, q_n_1, q_n_2, q_n_3, q_n_4, q_n_5, q_n_6, q_n_7⟩ := H_n.out.c8
  go_wp2_with fail
  refine (HV.out _).mono ?_
  rintro e wd ⟨rfl, hb_wd⟩
  have HB_wd : Below w.heap.size w wd := by first | exact after0 HB_wc hb_wd | exact after1 HB_wc hb_wd | exact after2 HB_wc hb_wd | exact after3 HB_wc hb_wd | exact after4 HB_wc hb_wd | exact after5 HB_wc hb_wd
  try clear q_n_0 q_n_1 q_n_2 q_n_3 q_n_4 q_n_5 q_n_6 q_n_7
  have H_n := Lib.hid (Box.below (by first | exact H_n.out | exact H_n.out.alloc _ | exact (H_n.out.alloc _).alloc _ | exact ((H_n.out.alloc _).alloc _).alloc _) hb_wd)
  obtain ⟨q_n_0, q_n_1, q_n_2, q_n_3, q_n_4, q_n_5, q_n_6, q_n_7⟩ := H_n.out.c8
  generalize numB a1 = b1 at *
  generalize numB a2 = b2 at *
  generalize timeB a3 = b3 at *
  generalize boxB ⟨a4, a5, a6, a7⟩ = b4 at *
  clear HV
  cases b1
  · have HP := Lib.hid (show p = false by rw [HS.out]; rfl)
    go_wp2_with fail
    all_goals try (exfalso; omega)
    go_ret
    exact ⟨ret_bool' HP.out.symm, HB_wd⟩
  cases b2
  · have HP := Lib.hid (show p = false by rw [HS.out]; rfl)
    go_wp2_with fail
    all_goals try (exfalso; omega)
    go_ret
    exact ⟨ret_bool' HP.out.symm, HB_wd⟩
  cases b3
  · have HP := Lib.hid (show p = false by rw [HS.out]; rfl)
    go_wp2_with fail
    all_goals try (exfalso; omega)
    go_ret
    exact ⟨ret_bool' HP.out.symm, HB_wd⟩
  replace HS := Lib.hid (show p = (if a0 = 1 then b4 else if a0 = 2 ∨ a0 = 3 ∨ a0 = 4 then decide ((⟨a4, a5, a6, a7⟩ : Bx) = ⟨0, 0, 0, 0⟩) else false) from HS.out)
  by_cases hk1 : a0 < 1
  · have HP := Lib.hid (show p = false by rw [HS.out, if_neg (by omega), if_neg (by omega)])
    clear HS
    go_wp2_with fail
    all_goals try (exfalso; omega)
    go_ret
    exact ⟨ret_bool' HP.out.symm, HB_wd⟩
  by_cases hk2 : 4 < a0
  · have HP := Lib.hid (show p = false by rw [HS.out, if_neg (by omega), if_neg (by omega)])
    clear HS
    go_wp2_with fail
    all_goals try (exfalso; omega)
    go_ret
    exact ⟨ret_bool' HP.out.symm, HB_wd⟩
  by_cases hk3 : a0 = 1
  · subst hk3
    have HP := Lib.hid (show p = b4 by rw [HS.out]; rfl)
    clear HS hk1 hk2
    go_wp2_with fail
    all_goals try (exfalso; omega)
    go_ret
    exact ⟨ret_bool' HP.out.symm, HB_wd⟩
  have hq := eql_box a4 a5 a6 a7 0 0 0 0
  have HP := Lib.hid (show p = decide ((⟨a4, a5, a6, a7⟩ : Bx) = ⟨0, 0, 0, 0⟩) by rw [HS.out, if_neg hk3, if_pos (by omega)])
  have h1 : (a0 == 1) = false := beq_eq_false_iff_ne.2 hk3
  clear HS hk3
  generalize decide ((⟨a4, a5, a6, a7⟩ : Bx) = ⟨0, 0, 0, 0⟩) = q at *
  go_wp2_with fail
  all_goals try (exfalso; omega)
  go_ret
  exact ⟨ret_bool' HP.out.symm, HB_wd⟩

set_option maxRecDepth 100000 in
set_option maxHeartbeats 8000000 in
theorem rdanger_any (d : Dg) (w : World) : Calls Try.prog 56 #[eD d] w (Ret w (.bool (soundD d))) := by
  obtain ⟨d0, told, ⟨d2, d3, d4, d5⟩, d6, drop, ⟨d8, d9, d10, d11⟩⟩ := d
  have HS := Lib.hid (show soundD ⟨d0, told, ⟨d2, d3, d4, d5⟩, d6, drop, ⟨d8, d9, d10, d11⟩⟩ = (numB d0 && (decide (d6 = 0) || numB d6) && (decide (d6 ≠ 0) || (!drop && told)) && (if told then boxB ⟨d2, d3, d4, d5⟩ else !drop && decide ((⟨d2, d3, d4, d5⟩ : Bx) = ⟨0, 0, 0, 0⟩)) && (if d6 ≠ 0 ∧ drop = false then boxB ⟨d8, d9, d10, d11⟩ else decide ((⟨d8, d9, d10, d11⟩ : Bx) = ⟨0, 0, 0, 0⟩))) from rfl)
  have HV := Lib.hid (fun W => rvalidBox_any ⟨d2, d3, d4, d5⟩ W)
  have HV2 := Lib.hid (fun W => rvalidBox_any ⟨d8, d9, d10, d11⟩ W)
  generalize soundD ⟨d0, told, ⟨d2, d3, d4, d5⟩, d6, drop, ⟨d8, d9, d10, d11⟩⟩ = p at *
  obtain ⟨W0, hW0, HB_W0, hZ, hn⟩ := boxes1 w [.int .i64 d0, .bool told, .int .i64 d2, .int .i64 d3, .int .i64 d4, .int .i64 d5, .int .i64 d6, .bool drop, .int .i64 d8, .int .i64 d9, .int .i64 d10, .int .i64 d11] 33
  have H_n := Lib.hid hn
  dsimp only [eB] at HV HV2
  dsimp only [eD]
  clear hn hZ
  obtain ⟨q_n_0, q_n_1, q_n_2, q_n_3, q_n_4, q_n_5, q_n_6, q_n_7, q_n_8, q_n_9, q_n_10, q_n_11⟩ := H_n.out.c12
  go_enter Try.func56, Try.ntmps56
  go_wp2_with fail
  refine (rperson_any d0 _).mono ?_
  rintro e wa ⟨rfl, hb_wa⟩
  have HB_wa : Below w.heap.size w wa := by first | exact after0 HB_W0 hb_wa | exact after1 HB_W0 hb_wa | exact after2 HB_W0 hb_wa | exact after3 HB_W0 hb_wa | exact after4 HB_W0 hb_wa | exact after5 HB_W0 hb_wa
  try clear q_n_0 q_n_1 q_n_2 q_n_3 q_n_4 q_n_5 q_n_6 q_n_7 q_n_8 q_n_9 q_n_10 q_n_11
  have H_n := Lib.hid (Box.below (by first | exact H_n.out | exact H_n.out.alloc _ | exact (H_n.out.alloc _).alloc _ | exact ((H_n.out.alloc _).alloc _).alloc _) hb_wa)
  obtain ⟨q_n_0, q_n_1, q_n_2, q_n_3, q_n_4, q_n_5, q_n_6, q_n_7, q_n_8, q_n_9, q_n_10, q_n_11⟩ := H_n.out.c12
  clear hW0
  go_wp2_with fail
  refine (HV.out _).mono ?_
  rintro e wb ⟨rfl, hb_wb⟩
  have HB_wb : Below w.heap.size w wb := by first | exact after0 HB_wa hb_wb | exact after1 HB_wa hb_wb | exact after2 HB_wa hb_wb | exact after3 HB_wa hb_wb | exact after4 HB_wa hb_wb | exact after5 HB_wa hb_wb
  try clear q_n_0 q_n_1 q_n_2 q_n_3 q_n_4 q_n_5 q_n_6 q_n_7 q_n_8 q_n_9 q_n_10 q_n_11
  have H_n := Lib.hid (Box.below (by first | exact H_n.out | exact H_n.out.alloc _ | exact (H_n.out.alloc _).alloc _ | exact ((H_n.out.alloc _).alloc _).alloc _) hb_wb)
  obtain ⟨q_n_0, q_n_1, q_n_2, q_n_3, q_n_4, q_n_5, q_n_6, q_n_7, q_n_8, q_n_9, q_n_10, q_n_11⟩ := H_n.out.c12
  go_wp2_with fail
  refine (HV2.out _).mono ?_
  rintro e wc ⟨rfl, hb_wc⟩
  have HB_wc : Below w.heap.size w wc := by first | exact after0 HB_wb hb_wc | exact after1 HB_wb hb_wc | exact after2 HB_wb hb_wc | exact after3 HB_wb hb_wc | exact after4 HB_wb hb_wc | exact after5 HB_wb hb_wc
  try clear q_n_0 q_n_1 q_n_2 q_n_3 q_n_4 q_n_5 q_n_6 q_n_7 q_n_8 q_n_9 q_n_10 q_n_11
  have H_n := Lib.hid (Box.below (by first | exact H_n.out | exact H_n.out.alloc _ | exact (H_n.out.alloc _).alloc _ | exact ((H_n.out.alloc _).alloc _).alloc _) hb_wc)
  obtain ⟨q_n_0, q_n_1, q_n_2, q_n_3, q_n_4, q_n_5, q_n_6, q_n_7, q_n_8, q_n_9, q_n_10, q_n_11⟩ := H_n.out.c12
  go_wp2_with fail
  refine (rperson_any d6 _).mono ?_
  rintro e wd ⟨rfl, hb_wd⟩
  have HB_wd : Below w.heap.size w wd := by first | exact after0 HB_wc hb_wd | exact after1 HB_wc hb_wd | exact after2 HB_wc hb_wd | exact after3 HB_wc hb_wd | exact after4 HB_wc hb_wd | exact after5 HB_wc hb_wd
  try clear q_n_0 q_n_1 q_n_2 q_n_3 q_n_4 q_n_5 q_n_6 q_n_7 q_n_8 q_n_9 q_n_10 q_n_11
  have H_n := Lib.hid (Box.below (by first | exact H_n.out | exact H_n.out.alloc _ | exact (H_n.out.alloc _).alloc _ | exact ((H_n.out.alloc _).alloc _).alloc _) hb_wd)
  obtain ⟨q_n_0, q_n_1, q_n_2, q_n_3, q_n_4, q_n_5, q_n_6, q_n_7, q_n_8, q_n_9, q_n_10, q_n_11⟩ := H_n.out.c12
  have h60 : d6 = 0 → numB d6 = false := fun h => by rw [h]; rfl
  generalize numB d0 = b1 at *
  generalize boxB ⟨d2, d3, d4, d5⟩ = b2 at *
  generalize boxB ⟨d8, d9, d10, d11⟩ = b3 at *
  generalize numB d6 = b4 at *
  clear HV HV2
  have H60 := Lib.hid h60
  clear h60
  cases b1
  · have HP := Lib.hid (show p = false by rw [HS.out]; rfl)
    go_wp2_with fail
    all_goals try (exfalso; omega)
    go_ret
    exact ⟨ret_bool' HP.out.symm, HB_wd⟩
  have hq := neq_box d2 d3 d4 d5 0 0 0 0
  have hq2 := eql_box d8 d9 d10 d11 0 0 0 0
  generalize decide ((⟨d2, d3, d4, d5⟩ : Bx) = ⟨0, 0, 0, 0⟩) = q1 at *
  generalize decide ((⟨d8, d9, d10, d11⟩ : Bx) = ⟨0, 0, 0, 0⟩) = q2 at *
  by_cases hp : d6 = 0
  · obtain rfl := H60.out hp
    subst hp
    replace HS := Lib.hid (show p = ((!drop && told) && (if told then b2 else !drop && q1) && q2) by rw [HS.out]; simp)
    clear H60
    cases told
    · have HP := Lib.hid (show p = false by rw [HS.out]; simp)
      clear HS
      cases q1
      ·
        go_wp2_with fail
        all_goals try (exfalso; omega)
        go_ret
        exact ⟨ret_bool' HP.out.symm, HB_wd⟩
      ·
        go_wp2_with fail
        all_goals try (exfalso; omega)
        go_ret
        exact ⟨ret_bool' HP.out.symm, HB_wd⟩
    cases b2
    · have HP := Lib.hid (show p = false by rw [HS.out]; simp)
      clear HS
      go_wp2_with fail
      all_goals try (exfalso; omega)
      go_ret
      exact ⟨ret_bool' HP.out.symm, HB_wd⟩
    cases drop
    · have HP := Lib.hid (show p = q2 by rw [HS.out]; simp)
      clear HS
      cases q2
      ·
        go_wp2_with fail
        all_goals try (exfalso; omega)
        go_ret
        exact ⟨ret_bool' HP.out.symm, HB_wd⟩
      ·
        go_wp2_with fail
        all_goals try (exfalso; omega)
        go_ret
        exact ⟨ret_bool' HP.out.symm, HB_wd⟩
    · have HP := Lib.hid (show p = false by rw [HS.out]; simp)
      clear HS
      cases q2
      ·
        go_wp2_with fail
        all_goals try (exfalso; omega)
        go_ret
        exact ⟨ret_bool' HP.out.symm, HB_wd⟩
      ·
        go_wp2_with fail
        all_goals try (exfalso; omega)
        go_ret
        exact ⟨ret_bool' HP.out.symm, HB_wd⟩
  have hp2 : (d6 == 0) = false := beq_eq_false_iff_ne.2 hp
  replace HS := Lib.hid (show p = (b4 && (if told then b2 else !drop && q1) && (if drop = false then b3 else q2)) by rw [HS.out]; simp [hp])
  clear hp H60
  cases told
  · cases q1
    · have HP := Lib.hid (show p = false by rw [HS.out]; simp)
      clear HS
      go_wp2_with fail
      all_goals try (exfalso; omega)
      go_ret
      exact ⟨ret_bool' HP.out.symm, HB_wd⟩
    cases b4
    · have HP := Lib.hid (show p = false by rw [HS.out]; simp)
      clear HS
      go_wp2_with fail
      all_goals try (exfalso; omega)
      go_ret
      exact ⟨ret_bool' HP.out.symm, HB_wd⟩
    cases drop
    · have HP := Lib.hid (show p = b3 by rw [HS.out]; simp)
      clear HS
      go_wp2_with fail
      all_goals try (exfalso; omega)
      go_ret
      exact ⟨ret_bool' HP.out.symm, HB_wd⟩
    · have HP := Lib.hid (show p = false by rw [HS.out]; simp)
      clear HS
      go_wp2_with fail
      all_goals try (exfalso; omega)
      go_ret
      exact ⟨ret_bool' HP.out.symm, HB_wd⟩
  cases b2
  · have HP := Lib.hid (show p = false by rw [HS.out]; simp)
    clear HS
    go_wp2_with fail
    all_goals try (exfalso; omega)
    go_ret
    exact ⟨ret_bool' HP.out.symm, HB_wd⟩
  cases drop
  · have HP := Lib.hid (show p = (b4 && b3) by rw [HS.out]; simp)
    clear HS
    cases b4
    ·
      go_wp2_with fail
      all_goals try (exfalso; omega)
      go_ret
      exact ⟨ret_bool' HP.out.symm, HB_wd⟩
    ·
      go_wp2_with fail
      all_goals try (exfalso; omega)
      go_ret
      exact ⟨ret_bool' HP.out.symm, HB_wd⟩
  · have HP := Lib.hid (show p = (b4 && q2) by rw [HS.out]; simp)
    clear HS
    cases q2
    · cases b4
      ·
        go_wp2_with fail
        all_goals try (exfalso; omega)
        go_ret
        exact ⟨ret_bool' HP.out.symm, HB_wd⟩
      ·
        go_wp2_with fail
        all_goals try (exfalso; omega)
        go_ret
        exact ⟨ret_bool' HP.out.symm, HB_wd⟩
    · cases b4
      ·
        go_wp2_with fail
        all_goals try (exfalso; omega)
        go_ret
        exact ⟨ret_bool' HP.out.symm, HB_wd⟩
      ·
        go_wp2_with fail
        all_goals try (exfalso; omega)
        go_ret
        exact ⟨ret_bool' HP.out.symm, HB_wd⟩
end Go.Proofs.Ytmbnhlihcnbebaa
