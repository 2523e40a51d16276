/-
  Walks of the layer 'eyes': valid (an act), sound (a danger).
-/
import Derived.Test.YtmbnhlihcnbebaaEyB
set_option linter.unusedVariables false
namespace Sk
open Go
section
variable {w : World} {b T o : Nat} {v0 v1 v2 v3 v4 v5 v6 v7 v8 v9 v10 v11 : Value}
theorem Box.c8 (h : Box w b T [v0, v1, v2, v3, v4, v5, v6, v7]) : w.cell? ⟨b, 0, none⟩ = some v0 ∧ w.cell? ⟨b, 1, none⟩ = some v1 ∧ w.cell? ⟨b, 2, none⟩ = some v2 ∧ w.cell? ⟨b, 3, none⟩ = some v3 ∧ w.cell? ⟨b, 4, none⟩ = some v4 ∧ w.cell? ⟨b, 5, none⟩ = some v5 ∧ w.cell? ⟨b, 6, none⟩ = some v6 ∧ w.cell? ⟨b, 7, none⟩ = some v7 :=
  ⟨h.cell rfl, h.cell rfl, h.cell rfl, h.cell rfl, h.cell rfl, h.cell rfl, h.cell rfl, h.cell rfl⟩
theorem Box.c12 (h : Box w b T [v0, v1, v2, v3, v4, v5, v6, v7, v8, v9, v10, v11]) : w.cell? ⟨b, 0, none⟩ = some v0 ∧ w.cell? ⟨b, 1, none⟩ = some v1 ∧ w.cell? ⟨b, 2, none⟩ = some v2 ∧ w.cell? ⟨b, 3, none⟩ = some v3 ∧ w.cell? ⟨b, 4, none⟩ = some v4 ∧ w.cell? ⟨b, 5, none⟩ = some v5 ∧ w.cell? ⟨b, 6, none⟩ = some v6 ∧ w.cell? ⟨b, 7, none⟩ = some v7 ∧ w.cell? ⟨b, 8, none⟩ = some v8 ∧ w.cell? ⟨b, 9, none⟩ = some v9 ∧ w.cell? ⟨b, 10, none⟩ = some v10 ∧ w.cell? ⟨b, 11, none⟩ = some v11 :=
  ⟨h.cell rfl, h.cell rfl, h.cell rfl, h.cell rfl, h.cell rfl, h.cell rfl, h.cell rfl, h.cell rfl, h.cell rfl, h.cell rfl, h.cell rfl, h.cell rfl⟩
theorem Cells.c8 (h : Cells w b o [v0, v1, v2, v3, v4, v5, v6, v7]) : w.cell? ⟨b, o, none⟩ = some v0 ∧ w.cell? ⟨b, o + 1, none⟩ = some v1 ∧ w.cell? ⟨b, o + 2, none⟩ = some v2 ∧ w.cell? ⟨b, o + 3, none⟩ = some v3 ∧ w.cell? ⟨b, o + 4, none⟩ = some v4 ∧ w.cell? ⟨b, o + 5, none⟩ = some v5 ∧ w.cell? ⟨b, o + 6, none⟩ = some v6 ∧ w.cell? ⟨b, o + 7, none⟩ = some v7 :=
  ⟨h 0 _ rfl, h 1 _ rfl, h 2 _ rfl, h 3 _ rfl, h 4 _ rfl, h 5 _ rfl, h 6 _ rfl, h 7 _ rfl⟩
theorem Cells.c12 (h : Cells w b o [v0, v1, v2, v3, v4, v5, v6, v7, v8, v9, v10, v11]) : w.cell? ⟨b, o, none⟩ = some v0 ∧ w.cell? ⟨b, o + 1, none⟩ = some v1 ∧ w.cell? ⟨b, o + 2, none⟩ = some v2 ∧ w.cell? ⟨b, o + 3, none⟩ = some v3 ∧ w.cell? ⟨b, o + 4, none⟩ = some v4 ∧ w.cell? ⟨b, o + 5, none⟩ = some v5 ∧ w.cell? ⟨b, o + 6, none⟩ = some v6 ∧ w.cell? ⟨b, o + 7, none⟩ = some v7 ∧ w.cell? ⟨b, o + 8, none⟩ = some v8 ∧ w.cell? ⟨b, o + 9, none⟩ = some v9 ∧ w.cell? ⟨b, o + 10, none⟩ = some v10 ∧ w.cell? ⟨b, o + 11, none⟩ = some v11 :=
  ⟨h 0 _ rfl, h 1 _ rfl, h 2 _ rfl, h 3 _ rfl, h 4 _ rfl, h 5 _ rfl, h 6 _ rfl, h 7 _ rfl, h 8 _ rfl, h 9 _ rfl, h 10 _ rfl, h 11 _ rfl⟩
end
end Sk
namespace Go.Proofs.Ytmbnhlihcnbebaa
open Go Go.RowKit Ey Sk


set_option maxRecDepth 100000 in
set_option maxHeartbeats 8000000 in
theorem valid_any (a : Ac) (w : World) : Calls Try.prog 40 #[eA a] w (Ret w (.bool (validA a))) := by
  obtain ⟨a0, a1, a2, a3, a4, a5, a6, a7⟩ := a
  have HS := Lib.hid (show validA ⟨a0, a1, a2, a3, ⟨a4, a5, a6, a7⟩⟩ = (numB a1 && numB a2 && timeB a3 && (if a0 = 1 then boxB ⟨a4, a5, a6, a7⟩ else if a0 = 2 ∨ a0 = 3 ∨ a0 = 4 then decide ((⟨a4, a5, a6, a7⟩ : Bx) = bx0) else false)) from rfl)
  have HV := Lib.hid (fun W => validBox_any ⟨a4, a5, a6, a7⟩ W)
  generalize validA ⟨a0, a1, a2, a3, ⟨a4, a5, a6, a7⟩⟩ = p at *
  obtain ⟨W0, hW0, HB_W0, hZ, hn⟩ := boxes1 w [.int .i64 a0, .int .i64 a1, .int .i64 a2, .int .i64 a3, .int .i64 a4, .int .i64 a5, .int .i64 a6, .int .i64 a7] 37
  have H_n := Lib.hid hn
  dsimp only [eB] at HV
  dsimp only [eA]
  clear hn hZ
  obtain ⟨q_n_0, q_n_1, q_n_2, q_n_3, q_n_4, q_n_5, q_n_6, q_n_7⟩ := H_n.out.c8
  go_enter Try.func40, Try.ntmps40
  go_wp2_with fail
  refine (number_any a1 _).mono ?_
  rintro e wa ⟨rfl, hb_wa⟩
  have HB_wa : Below w.heap.size w wa := by first | exact after0 HB_W0 hb_wa | exact after1 HB_W0 hb_wa | exact after2 HB_W0 hb_wa | exact after3 HB_W0 hb_wa | exact after4 HB_W0 hb_wa | exact after5 HB_W0 hb_wa
  try clear q_n_0 q_n_1 q_n_2 q_n_3 q_n_4 q_n_5 q_n_6 q_n_7
  have H_n := Lib.hid (Box.below (by first | exact H_n.out | exact H_n.out.alloc _ | exact (H_n.out.alloc _).alloc _ | exact ((H_n.out.alloc _).alloc _).alloc _) hb_wa)
  obtain ⟨q_n_0, q_n_1, q_n_2, q_n_3, q_n_4, q_n_5, q_n_6, q_n_7⟩ := H_n.out.c8
  clear hW0
  cases h1 : numB a1
  · have HP := Lib.hid (show p = false by rw [HS.out]; simp [h1])
    clear h1
    go_wp2_with fail
    all_goals try (exfalso; omega)
    go_ret
    exact ⟨ret_bool' HP.out.symm, HB_wa⟩
  go_wp2_with fail
  refine (number_any a2 _).mono ?_
  rintro e wb ⟨rfl, hb_wb⟩
  have HB_wb : Below w.heap.size w wb := by first | exact after0 HB_wa hb_wb | exact after1 HB_wa hb_wb | exact after2 HB_wa hb_wb | exact after3 HB_wa hb_wb | exact after4 HB_wa hb_wb | exact after5 HB_wa hb_wb
  try clear q_n_0 q_n_1 q_n_2 q_n_3 q_n_4 q_n_5 q_n_6 q_n_7
  have H_n := Lib.hid (Box.below (by first | exact H_n.out | exact H_n.out.alloc _ | exact (H_n.out.alloc _).alloc _ | exact ((H_n.out.alloc _).alloc _).alloc _) hb_wb)
  obtain ⟨q_n_0, q_n_1, q_n_2, q_n_3, q_n_4, q_n_5, q_n_6, q_n_7⟩ := H_n.out.c8
  cases h2 : numB a2
  · have HP := Lib.hid (show p = false by rw [HS.out]; simp [h2])
    clear h1 h2
    go_wp2_with fail
    all_goals try (exfalso; omega)
    go_ret
    exact ⟨ret_bool' HP.out.symm, HB_wb⟩
  replace HS := Lib.hid (show p = (timeB a3 && (if a0 = 1 then boxB ⟨a4, a5, a6, a7⟩ else if a0 = 2 ∨ a0 = 3 ∨ a0 = 4 then decide ((⟨a4, a5, a6, a7⟩ : Bx) = bx0) else false)) by rw [HS.out, h1, h2]; rfl)
  clear h1 h2
  by_cases ht1 : a3 < 0
  · have HP := Lib.hid (show p = false by rw [HS.out, show timeB a3 = false from decide_eq_false (by omega)]; rfl)
    go_wp2_with fail
    all_goals try (exfalso; omega)
    go_ret
    exact ⟨ret_bool' HP.out.symm, HB_wb⟩
  by_cases ht2 : 10000000 < a3
  · have HP := Lib.hid (show p = false by rw [HS.out, show timeB a3 = false from decide_eq_false (by omega)]; rfl)
    replace ht1 := Int.not_lt.1 ht1
    go_wp2_with fail
    all_goals try (exfalso; omega)
    go_ret
    exact ⟨ret_bool' HP.out.symm, HB_wb⟩
  replace HS := Lib.hid (show p = (if a0 = 1 then boxB ⟨a4, a5, a6, a7⟩ else if a0 = 2 ∨ a0 = 3 ∨ a0 = 4 then decide ((⟨a4, a5, a6, a7⟩ : Bx) = bx0) else false) by rw [HS.out, show timeB a3 = true from decide_eq_true (by omega)]; rfl)
  replace ht1 := Int.not_lt.1 ht1
  replace ht2 := Int.not_lt.1 ht2
  by_cases hk1 : a0 = 1
  · subst hk1
    have HP := Lib.hid (show p = boxB ⟨a4, a5, a6, a7⟩ by rw [HS.out]; rfl)
    go_wp2_with fail
    all_goals try (exfalso; omega)
    refine (HV.out _).mono ?_
    rintro e wc ⟨rfl, hb_wc⟩
    have HB_wc : Below w.heap.size w wc := by first | exact after0 HB_wb hb_wc | exact after1 HB_wb hb_wc | exact after2 HB_wb hb_wc | exact after3 HB_wb hb_wc | exact after4 HB_wb hb_wc | exact after5 HB_wb hb_wc
    go_wp2_with fail
    all_goals try (exfalso; omega)
    go_ret
    exact ⟨ret_bool' HP.out.symm, HB_wc⟩
  have hq := eql_box a4 a5 a6 a7 0 0 0 0
  by_cases hk : a0 = 2 ∨ a0 = 3 ∨ a0 = 4
  · have HP := Lib.hid (show p = decide ((⟨a4, a5, a6, a7⟩ : Bx) = ⟨0, 0, 0, 0⟩) by rw [HS.out, if_neg hk1, if_pos hk]; rfl)
    clear HS hk1
    generalize decide ((⟨a4, a5, a6, a7⟩ : Bx) = ⟨0, 0, 0, 0⟩) = q at *
    rcases hk with rfl | rfl | rfl
    all_goals
      go_wp2_with fail
      all_goals try (exfalso; omega)
      go_ret
      exact ⟨ret_bool' HP.out.symm, HB_wb⟩
  · have HP := Lib.hid (show p = false by rw [HS.out, if_neg hk1, if_neg hk])
    have h1 : (a0 == 1) = false := beq_eq_false_iff_ne.2 hk1
    have h2 : (a0 == 2) = false := beq_eq_false_iff_ne.2 (fun h => hk (.inl h))
    have h3 : (a0 == 3) = false := beq_eq_false_iff_ne.2 (fun h => hk (.inr (.inl h)))
    have h4 : (a0 == 4) = false := beq_eq_false_iff_ne.2 (fun h => hk (.inr (.inr h)))
    clear hk1 hk hq
    go_wp2_with fail
    all_goals try (exfalso; omega)
    go_ret
    exact ⟨ret_bool' HP.out.symm, HB_wb⟩

set_option maxRecDepth 100000 in
set_option maxHeartbeats 8000000 in
theorem sound_any (d : Dg) (w : World) : Calls Try.prog 69 #[eD d] w (Ret w (.bool (soundD d))) := by
  obtain ⟨d0, told, ⟨d2, d3, d4, d5⟩, d6, drop, ⟨d8, d9, d10, d11⟩⟩ := d
  have HS := Lib.hid (show soundD ⟨d0, told, ⟨d2, d3, d4, d5⟩, d6, drop, ⟨d8, d9, d10, d11⟩⟩ = (numB d0 && (decide (d6 = 0) || numB d6) && (decide (d6 ≠ 0) || (!drop && told)) && (if told then boxB ⟨d2, d3, d4, d5⟩ else !drop && decide ((⟨d2, d3, d4, d5⟩ : Bx) = ⟨0, 0, 0, 0⟩)) && (if d6 ≠ 0 ∧ drop = false then boxB ⟨d8, d9, d10, d11⟩ else decide ((⟨d8, d9, d10, d11⟩ : Bx) = ⟨0, 0, 0, 0⟩))) from rfl)
  have HV := Lib.hid (fun W => validBox_any ⟨d2, d3, d4, d5⟩ W)
  have HV2 := Lib.hid (fun W => validBox_any ⟨d8, d9, d10, d11⟩ W)
  generalize soundD ⟨d0, told, ⟨d2, d3, d4, d5⟩, d6, drop, ⟨d8, d9, d10, d11⟩⟩ = p at *
  obtain ⟨W0, hW0, HB_W0, hZ, hn⟩ := boxes1 w [.int .i64 d0, .bool told, .int .i64 d2, .int .i64 d3, .int .i64 d4, .int .i64 d5, .int .i64 d6, .bool drop, .int .i64 d8, .int .i64 d9, .int .i64 d10, .int .i64 d11] 33
  have H_n := Lib.hid hn
  dsimp only [eB] at HV HV2
  dsimp only [eD]
  clear hn hZ
  obtain ⟨q_n_0, q_n_1, q_n_2, q_n_3, q_n_4, q_n_5, q_n_6, q_n_7, q_n_8, q_n_9, q_n_10, q_n_11⟩ := H_n.out.c12
  go_enter Try.func69, Try.ntmps69
  go_wp2_with fail
  refine (number_any d0 _).mono ?_
  rintro e wa ⟨rfl, hb_wa⟩
  have HB_wa : Below w.heap.size w wa := by first | exact after0 HB_W0 hb_wa | exact after1 HB_W0 hb_wa | exact after2 HB_W0 hb_wa | exact after3 HB_W0 hb_wa | exact after4 HB_W0 hb_wa | exact after5 HB_W0 hb_wa
  try clear q_n_0 q_n_1 q_n_2 q_n_3 q_n_4 q_n_5 q_n_6 q_n_7 q_n_8 q_n_9 q_n_10 q_n_11
  have H_n := Lib.hid (Box.below (by first | exact H_n.out | exact H_n.out.alloc _ | exact (H_n.out.alloc _).alloc _ | exact ((H_n.out.alloc _).alloc _).alloc _) hb_wa)
  obtain ⟨q_n_0, q_n_1, q_n_2, q_n_3, q_n_4, q_n_5, q_n_6, q_n_7, q_n_8, q_n_9, q_n_10, q_n_11⟩ := H_n.out.c12
  clear hW0
  cases h1 : numB d0
  · have HP := Lib.hid (show p = false by rw [HS.out]; simp [h1])
    clear h1
    go_wp2_with fail
    all_goals try (exfalso; omega)
    go_ret
    exact ⟨ret_bool' HP.out.symm, HB_wa⟩
  by_cases hp : d6 = 0
  · subst hp
    cases drop
    case true =>
      have HP := Lib.hid (show p = false by rw [HS.out]; simp)
      clear h1
      go_wp2_with fail
      all_goals try (exfalso; omega)
      go_ret
      exact ⟨ret_bool' HP.out.symm, HB_wa⟩
    cases told
    case false =>
      have HP := Lib.hid (show p = false by rw [HS.out]; simp)
      clear h1
      go_wp2_with fail
      all_goals try (exfalso; omega)
      go_ret
      exact ⟨ret_bool' HP.out.symm, HB_wa⟩
    replace HS := Lib.hid (show p = (boxB ⟨d2, d3, d4, d5⟩ && decide ((⟨d8, d9, d10, d11⟩ : Bx) = ⟨0, 0, 0, 0⟩)) by rw [HS.out]; simp [h1])
    clear h1
    go_wp2_with fail
    all_goals try (exfalso; omega)
    refine (HV.out _).mono ?_
    rintro e wb ⟨rfl, hb_wb⟩
    have HB_wb : Below w.heap.size w wb := by first | exact after0 HB_wa hb_wb | exact after1 HB_wa hb_wb | exact after2 HB_wa hb_wb | exact after3 HB_wa hb_wb | exact after4 HB_wa hb_wb | exact after5 HB_wa hb_wb
    try clear q_n_0 q_n_1 q_n_2 q_n_3 q_n_4 q_n_5 q_n_6 q_n_7 q_n_8 q_n_9 q_n_10 q_n_11
    have H_n := Lib.hid (Box.below (by first | exact H_n.out | exact H_n.out.alloc _ | exact (H_n.out.alloc _).alloc _ | exact ((H_n.out.alloc _).alloc _).alloc _) hb_wb)
    obtain ⟨q_n_0, q_n_1, q_n_2, q_n_3, q_n_4, q_n_5, q_n_6, q_n_7, q_n_8, q_n_9, q_n_10, q_n_11⟩ := H_n.out.c12
    cases h2 : boxB ⟨d2, d3, d4, d5⟩
    · have HP := Lib.hid (show p = false by rw [HS.out, h2]; rfl)
      clear h2
      go_wp2_with fail
      all_goals try (exfalso; omega)
      go_ret
      exact ⟨ret_bool' HP.out.symm, HB_wb⟩
    have HP := Lib.hid (show p = decide ((⟨d8, d9, d10, d11⟩ : Bx) = ⟨0, 0, 0, 0⟩) by rw [HS.out, h2]; rfl)
    have hq := eql_box d8 d9 d10 d11 0 0 0 0
    clear h2 HS
    generalize decide ((⟨d8, d9, d10, d11⟩ : Bx) = ⟨0, 0, 0, 0⟩) = q at *
    go_wp2_with fail
    all_goals try (exfalso; omega)
    go_ret
    exact ⟨ret_bool' HP.out.symm, HB_wb⟩
  have hp2 : (d6 != 0) = true := bne_iff_ne.2 hp
  go_wp2_with fail
  all_goals try (exfalso; omega)
  refine (number_any d6 _).mono ?_
  rintro e wb ⟨rfl, hb_wb⟩
  have HB_wb : Below w.heap.size w wb := by first | exact after0 HB_wa hb_wb | exact after1 HB_wa hb_wb | exact after2 HB_wa hb_wb | exact after3 HB_wa hb_wb | exact after4 HB_wa hb_wb | exact after5 HB_wa hb_wb
  try clear q_n_0 q_n_1 q_n_2 q_n_3 q_n_4 q_n_5 q_n_6 q_n_7 q_n_8 q_n_9 q_n_10 q_n_11
  have H_n := Lib.hid (Box.below (by first | exact H_n.out | exact H_n.out.alloc _ | exact (H_n.out.alloc _).alloc _ | exact ((H_n.out.alloc _).alloc _).alloc _) hb_wb)
  obtain ⟨q_n_0, q_n_1, q_n_2, q_n_3, q_n_4, q_n_5, q_n_6, q_n_7, q_n_8, q_n_9, q_n_10, q_n_11⟩ := H_n.out.c12
  cases h2 : numB d6
  · have HP := Lib.hid (show p = false by rw [HS.out]; simp [h2, hp])
    clear h1 h2
    go_wp2_with fail
    all_goals try (exfalso; omega)
    go_ret
    exact ⟨ret_bool' HP.out.symm, HB_wb⟩
  cases told
  case false =>
    cases drop
    case true =>
      have HP := Lib.hid (show p = false by rw [HS.out]; simp)
      clear h1 h2 hp
      go_wp2_with fail
      all_goals try (exfalso; omega)
      go_ret
      exact ⟨ret_bool' HP.out.symm, HB_wb⟩
    have hq := neq_box d2 d3 d4 d5 0 0 0 0
    replace HS := Lib.hid (show p = (decide ((⟨d2, d3, d4, d5⟩ : Bx) = ⟨0, 0, 0, 0⟩) && boxB ⟨d8, d9, d10, d11⟩) by rw [HS.out]; simp [h1, h2, hp])
    clear h1 h2 hp
    generalize decide ((⟨d2, d3, d4, d5⟩ : Bx) = ⟨0, 0, 0, 0⟩) = q at *
    cases q
    · have HP := Lib.hid (show p = false by rw [HS.out]; rfl)
      go_wp2_with fail
      all_goals try (exfalso; omega)
      go_ret
      exact ⟨ret_bool' HP.out.symm, HB_wb⟩
    have HP := Lib.hid (show p = boxB ⟨d8, d9, d10, d11⟩ by rw [HS.out]; rfl)
    go_wp2_with fail
    all_goals try (exfalso; omega)
    refine (HV2.out _).mono ?_
    rintro e wc ⟨rfl, hb_wc⟩
    have HB_wc : Below w.heap.size w wc := by first | exact after0 HB_wb hb_wc | exact after1 HB_wb hb_wc | exact after2 HB_wb hb_wc | exact after3 HB_wb hb_wc | exact after4 HB_wb hb_wc | exact after5 HB_wb hb_wc
    go_wp2_with fail
    all_goals try (exfalso; omega)
    go_ret
    exact ⟨ret_bool' HP.out.symm, HB_wc⟩
  go_wp2_with fail
  all_goals try (exfalso; omega)
  refine (HV.out _).mono ?_
  rintro e wc ⟨rfl, hb_wc⟩
  have HB_wc : Below w.heap.size w wc := by first | exact after0 HB_wb hb_wc | exact after1 HB_wb hb_wc | exact after2 HB_wb hb_wc | exact after3 HB_wb hb_wc | exact after4 HB_wb hb_wc | exact after5 HB_wb hb_wc
  try clear q_n_0 q_n_1 q_n_2 q_n_3 q_n_4 q_n_5 q_n_6 q_n_7 q_n_8 q_n_9 q_n_10 q_n_11
  have H_n := Lib.hid (Box.below (by first | exact H_n.out | exact H_n.out.alloc _ | exact (H_n.out.alloc _).alloc _ | exact ((H_n.out.alloc _).alloc _).alloc _) hb_wc)
  obtain ⟨q_n_0, q_n_1, q_n_2, q_n_3, q_n_4, q_n_5, q_n_6, q_n_7, q_n_8, q_n_9, q_n_10, q_n_11⟩ := H_n.out.c12
  cases h3 : boxB ⟨d2, d3, d4, d5⟩
  · have HP := Lib.hid (show p = false by rw [HS.out]; simp [h3])
    clear h1 h2 h3 hp
    go_wp2_with fail
    all_goals try (exfalso; omega)
    go_ret
    exact ⟨ret_bool' HP.out.symm, HB_wc⟩
  cases drop
  · have HP := Lib.hid (show p = boxB ⟨d8, d9, d10, d11⟩ by rw [HS.out]; simp [h1, h2, h3, hp])
    clear h1 h2 h3 hp
    go_wp2_with fail
    all_goals try (exfalso; omega)
    refine (HV2.out _).mono ?_
    rintro e wd ⟨rfl, hb_wd⟩
    have HB_wd : Below w.heap.size w wd := by first | exact after0 HB_wc hb_wd | exact after1 HB_wc hb_wd | exact after2 HB_wc hb_wd | exact after3 HB_wc hb_wd | exact after4 HB_wc hb_wd | exact after5 HB_wc hb_wd
    go_wp2_with fail
    all_goals try (exfalso; omega)
    go_ret
    exact ⟨ret_bool' HP.out.symm, HB_wd⟩
  · have HP := Lib.hid (show p = decide ((⟨d8, d9, d10, d11⟩ : Bx) = ⟨0, 0, 0, 0⟩) by rw [HS.out]; simp [h1, h2, h3, hp])
    have hq := eql_box d8 d9 d10 d11 0 0 0 0
    clear h1 h2 h3 hp HS
    generalize decide ((⟨d8, d9, d10, d11⟩ : Bx) = ⟨0, 0, 0, 0⟩) = q at *
    go_wp2_with fail
    all_goals try (exfalso; omega)
    go_ret
    exact ⟨ret_bool' HP.out.symm, HB_wc⟩
end Go.Proofs.Ytmbnhlihcnbebaa
