/-
  The law EyesMatchesReference.
-/
import Derived.Test.YtmbnhlihcnbebaaEyQ
import Derived.Test.YtmbnhlihcnbebaaEyRI
set_option linter.unusedVariables false
namespace Go.Proofs.Ytmbnhlihcnbebaa
open Go Go.RowKit Ey Sk Go.Sort

set_option maxRecDepth 100000 in
set_option maxHeartbeats 8000000 in
theorem match_walk (hko : KeysOk) (ao : Option Addr) (n cap : Nat) (l : List Ac) (ao2 : Option Addr) (n2 cap2 : Nat) (st : List Dg) (a : Ac) (x t px py : Int) (w : World) (hs : Sl w 8 cA ao n cap l) (hs2 : Sl w 12 cD ao2 n2 cap2 st) :
    Calls Try.prog 8 #[.slice ao n cap, .slice ao2 n2 cap2, eA a, .int .i64 x, .int .i64 t, .agg #[.int .i64 px, .int .i64 py]] w (Ret w (.bool true)) := by
  obtain rfl := hs.len
  have hle := hs.le
  have hcap := hs.max
  unfold maxLen at hcap
  have HS := Lib.hid hs
  have HKO := Lib.hid hko
  have HB_w : Below w.heap.size w w := Below.refl _ _
  clear hs hko
  obtain rfl := hs2.len
  have hle2 := hs2.le
  have hcap2 := hs2.max
  unfold maxLen at hcap2
  have HS2 := Lib.hid hs2
  have HDO := Lib.hid (fun W hW => do_any HKO.out ao2 st.length cap2 st a W (HS2.out.below hW))
  have HRDO := Lib.hid (fun W hW => rdo_any ao2 st.length cap2 st a W (HS2.out.below hW))
  clear hs2
  unfold DgsE at HDO HRDO
  generalize doR st a = dr at *
  obtain ⟨D, de⟩ := dr
  obtain ⟨a0, a1, a2, a3, ⟨a4, a5, a6, a7⟩⟩ := a
  dsimp only [eA] at HDO HRDO ⊢
  obtain ⟨W0, hW0, HB_W0, hZ, hn, hm⟩ := boxes2 w [.int .i64 a0, .int .i64 a1, .int .i64 a2, .int .i64 a3, .int .i64 a4, .int .i64 a5, .int .i64 a6, .int .i64 a7] [.int .i64 px, .int .i64 py] 37 49
  have H_n := Lib.hid hn
  have H_m := Lib.hid hm
  clear hn hm hZ
  go_enter Try.func8, Try.ntmps8
  go_wp2_with fail
  refine (head_any HKO.out _).mono ?_
  rintro e wa ⟨rfl, hb_wa⟩
  have HB_wa : Below w.heap.size w wa := by first | exact after0 HB_W0 hb_wa | exact after1 HB_W0 hb_wa | exact after2 HB_W0 hb_wa | exact after3 HB_W0 hb_wa | exact after4 HB_W0 hb_wa | exact after5 HB_W0 hb_wa
  clear hW0
  replace H_n := Lib.hid (H_n.out.below hb_wa)
  replace H_m := Lib.hid (H_m.out.below hb_wa)
  by_cases hl : 300 < (l.length : Int)
  ·
    go_wp2_with fail
    all_goals try (exfalso; omega)
    go_ret
    exact ⟨rfl, HB_wa⟩
  replace hl := Int.not_lt.1 hl
  by_cases hl2 : 300 < (st.length : Int)
  ·
    go_wp2_with fail
    all_goals try (exfalso; omega)
    go_ret
    exact ⟨rfl, HB_wa⟩
  replace hl2 := Int.not_lt.1 hl2
  -- Valid
  obtain ⟨q_n_0, q_n_1, q_n_2, q_n_3, q_n_4, q_n_5, q_n_6, q_n_7⟩ := H_n.out.c8
  obtain ⟨q_m_0, q_m_1⟩ := H_m.out.c2
  go_wp2_with fail
  all_goals try (exfalso; omega)
  refine (Valid_any _ _ _ l _ (HS.out.below HB_wa)).mono ?_
  rintro e wb ⟨rfl, hb_wb⟩
  have HB_wb : Below w.heap.size w wb := by first | exact after0 HB_wa hb_wb | exact after1 HB_wa hb_wb | exact after2 HB_wa hb_wb | exact after3 HB_wa hb_wb | exact after4 HB_wa hb_wb | exact after5 HB_wa hb_wb
  try clear q_n_0 q_n_1 q_n_2 q_n_3 q_n_4 q_n_5 q_n_6 q_n_7
  have H_n := Lib.hid (Box.below (by first | exact H_n.out | exact H_n.out.alloc _ | exact (H_n.out.alloc _).alloc _ | exact ((H_n.out.alloc _).alloc _).alloc _) hb_wb)
  obtain ⟨q_n_0, q_n_1, q_n_2, q_n_3, q_n_4, q_n_5, q_n_6, q_n_7⟩ := H_n.out.c8
  try clear q_m_0 q_m_1
  have H_m := Lib.hid (Box.below (by first | exact H_m.out | exact H_m.out.alloc _ | exact (H_m.out.alloc _).alloc _ | exact ((H_m.out.alloc _).alloc _).alloc _) hb_wb)
  obtain ⟨q_m_0, q_m_1⟩ := H_m.out.c2
  go_wp2_with fail
  all_goals try (exfalso; omega)
  refine (rvalid_any _ _ _ l _ (HS.out.below HB_wb)).mono ?_
  rintro e wc ⟨rfl, hb_wc⟩
  have HB_wc : Below w.heap.size w wc := by first | exact after0 HB_wb hb_wc | exact after1 HB_wb hb_wc | exact after2 HB_wb hb_wc | exact after3 HB_wb hb_wc | exact after4 HB_wb hb_wc | exact after5 HB_wb hb_wc
  try clear q_n_0 q_n_1 q_n_2 q_n_3 q_n_4 q_n_5 q_n_6 q_n_7
  have H_n := Lib.hid (Box.below (by first | exact H_n.out | exact H_n.out.alloc _ | exact (H_n.out.alloc _).alloc _ | exact ((H_n.out.alloc _).alloc _).alloc _) hb_wc)
  obtain ⟨q_n_0, q_n_1, q_n_2, q_n_3, q_n_4, q_n_5, q_n_6, q_n_7⟩ := H_n.out.c8
  try clear q_m_0 q_m_1
  have H_m := Lib.hid (Box.below (by first | exact H_m.out | exact H_m.out.alloc _ | exact (H_m.out.alloc _).alloc _ | exact ((H_m.out.alloc _).alloc _).alloc _) hb_wc)
  obtain ⟨q_m_0, q_m_1⟩ := H_m.out.c2
  generalize validL l = v1 at *
  -- Do
  go_wp2_with fail
  refine (HDO.out _ HB_wc).mono ?_
  rintro e wd ⟨o1, n1, c1, rfl, hs1, hb_wd⟩
  have HB_wd : Below w.heap.size w wd := by first | exact after0 HB_wc hb_wd | exact after1 HB_wc hb_wd | exact after2 HB_wc hb_wd | exact after3 HB_wc hb_wd | exact after4 HB_wc hb_wd | exact after5 HB_wc hb_wd
  try clear q_n_0 q_n_1 q_n_2 q_n_3 q_n_4 q_n_5 q_n_6 q_n_7
  have H_n := Lib.hid (Box.below (by first | exact H_n.out | exact H_n.out.alloc _ | exact (H_n.out.alloc _).alloc _ | exact ((H_n.out.alloc _).alloc _).alloc _) hb_wd)
  obtain ⟨q_n_0, q_n_1, q_n_2, q_n_3, q_n_4, q_n_5, q_n_6, q_n_7⟩ := H_n.out.c8
  try clear q_m_0 q_m_1
  have H_m := Lib.hid (Box.below (by first | exact H_m.out | exact H_m.out.alloc _ | exact (H_m.out.alloc _).alloc _ | exact ((H_m.out.alloc _).alloc _).alloc _) hb_wd)
  obtain ⟨q_m_0, q_m_1⟩ := H_m.out.c2
  have H1 := Lib.hid hs1
  obtain rfl := hs1.len
  clear hs1 HDO
  try dsimp only at H1
  go_wp2_with fail
  refine (HRDO.out _ HB_wd).mono ?_
  rintro e we ⟨o2, n2, c2, rfl, hs2, hb_we⟩
  have HB_we : Below w.heap.size w we := by first | exact after0 HB_wd hb_we | exact after1 HB_wd hb_we | exact after2 HB_wd hb_we | exact after3 HB_wd hb_we | exact after4 HB_wd hb_we | exact after5 HB_wd hb_we
  try clear q_m_0 q_m_1
  have H_m := Lib.hid (Box.below (by first | exact H_m.out | exact H_m.out.alloc _ | exact (H_m.out.alloc _).alloc _ | exact ((H_m.out.alloc _).alloc _).alloc _) hb_we)
  obtain ⟨q_m_0, q_m_1⟩ := H_m.out.c2
  have H2 := Lib.hid hs2
  obtain rfl := hs2.len
  replace H1 := Lib.hid (H1.out.below hb_we)
  clear hs2 HRDO q_n_0 q_n_1 q_n_2 q_n_3 q_n_4 q_n_5 q_n_6 q_n_7 H_n
  try dsimp only at H1 H2
  go_wp2_with fail
  refine (k_same _ H1.out H2.out rfl).mono ?_
  rintro e wf ⟨rfl, hb_wf⟩
  have HB_wf : Below w.heap.size w wf := by first | exact after0 HB_we hb_wf | exact after1 HB_we hb_wf | exact after2 HB_we hb_wf | exact after3 HB_we hb_wf | exact after4 HB_we hb_wf | exact after5 HB_we hb_wf
  try clear q_m_0 q_m_1
  have H_m := Lib.hid (Box.below (by first | exact H_m.out | exact H_m.out.alloc _ | exact (H_m.out.alloc _).alloc _ | exact ((H_m.out.alloc _).alloc _).alloc _) hb_wf)
  obtain ⟨q_m_0, q_m_1⟩ := H_m.out.c2
  clear H1 H2
  -- Replay
  go_wp2_with fail
  refine (replay_any HKO.out _ _ _ l _ (HS.out.below HB_wf) (by omega)).mono ?_
  rintro e wg ⟨o3, c3, o4, c4, rfl, hs3, hs4, hb_wg⟩
  have HB_wg : Below w.heap.size w wg := by first | exact after0 HB_wf hb_wg | exact after1 HB_wf hb_wg | exact after2 HB_wf hb_wg | exact after3 HB_wf hb_wg | exact after4 HB_wf hb_wg | exact after5 HB_wf hb_wg
  try clear q_m_0 q_m_1
  have H_m := Lib.hid (Box.below (by first | exact H_m.out | exact H_m.out.alloc _ | exact (H_m.out.alloc _).alloc _ | exact ((H_m.out.alloc _).alloc _).alloc _) hb_wg)
  obtain ⟨q_m_0, q_m_1⟩ := H_m.out.c2
  have H3 := Lib.hid hs3
  have H4 := Lib.hid hs4
  clear hs3 hs4
  go_wp2_with fail
  refine (rreplay_any _ _ _ l _ (HS.out.below HB_wg) (by omega)).mono ?_
  rintro e wh ⟨o5, c5, o6, c6, rfl, hs5, hs6, hb_wh⟩
  have HB_wh : Below w.heap.size w wh := by first | exact after0 HB_wg hb_wh | exact after1 HB_wg hb_wh | exact after2 HB_wg hb_wh | exact after3 HB_wg hb_wh | exact after4 HB_wg hb_wh | exact after5 HB_wg hb_wh
  try clear q_m_0 q_m_1
  have H_m := Lib.hid (Box.below (by first | exact H_m.out | exact H_m.out.alloc _ | exact (H_m.out.alloc _).alloc _ | exact ((H_m.out.alloc _).alloc _).alloc _) hb_wh)
  obtain ⟨q_m_0, q_m_1⟩ := H_m.out.c2
  have H5 := Lib.hid hs5
  have H6 := Lib.hid hs6
  replace H3 := Lib.hid (H3.out.below hb_wh)
  replace H4 := Lib.hid (H4.out.below hb_wh)
  clear hs5 hs6
  generalize replS l = s at *
  go_wp2_with fail
  refine (k_same _ H3.out H5.out rfl).mono ?_
  rintro e wi ⟨rfl, hb_wi⟩
  have HB_wi : Below w.heap.size w wi := by first | exact after0 HB_wh hb_wi | exact after1 HB_wh hb_wi | exact after2 HB_wh hb_wi | exact after3 HB_wh hb_wi | exact after4 HB_wh hb_wi | exact after5 HB_wh hb_wi
  try clear q_m_0 q_m_1
  have H_m := Lib.hid (Box.below (by first | exact H_m.out | exact H_m.out.alloc _ | exact (H_m.out.alloc _).alloc _ | exact ((H_m.out.alloc _).alloc _).alloc _) hb_wi)
  obtain ⟨q_m_0, q_m_1⟩ := H_m.out.c2
  replace H4 := Lib.hid (H4.out.below hb_wi)
  replace H6 := Lib.hid (H6.out.below hb_wi)
  clear H3 H5
  go_wp2_with fail
  refine (k_errs _ H4.out H6.out rfl).mono ?_
  rintro e wj ⟨rfl, hb_wj⟩
  have HB_wj : Below w.heap.size w wj := by first | exact after0 HB_wi hb_wj | exact after1 HB_wi hb_wj | exact after2 HB_wi hb_wj | exact after3 HB_wi hb_wj | exact after4 HB_wi hb_wj | exact after5 HB_wi hb_wj
  try clear q_m_0 q_m_1
  have H_m := Lib.hid (Box.below (by first | exact H_m.out | exact H_m.out.alloc _ | exact (H_m.out.alloc _).alloc _ | exact ((H_m.out.alloc _).alloc _).alloc _) hb_wj)
  obtain ⟨q_m_0, q_m_1⟩ := H_m.out.c2
  clear H4 H6
  -- At
  have HAT := Lib.hid (at_any HKO.out _ _ _ l t _ (HS.out.below HB_wj))
  have HRAT := Lib.hid (fun W hW => rat_any ao l.length cap l t W (HS.out.below hW))
  unfold DgsE at HAT HRAT
  generalize atR l t = ar at *
  obtain ⟨A, ae⟩ := ar
  go_wp2_with fail
  refine (HAT.out).mono ?_
  rintro e wk ⟨o7, n7, c7, rfl, hs7, hb_wk⟩
  have HB_wk : Below w.heap.size w wk := by first | exact after0 HB_wj hb_wk | exact after1 HB_wj hb_wk | exact after2 HB_wj hb_wk | exact after3 HB_wj hb_wk | exact after4 HB_wj hb_wk | exact after5 HB_wj hb_wk
  try clear q_m_0 q_m_1
  have H_m := Lib.hid (Box.below (by first | exact H_m.out | exact H_m.out.alloc _ | exact (H_m.out.alloc _).alloc _ | exact ((H_m.out.alloc _).alloc _).alloc _) hb_wk)
  obtain ⟨q_m_0, q_m_1⟩ := H_m.out.c2
  have H7 := Lib.hid hs7
  obtain rfl := hs7.len
  clear hs7 HAT
  try dsimp only at H7
  go_wp2_with fail
  refine (HRAT.out _ HB_wk).mono ?_
  rintro e wl ⟨o8, n8, c8, rfl, hs8, hb_wl⟩
  have HB_wl : Below w.heap.size w wl := by first | exact after0 HB_wk hb_wl | exact after1 HB_wk hb_wl | exact after2 HB_wk hb_wl | exact after3 HB_wk hb_wl | exact after4 HB_wk hb_wl | exact after5 HB_wk hb_wl
  try clear q_m_0 q_m_1
  have H_m := Lib.hid (Box.below (by first | exact H_m.out | exact H_m.out.alloc _ | exact (H_m.out.alloc _).alloc _ | exact ((H_m.out.alloc _).alloc _).alloc _) hb_wl)
  obtain ⟨q_m_0, q_m_1⟩ := H_m.out.c2
  have H8 := Lib.hid hs8
  obtain rfl := hs8.len
  replace H7 := Lib.hid (H7.out.below hb_wl)
  clear hs8 HRAT
  try dsimp only at H7 H8
  go_wp2_with fail
  refine (k_same _ H7.out H8.out rfl).mono ?_
  rintro e wm ⟨rfl, hb_wm⟩
  have HB_wm : Below w.heap.size w wm := by first | exact after0 HB_wl hb_wm | exact after1 HB_wl hb_wm | exact after2 HB_wl hb_wm | exact after3 HB_wl hb_wm | exact after4 HB_wl hb_wm | exact after5 HB_wl hb_wm
  try clear q_m_0 q_m_1
  have H_m := Lib.hid (Box.below (by first | exact H_m.out | exact H_m.out.alloc _ | exact (H_m.out.alloc _).alloc _ | exact ((H_m.out.alloc _).alloc _).alloc _) hb_wm)
  obtain ⟨q_m_0, q_m_1⟩ := H_m.out.c2
  clear H7 H8
  -- Eyes
  have HEY := Lib.hid (eyes_any ao l.length cap l x t wm (HS.out.below HB_wm))
  have HREY := Lib.hid (fun W hW => reyes_any ao l.length cap l x t W (HS.out.below hW))
  generalize eyesR l x t = er at *
  obtain ⟨e1, e2, e3⟩ := er
  dsimp only [eT] at HEY HREY
  go_wp2_with fail
  refine (HEY.out).mono ?_
  rintro e wn ⟨rfl, hb_wn⟩
  have HB_wn : Below w.heap.size w wn := by first | exact after0 HB_wm hb_wn | exact after1 HB_wm hb_wn | exact after2 HB_wm hb_wn | exact after3 HB_wm hb_wn | exact after4 HB_wm hb_wn | exact after5 HB_wm hb_wn
  try clear q_m_0 q_m_1
  have H_m := Lib.hid (Box.below (by first | exact H_m.out | exact H_m.out.alloc _ | exact (H_m.out.alloc _).alloc _ | exact ((H_m.out.alloc _).alloc _).alloc _) hb_wn)
  obtain ⟨q_m_0, q_m_1⟩ := H_m.out.c2
  go_wp2_with fail
  refine (HREY.out _ HB_wn).mono ?_
  rintro e wo ⟨rfl, hb_wo⟩
  have HB_wo : Below w.heap.size w wo := by first | exact after0 HB_wn hb_wo | exact after1 HB_wn hb_wo | exact after2 HB_wn hb_wo | exact after3 HB_wn hb_wo | exact after4 HB_wn hb_wo | exact after5 HB_wn hb_wo
  try clear q_m_0 q_m_1
  have H_m := Lib.hid (Box.below (by first | exact H_m.out | exact H_m.out.alloc _ | exact (H_m.out.alloc _).alloc _ | exact ((H_m.out.alloc _).alloc _).alloc _) hb_wo)
  obtain ⟨q_m_0, q_m_1⟩ := H_m.out.c2
  clear HEY HREY
  -- Told
  have HTO := Lib.hid (told_any _ _ _ st px py _ (HS2.out.below HB_wo))
  have HRTO := Lib.hid (fun W hW => rtold_any ao2 st.length cap2 st px py W (HS2.out.below hW))
  unfold IntsE at HTO HRTO
  generalize toldR st px py = tr at *
  obtain ⟨T, te⟩ := tr
  try dsimp only at HTO HRTO
  go_wp2_with fail
  refine (HTO.out).mono ?_
  rintro e wp ⟨o9, c9, rfl, hs9, hb_wp⟩
  have HB_wp : Below w.heap.size w wp := by first | exact after0 HB_wo hb_wp | exact after1 HB_wo hb_wp | exact after2 HB_wo hb_wp | exact after3 HB_wo hb_wp | exact after4 HB_wo hb_wp | exact after5 HB_wo hb_wp
  try clear q_m_0 q_m_1
  have H_m := Lib.hid (Box.below (by first | exact H_m.out | exact H_m.out.alloc _ | exact (H_m.out.alloc _).alloc _ | exact ((H_m.out.alloc _).alloc _).alloc _) hb_wp)
  obtain ⟨q_m_0, q_m_1⟩ := H_m.out.c2
  have H9 := Lib.hid hs9
  clear hs9 HTO
  go_wp2_with fail
  refine (HRTO.out _ HB_wp).mono ?_
  rintro e wq ⟨o10, c10, rfl, hs10, hb_wq⟩
  have HB_wq : Below w.heap.size w wq := by first | exact after0 HB_wp hb_wq | exact after1 HB_wp hb_wq | exact after2 HB_wp hb_wq | exact after3 HB_wp hb_wq | exact after4 HB_wp hb_wq | exact after5 HB_wp hb_wq
  have H10 := Lib.hid hs10
  replace H9 := Lib.hid (H9.out.below hb_wq)
  clear hs10 HRTO
  go_wp2_with fail
  refine (k_ints _ H9.out H10.out rfl).mono ?_
  rintro e wz ⟨rfl, hb_wz⟩
  have HB_wz : Below w.heap.size w wz := by first | exact after0 HB_wq hb_wz | exact after1 HB_wq hb_wz | exact after2 HB_wq hb_wz | exact after3 HB_wq hb_wz | exact after4 HB_wq hb_wz | exact after5 HB_wq hb_wz
  go_wp2_with fail
  go_ret
  exact ⟨by first | rfl | simp, HB_wz⟩
end Go.Proofs.Ytmbnhlihcnbebaa
