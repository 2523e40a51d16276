/-
  The walk of clock's Correct.
-/
import Derived.Test.YtpdecgbfnhaojaaClkC
set_option linter.unusedVariables false
namespace Go.Proofs.Ytpdecgbfnhaojaa
open Go.RowKit Nb Sk Ck Go.Sort

theorem cor_bad {c : Clk} {r lo hi : Int} (h : signal lo hi = false) : correct c r lo hi = (zeroC, 1) := by unfold correct; rw [if_pos h]
theorem cor_err {c : Clk} {r lo hi x y q : Int} (h : signal lo hi = true) (ht : true_ c r = ((x, y), q)) (hq : q ≠ 0) : correct c r lo hi = (zeroC, q) := by
  unfold correct; rw [if_neg (by simp [h]), ht, if_pos hq]
theorem cor_v {c : Clk} {r lo hi x y : Int} (h : signal lo hi = true) (ht : true_ c r = ((x, y), 0)) : correct c r lo hi = if min y hi < max x lo then (zeroC, 18) else set_ r (max x lo) (min y hi) c.dr := by
  unfold correct; rw [if_neg (by simp [h]), ht, if_neg (by simp)]
theorem true_span {c : Clk} {r x y : Int} (h : true_ c r = ((x, y), 0)) : 0 ≤ x ∧ x ≤ y ∧ y ≤ 10000000 := by
  unfold true_ at h
  split at h
  · split at h
    · simp at h
    · simp only [Prod.mk.injEq, and_true] at h
      omega
  · simp at h


set_option maxRecDepth 100000 in
set_option maxHeartbeats 4000000 in
theorem correct_any (a b d e r lo hi : Int) (w : World) : Calls Try.prog 23 #[.agg #[.int .i64 a, .int .i64 b, .int .i64 d, .int .i64 e], .int .i64 r, .agg #[.int .i64 lo, .int .i64 hi]] w (Ret w (eK (correct ⟨a, b, d, e⟩ r lo hi))) := by
  have HBAD := Lib.hid (@cor_bad ⟨a, b, d, e⟩ r lo hi)
  have HT := Lib.hid (fun W => true_any ⟨a, b, d, e⟩ r W)
  obtain ⟨⟨⟨x, y⟩, q⟩, hs0⟩ : ∃ s, true_ ⟨a, b, d, e⟩ r = s := ⟨_, rfl⟩
  have HERR := Lib.hid (fun h => @cor_err ⟨a, b, d, e⟩ r lo hi x y q h hs0)
  have HV := Lib.hid (show q = 0 → signal lo hi = true → correct ⟨a, b, d, e⟩ r lo hi = if min y hi < max x lo then (zeroC, 18) else set_ r (max x lo) (min y hi) e from fun h h2 => by subst h; exact cor_v h2 hs0)
  have HSP := Lib.hid (show q = 0 → 0 ≤ x ∧ x ≤ y ∧ y ≤ 10000000 from fun h => by subst h; exact true_span hs0)
  rw [hs0] at HT
  clear hs0
  generalize correct ⟨a, b, d, e⟩ r lo hi = p at *
  obtain ⟨W0, hW0, HB_W0, hZ, hn, hm, hr⟩ := boxes3 w [.int .i64 a, .int .i64 b, .int .i64 d, .int .i64 e] [.int .i64 lo, .int .i64 hi] [.int .i64 0, .int .i64 0, .int .i64 0, .int .i64 0] 44 42 44
  have H_c := Lib.hid hn
  have H_s := Lib.hid hm
  have H_r : Hid (Box W0 (w.heap.size + 1 + 1) 44 [.int .i64 0, .int .i64 0, .int .i64 0, .int .i64 0]) := hr
  clear hn hm hr hZ
  obtain ⟨q_c_0, q_c_1, q_c_2, q_c_3⟩ := H_c.out.c4
  obtain ⟨q_s_0, q_s_1⟩ := H_s.out.c2
  go_enter Try.func23, Try.ntmps23
  go_wp2_with fail
  refine (HT.out _).mono ?_
  rintro e wa ⟨rfl, hb_wa⟩
  have HB_wa : Below w.heap.size w wa := by first | exact after0 HB_W0 hb_wa | exact after1 HB_W0 hb_wa | exact after2 HB_W0 hb_wa | exact after3 HB_W0 hb_wa | exact after4 HB_W0 hb_wa | exact after5 HB_W0 hb_wa
  replace H_c := Lib.hid (H_c.out.below hb_wa)
  replace H_s := Lib.hid (H_s.out.below hb_wa)
  replace H_r := Lib.hid (H_r.out.below hb_wa)
  clear hW0 q_c_0 q_c_1 q_c_2 q_c_3 q_s_0 q_s_1 hb_wa
  obtain ⟨W1, hW1, hB1, hZ1, hb1⟩ := boxes1 wa [.int .i64 x, .int .i64 y] 42
  have H_t := Lib.hid hb1
  have HB_W1 : Below w.heap.size w W1 := after0 HB_wa hB1
  replace H_c := Lib.hid (H_c.out.below hB1)
  replace H_s := Lib.hid (H_s.out.below hB1)
  replace H_r := Lib.hid (H_r.out.below hB1)
  clear hb1 hZ1 hB1
  obtain ⟨q_s_0, q_s_1⟩ := H_s.out.c2
  go_wp2_with fail
  clear q_s_0 q_s_1
  refine (signal_any _ _ _).mono ?_
  rintro e wb ⟨rfl, hb_wb⟩
  have HB_wb : Below w.heap.size w wb := by first | exact after0 HB_W1 hb_wb | exact after1 HB_W1 hb_wb | exact after2 HB_W1 hb_wb | exact after3 HB_W1 hb_wb | exact after4 HB_W1 hb_wb | exact after5 HB_W1 hb_wb
  try clear q_c_0 q_c_1 q_c_2 q_c_3
  have H_c := Lib.hid (Box.below (by first | exact H_c.out | exact H_c.out.alloc _ | exact (H_c.out.alloc _).alloc _ | exact ((H_c.out.alloc _).alloc _).alloc _) hb_wb)
  obtain ⟨q_c_0, q_c_1, q_c_2, q_c_3⟩ := H_c.out.c4
  try clear q_s_0 q_s_1
  have H_s := Lib.hid (Box.below (by first | exact H_s.out | exact H_s.out.alloc _ | exact (H_s.out.alloc _).alloc _ | exact ((H_s.out.alloc _).alloc _).alloc _) hb_wb)
  obtain ⟨q_s_0, q_s_1⟩ := H_s.out.c2
  try clear q_t_0 q_t_1
  have H_t := Lib.hid (Box.below (by first | exact H_t.out | exact H_t.out.alloc _ | exact (H_t.out.alloc _).alloc _ | exact ((H_t.out.alloc _).alloc _).alloc _) hb_wb)
  obtain ⟨q_t_0, q_t_1⟩ := H_t.out.c2
  replace H_r := Lib.hid (H_r.out.below hb_wb)
  clear hW1
  cases h1 : signal lo hi
  · have HP := Lib.hid (HBAD.out h1)
    clear h1
    have f1 := H_r.out.frozen
    obtain ⟨q_r_0, q_r_1, q_r_2, q_r_3⟩ := H_r.out.c4
    go_wp2_with fail
    obtain ⟨s0, s1, s2, s3⟩ := ((((H_r.out.set 0 (.int .i64 (0))).set 1 (.int .i64 (0))).set 2 (.int .i64 (0))).set 3 (.int .i64 (0))).c4
    refine bodyPost_ret (v := .tuple #[.agg #[.int .i64 (0), .int .i64 (0), .int .i64 (0), .int .i64 (0)], .int .i64 (1)]) (by simp [results, Try.results23, go_sem, s0, s1, s2, s3]) rfl ?_
    exact ⟨by first | rfl | (rw [HP.out]; try rfl), (((HB_wb.setCell (p := ⟨w.heap.size + 1 + 1, 0, none⟩) (by simp; omega) _).setCell (p := ⟨w.heap.size + 1 + 1, 1, none⟩) (by simp; omega) _).setCell (p := ⟨w.heap.size + 1 + 1, 2, none⟩) (by simp; omega) _).setCell (p := ⟨w.heap.size + 1 + 1, 3, none⟩) (by simp; omega) _⟩
  by_cases hq : q = 0
  case neg =>
    have HP := Lib.hid (HERR.out h1 hq)
    have hq1 : (q != 0) = true := bne_iff_ne.2 hq
    clear hq h1
    have f1 := H_r.out.frozen
    obtain ⟨q_r_0, q_r_1, q_r_2, q_r_3⟩ := H_r.out.c4
    go_wp2_with fail
    obtain ⟨s0, s1, s2, s3⟩ := ((((H_r.out.set 0 (.int .i64 (0))).set 1 (.int .i64 (0))).set 2 (.int .i64 (0))).set 3 (.int .i64 (0))).c4
    refine bodyPost_ret (v := .tuple #[.agg #[.int .i64 (0), .int .i64 (0), .int .i64 (0), .int .i64 (0)], .int .i64 (q)]) (by simp [results, Try.results23, go_sem, s0, s1, s2, s3]) rfl ?_
    exact ⟨by first | rfl | (rw [HP.out]; try rfl), (((HB_wb.setCell (p := ⟨w.heap.size + 1 + 1, 0, none⟩) (by simp; omega) _).setCell (p := ⟨w.heap.size + 1 + 1, 1, none⟩) (by simp; omega) _).setCell (p := ⟨w.heap.size + 1 + 1, 2, none⟩) (by simp; omega) _).setCell (p := ⟨w.heap.size + 1 + 1, 3, none⟩) (by simp; omega) _⟩
  have HPV := Lib.hid (HV.out hq h1)
  obtain ⟨hx0, hxy, hy0⟩ := HSP.out hq
  have hsg : 0 ≤ lo ∧ lo ≤ hi ∧ hi ≤ 10000000 := by
    simp only [signal, Bool.and_eq_true, tm_iff, decide_eq_true_eq] at h1
    omega
  obtain ⟨hl0, hlh, hh0⟩ := hsg
  subst hq
  clear HBAD HERR HV HSP HT h1
  have HM := Lib.hid (fun W => meet_any x y lo hi W (by omega) (by omega))
  by_cases hlt : min y hi < max x lo
  · have HP := Lib.hid (HPV.out.trans (if_pos hlt))
    rw [show meet x y lo hi = ((0, 0), 4) from by unfold meet; rw [if_pos hlt]] at HM
    clear hlt HPV
    go_wp2_with fail
    refine (HM.out _).mono ?_
    rintro e wc ⟨rfl, hb_wc⟩
    have HB_wc : Below w.heap.size w wc := by first | exact after0 HB_wb hb_wc | exact after1 HB_wb hb_wc | exact after2 HB_wb hb_wc | exact after3 HB_wb hb_wc | exact after4 HB_wb hb_wc | exact after5 HB_wb hb_wc
    try clear q_t_0 q_t_1
    have H_t := Lib.hid (Box.below (by first | exact H_t.out | exact H_t.out.alloc _ | exact (H_t.out.alloc _).alloc _ | exact ((H_t.out.alloc _).alloc _).alloc _) hb_wc)
    obtain ⟨q_t_0, q_t_1⟩ := H_t.out.c2
    replace H_r := Lib.hid (H_r.out.below hb_wc)
    have H_rr := Lib.hid (H_r.out.alloc (.cells #[.int .i64 0, .int .i64 0] 42))
    clear H_r
    have H_r := H_rr
    have HB_W2 : Below w.heap.size w (wc.alloc (.cells #[.int .i64 0, .int .i64 0] 42)) := grew1 HB_wc
    have f1 := H_r.out.frozen
    obtain ⟨q_r_0, q_r_1, q_r_2, q_r_3⟩ := H_r.out.c4
    go_wp2_with fail
    obtain ⟨s0, s1, s2, s3⟩ := ((((H_r.out.set 0 (.int .i64 (0))).set 1 (.int .i64 (0))).set 2 (.int .i64 (0))).set 3 (.int .i64 (0))).c4
    refine bodyPost_ret (v := .tuple #[.agg #[.int .i64 (0), .int .i64 (0), .int .i64 (0), .int .i64 (0)], .int .i64 (18)]) (by simp [results, Try.results23, go_sem, s0, s1, s2, s3]) rfl ?_
    exact ⟨by first | rfl | (rw [HP.out]; try rfl), (((HB_W2.setCell (p := ⟨w.heap.size + 1 + 1, 0, none⟩) (by simp; omega) _).setCell (p := ⟨w.heap.size + 1 + 1, 1, none⟩) (by simp; omega) _).setCell (p := ⟨w.heap.size + 1 + 1, 2, none⟩) (by simp; omega) _).setCell (p := ⟨w.heap.size + 1 + 1, 3, none⟩) (by simp; omega) _⟩
  · have HP0 := Lib.hid (HPV.out.trans (if_neg hlt))
    rw [show meet x y lo hi = ((max x lo, min y hi), 0) from by unfold meet; rw [if_neg hlt]] at HM
    replace HM := Lib.hid (show ∀ W, Calls Try.prog 42 #[.agg #[.int .i64 x, .int .i64 y], .agg #[.int .i64 lo, .int .i64 hi]] W (Ret W (.tuple #[.agg #[.int .i64 (max x lo), .int .i64 (min y hi)], .int .i64 0])) from HM.out)
    clear hlt HPV
    generalize max x lo = m0 at *
    generalize min y hi = m1 at *
    have HSE := Lib.hid (fun W => set_any r m0 m1 e W)
    rw [← HP0.out] at HSE
    obtain ⟨⟨p0, p1, p2, p3⟩, pq⟩ := p
    go_wp2_with fail
    refine (HM.out _).mono ?_
    rintro e wc ⟨rfl, hb_wc⟩
    have HB_wc : Below w.heap.size w wc := by first | exact after0 HB_wb hb_wc | exact after1 HB_wb hb_wc | exact after2 HB_wb hb_wc | exact after3 HB_wb hb_wc | exact after4 HB_wb hb_wc | exact after5 HB_wb hb_wc
    try clear q_c_0 q_c_1 q_c_2 q_c_3
    have H_c := Lib.hid (Box.below (by first | exact H_c.out | exact H_c.out.alloc _ | exact (H_c.out.alloc _).alloc _ | exact ((H_c.out.alloc _).alloc _).alloc _) hb_wc)
    obtain ⟨q_c_0, q_c_1, q_c_2, q_c_3⟩ := H_c.out.c4
    try clear q_t_0 q_t_1
    have H_t := Lib.hid (Box.below (by first | exact H_t.out | exact H_t.out.alloc _ | exact (H_t.out.alloc _).alloc _ | exact ((H_t.out.alloc _).alloc _).alloc _) hb_wc)
    obtain ⟨q_t_0, q_t_1⟩ := H_t.out.c2
    replace H_r := Lib.hid (H_r.out.below hb_wc)
    clear q_c_0 q_c_1 q_c_2 q_c_3 q_t_0 q_t_1
    obtain ⟨W2, hW2, hB2, hZ2, hb2⟩ := boxes1 wc [.int .i64 m0, .int .i64 m1] 42
    have H_b := Lib.hid hb2
    have HB_W2 : Below w.heap.size w W2 := after0 HB_wc hB2
    replace H_c := Lib.hid (H_c.out.below hB2)
    replace H_r := Lib.hid (H_r.out.below hB2)
    clear hb2 hZ2 hB2
    obtain ⟨q_c_0, q_c_1, q_c_2, q_c_3⟩ := H_c.out.c4
    obtain ⟨q_b_0, q_b_1⟩ := H_b.out.c2
    go_wp2_with fail
    refine (HSE.out _).mono ?_
    rintro e wd ⟨rfl, hb_wd⟩
    have HB_wd : Below w.heap.size w wd := by first | exact after0 HB_W2 hb_wd | exact after1 HB_W2 hb_wd | exact after2 HB_W2 hb_wd | exact after3 HB_W2 hb_wd | exact after4 HB_W2 hb_wd | exact after5 HB_W2 hb_wd
    replace H_r := Lib.hid (H_r.out.below hb_wd)
    clear hW2 q_c_0 q_c_1 q_c_2 q_c_3 q_b_0 q_b_1
    dsimp only
    have HP := Lib.hid (show ((⟨p0, p1, p2, p3⟩, pq) : Clk × Int) = (⟨p0, p1, p2, p3⟩, pq) from rfl)
    have f1 := H_r.out.frozen
    obtain ⟨q_r_0, q_r_1, q_r_2, q_r_3⟩ := H_r.out.c4
    go_wp2_with fail
    obtain ⟨s0, s1, s2, s3⟩ := ((((H_r.out.set 0 (.int .i64 (p0))).set 1 (.int .i64 (p1))).set 2 (.int .i64 (p2))).set 3 (.int .i64 (p3))).c4
    refine bodyPost_ret (v := .tuple #[.agg #[.int .i64 (p0), .int .i64 (p1), .int .i64 (p2), .int .i64 (p3)], .int .i64 (pq)]) (by simp [results, Try.results23, go_sem, s0, s1, s2, s3]) rfl ?_
    exact ⟨by first | rfl | (rw [HP.out]; try rfl), (((HB_wd.setCell (p := ⟨w.heap.size + 1 + 1, 0, none⟩) (by simp; omega) _).setCell (p := ⟨w.heap.size + 1 + 1, 1, none⟩) (by simp; omega) _).setCell (p := ⟨w.heap.size + 1 + 1, 2, none⟩) (by simp; omega) _).setCell (p := ⟨w.heap.size + 1 + 1, 3, none⟩) (by simp; omega) _⟩
end Go.Proofs.Ytpdecgbfnhaojaa
