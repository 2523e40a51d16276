/-
  Walks of the layer 'clock': the meeting of spans, the possible times, a clock that is set or corrected.
-/
import Derived.Test.YtpdecgbfnhaojaaGreatClkB
set_option linter.unusedVariables false
namespace Go.Proofs.YtpdecgbfnhaojaaGreat
open Go.RowKit Nb Sk Ck Go.Sort

theorem svalid_any (a b : Int) (w : World) : Calls Tryz.prog 98 #[.agg #[.int .i64 a, .int .i64 b]] w (Ret w (.bool (decide (-1000000000000 ≤ a ∧ a ≤ b ∧ b ≤ 1000000000000)))) := by
  go_enter Tryz.func98, Tryz.ntmps98
  go_wp2
  all_goals
    go_ret
    refine ⟨ret_bool ?_, grew1 (Below.refl _ _)⟩
    simp; try omega

theorem times_any (w : World) : Calls Tryz.prog 78 #[] w (Ret w (.agg #[.int .i64 0, .int .i64 10000000])) := by
  go_enter Tryz.func78, Tryz.ntmps78
  go_wp2
  refine bodyPost_ret (v := .agg #[.int .i64 0, .int .i64 10000000]) (by simp [results, Tryz.results78, go_sem]) rfl ?_
  exact ⟨rfl, grew1 (Below.refl _ _)⟩

/-- what Meet returns, of valid spans -/
def meet (a b c d : Int) : (Int × Int) × Int := if min b d < max a c then ((0, 0), 4) else ((max a c, min b d), 0)

set_option maxRecDepth 100000 in
set_option maxHeartbeats 4000000 in
theorem meet_any (a b c d : Int) (w : World) (h1 : -1000000000000 ≤ a ∧ a ≤ b ∧ b ≤ 1000000000000) (h2 : -1000000000000 ≤ c ∧ c ≤ d ∧ d ≤ 1000000000000) :
    Calls Tryz.prog 77 #[.agg #[.int .i64 a, .int .i64 b], .agg #[.int .i64 c, .int .i64 d]] w (Ret w (eP (meet a b c d))) := by
  have HP := Lib.hid (show meet a b c d = if min b d < max a c then ((0, 0), 4) else ((max a c, min b d), 0) from rfl)
  generalize meet a b c d = p at *
  obtain ⟨W0, hW0, HB_W0, hZ, hn, hm, hr⟩ := boxes3 w [.int .i64 a, .int .i64 b] [.int .i64 c, .int .i64 d] [.int .i64 0, .int .i64 0] 25 25 25
  have H_n := Lib.hid hn
  have H_m := Lib.hid hm
  have H_r : Hid (Box W0 (w.heap.size + 1 + 1) 25 [.int .i64 0, .int .i64 0]) := hr
  clear hn hm hr hZ
  have d1 : decide (-1000000000000 ≤ a ∧ a ≤ b ∧ b ≤ 1000000000000) = true := decide_eq_true h1
  have d2 : decide (-1000000000000 ≤ c ∧ c ≤ d ∧ d ≤ 1000000000000) = true := decide_eq_true h2
  have HC1 := Lib.hid (fun W => (show Calls Tryz.prog 98 #[.agg #[.int .i64 a, .int .i64 b]] W (Ret W (.bool true)) by have := svalid_any a b W; rwa [d1] at this))
  have HC2 := Lib.hid (fun W => (show Calls Tryz.prog 98 #[.agg #[.int .i64 c, .int .i64 d]] W (Ret W (.bool true)) by have := svalid_any c d W; rwa [d2] at this))
  obtain ⟨h11, h12, h13⟩ := h1
  obtain ⟨h21, h22, h23⟩ := h2
  clear d1 d2
  obtain ⟨q_n_0, q_n_1⟩ := H_n.out.c2
  obtain ⟨q_m_0, q_m_1⟩ := H_m.out.c2
  go_enter Tryz.func77, Tryz.ntmps77
  go_wp2_with fail
  refine (HC1.out _).mono ?_
  rintro e wa ⟨rfl, hb_wa⟩
  have HB_wa : Below w.heap.size w wa := by first | exact after0 HB_W0 hb_wa | exact after1 HB_W0 hb_wa | exact after2 HB_W0 hb_wa | exact after3 HB_W0 hb_wa | exact after4 HB_W0 hb_wa | exact after5 HB_W0 hb_wa
  try clear q_n_0 q_n_1
  have H_n := Lib.hid (Box.below (by first | exact H_n.out | exact H_n.out.alloc _ | exact (H_n.out.alloc _).alloc _ | exact ((H_n.out.alloc _).alloc _).alloc _) hb_wa)
  obtain ⟨q_n_0, q_n_1⟩ := H_n.out.c2
  try clear q_m_0 q_m_1
  have H_m := Lib.hid (Box.below (by first | exact H_m.out | exact H_m.out.alloc _ | exact (H_m.out.alloc _).alloc _ | exact ((H_m.out.alloc _).alloc _).alloc _) hb_wa)
  obtain ⟨q_m_0, q_m_1⟩ := H_m.out.c2
  try clear q_r_0 q_r_1
  have H_r := Lib.hid (Box.below (by first | exact H_r.out | exact H_r.out.alloc _ | exact (H_r.out.alloc _).alloc _ | exact ((H_r.out.alloc _).alloc _).alloc _) hb_wa)
  obtain ⟨q_r_0, q_r_1⟩ := H_r.out.c2
  clear hW0
  go_wp2_with fail
  refine (HC2.out _).mono ?_
  rintro e wb ⟨rfl, hb_wb⟩
  have HB_wb : Below w.heap.size w wb := by first | exact after0 HB_wa hb_wb | exact after1 HB_wa hb_wb | exact after2 HB_wa hb_wb | exact after3 HB_wa hb_wb | exact after4 HB_wa hb_wb | exact after5 HB_wa hb_wb
  try clear q_n_0 q_n_1
  have H_n := Lib.hid (Box.below (by first | exact H_n.out | exact H_n.out.alloc _ | exact (H_n.out.alloc _).alloc _ | exact ((H_n.out.alloc _).alloc _).alloc _) hb_wb)
  obtain ⟨q_n_0, q_n_1⟩ := H_n.out.c2
  try clear q_m_0 q_m_1
  have H_m := Lib.hid (Box.below (by first | exact H_m.out | exact H_m.out.alloc _ | exact (H_m.out.alloc _).alloc _ | exact ((H_m.out.alloc _).alloc _).alloc _) hb_wb)
  obtain ⟨q_m_0, q_m_1⟩ := H_m.out.c2
  try clear q_r_0 q_r_1
  have H_r := Lib.hid (Box.below (by first | exact H_r.out | exact H_r.out.alloc _ | exact (H_r.out.alloc _).alloc _ | exact ((H_r.out.alloc _).alloc _).alloc _) hb_wb)
  obtain ⟨q_r_0, q_r_1⟩ := H_r.out.c2
  rcases Int.lt_or_le a c with hac | hac
  · rcases Int.lt_or_le d b with hdb | hdb
    ·
      have HP1 := Lib.hid (show p = if d < c then ((0, 0), 4) else ((c, d), 0) by rw [HP.out, show max a c = c by omega, show min b d = d by omega])
      obtain ⟨W1, hW1, hB1, hZ1, hb1⟩ := boxes1 wb [.int .i64 c, .int .i64 d] 25
      have H_s := Lib.hid hb1
      have HB_W1 : Below w.heap.size w W1 := after0 HB_wb hB1
      replace H_r := Lib.hid (H_r.out.below hB1)
      clear hb1 hZ1 hB1 q_r_0 q_r_1 HC1 HC2 HP
      have hlt : d < c → False := by omega
      have HP2 := Lib.hid (HP1.out.trans (if_neg hlt))
      replace hlt := Int.not_lt.1 hlt
      obtain ⟨q_s_0, q_s_1⟩ := H_s.out.c2
      obtain ⟨q_r_0, q_r_1⟩ := H_r.out.c2
      have f1 := H_r.out.frozen
      go_wp2_with fail
      obtain ⟨s0, s1⟩ := ((H_r.out.set 0 (.int .i64 c)).set 1 (.int .i64 d)).c2
      refine bodyPost_ret (v := .tuple #[.agg #[.int .i64 c, .int .i64 d], .int .i64 0]) (by simp [results, Tryz.results77, go_sem, s0, s1]) rfl ?_
      exact ⟨by rw [HP2.out], (HB_W1.setCell (p := ⟨w.heap.size + 1 + 1, 0, none⟩) (by simp; omega) _).setCell (p := ⟨w.heap.size + 1 + 1, 1, none⟩) (by simp; omega) _⟩
    ·
      have HP1 := Lib.hid (show p = if b < c then ((0, 0), 4) else ((c, b), 0) by rw [HP.out, show max a c = c by omega, show min b d = b by omega])
      obtain ⟨W1, hW1, hB1, hZ1, hb1⟩ := boxes1 wb [.int .i64 c, .int .i64 b] 25
      have H_s := Lib.hid hb1
      have HB_W1 : Below w.heap.size w W1 := after0 HB_wb hB1
      replace H_r := Lib.hid (H_r.out.below hB1)
      clear hb1 hZ1 hB1 q_r_0 q_r_1 HC1 HC2 HP
      by_cases hlt : b < c
      · have HP2 := Lib.hid (HP1.out.trans (if_pos hlt))
        obtain ⟨q_s_0, q_s_1⟩ := H_s.out.c2
        obtain ⟨q_r_0, q_r_1⟩ := H_r.out.c2
        have f1 := H_r.out.frozen
        go_wp2_with fail
        obtain ⟨s0, s1⟩ := ((H_r.out.set 0 (.int .i64 0)).set 1 (.int .i64 0)).c2
        refine bodyPost_ret (v := .tuple #[.agg #[.int .i64 0, .int .i64 0], .int .i64 4]) (by simp [results, Tryz.results77, go_sem, s0, s1]) rfl ?_
        exact ⟨by rw [HP2.out], (HB_W1.setCell (p := ⟨w.heap.size + 1 + 1, 0, none⟩) (by simp; omega) _).setCell (p := ⟨w.heap.size + 1 + 1, 1, none⟩) (by simp; omega) _⟩
      ·
        have HP2 := Lib.hid (HP1.out.trans (if_neg hlt))
        replace hlt := Int.not_lt.1 hlt
        obtain ⟨q_s_0, q_s_1⟩ := H_s.out.c2
        obtain ⟨q_r_0, q_r_1⟩ := H_r.out.c2
        have f1 := H_r.out.frozen
        go_wp2_with fail
        obtain ⟨s0, s1⟩ := ((H_r.out.set 0 (.int .i64 c)).set 1 (.int .i64 b)).c2
        refine bodyPost_ret (v := .tuple #[.agg #[.int .i64 c, .int .i64 b], .int .i64 0]) (by simp [results, Tryz.results77, go_sem, s0, s1]) rfl ?_
        exact ⟨by rw [HP2.out], (HB_W1.setCell (p := ⟨w.heap.size + 1 + 1, 0, none⟩) (by simp; omega) _).setCell (p := ⟨w.heap.size + 1 + 1, 1, none⟩) (by simp; omega) _⟩
  · rcases Int.lt_or_le d b with hdb | hdb
    ·
      have HP1 := Lib.hid (show p = if d < a then ((0, 0), 4) else ((a, d), 0) by rw [HP.out, show max a c = a by omega, show min b d = d by omega])
      obtain ⟨W1, hW1, hB1, hZ1, hb1⟩ := boxes1 wb [.int .i64 a, .int .i64 d] 25
      have H_s := Lib.hid hb1
      have HB_W1 : Below w.heap.size w W1 := after0 HB_wb hB1
      replace H_r := Lib.hid (H_r.out.below hB1)
      clear hb1 hZ1 hB1 q_r_0 q_r_1 HC1 HC2 HP
      by_cases hlt : d < a
      · have HP2 := Lib.hid (HP1.out.trans (if_pos hlt))
        obtain ⟨q_s_0, q_s_1⟩ := H_s.out.c2
        obtain ⟨q_r_0, q_r_1⟩ := H_r.out.c2
        have f1 := H_r.out.frozen
        go_wp2_with fail
        obtain ⟨s0, s1⟩ := ((H_r.out.set 0 (.int .i64 0)).set 1 (.int .i64 0)).c2
        refine bodyPost_ret (v := .tuple #[.agg #[.int .i64 0, .int .i64 0], .int .i64 4]) (by simp [results, Tryz.results77, go_sem, s0, s1]) rfl ?_
        exact ⟨by rw [HP2.out], (HB_W1.setCell (p := ⟨w.heap.size + 1 + 1, 0, none⟩) (by simp; omega) _).setCell (p := ⟨w.heap.size + 1 + 1, 1, none⟩) (by simp; omega) _⟩
      ·
        have HP2 := Lib.hid (HP1.out.trans (if_neg hlt))
        replace hlt := Int.not_lt.1 hlt
        obtain ⟨q_s_0, q_s_1⟩ := H_s.out.c2
        obtain ⟨q_r_0, q_r_1⟩ := H_r.out.c2
        have f1 := H_r.out.frozen
        go_wp2_with fail
        obtain ⟨s0, s1⟩ := ((H_r.out.set 0 (.int .i64 a)).set 1 (.int .i64 d)).c2
        refine bodyPost_ret (v := .tuple #[.agg #[.int .i64 a, .int .i64 d], .int .i64 0]) (by simp [results, Tryz.results77, go_sem, s0, s1]) rfl ?_
        exact ⟨by rw [HP2.out], (HB_W1.setCell (p := ⟨w.heap.size + 1 + 1, 0, none⟩) (by simp; omega) _).setCell (p := ⟨w.heap.size + 1 + 1, 1, none⟩) (by simp; omega) _⟩
    ·
      have HP1 := Lib.hid (show p = if b < a then ((0, 0), 4) else ((a, b), 0) by rw [HP.out, show max a c = a by omega, show min b d = b by omega])
      obtain ⟨W1, hW1, hB1, hZ1, hb1⟩ := boxes1 wb [.int .i64 a, .int .i64 b] 25
      have H_s := Lib.hid hb1
      have HB_W1 : Below w.heap.size w W1 := after0 HB_wb hB1
      replace H_r := Lib.hid (H_r.out.below hB1)
      clear hb1 hZ1 hB1 q_r_0 q_r_1 HC1 HC2 HP
      have hlt : b < a → False := by omega
      have HP2 := Lib.hid (HP1.out.trans (if_neg hlt))
      replace hlt := Int.not_lt.1 hlt
      obtain ⟨q_s_0, q_s_1⟩ := H_s.out.c2
      obtain ⟨q_r_0, q_r_1⟩ := H_r.out.c2
      have f1 := H_r.out.frozen
      go_wp2_with fail
      obtain ⟨s0, s1⟩ := ((H_r.out.set 0 (.int .i64 a)).set 1 (.int .i64 b)).c2
      refine bodyPost_ret (v := .tuple #[.agg #[.int .i64 a, .int .i64 b], .int .i64 0]) (by simp [results, Tryz.results77, go_sem, s0, s1]) rfl ?_
      exact ⟨by rw [HP2.out], (HB_W1.setCell (p := ⟨w.heap.size + 1 + 1, 0, none⟩) (by simp; omega) _).setCell (p := ⟨w.heap.size + 1 + 1, 1, none⟩) (by simp; omega) _⟩

theorem true_bad {c : Clk} {r : Int} (h : okC c = false ∨ ¬ (c.at_ ≤ r ∧ r ≤ 10000000)) : true_ c r = ((0, 0), 1) := by
  unfold true_; rw [if_neg]
  rcases h with h | h
  · simp [h]
  · simp [h]
theorem true_ok {c : Clk} {r : Int} (h : okC c = true) (h2 : c.at_ ≤ r) (h3 : r ≤ 10000000) : true_ c r = meet 0 10000000 (low c r) (high c r) := by
  unfold true_ meet; rw [if_pos (by simp [h, h2, h3])]
theorem times_bd {c : Clk} {r : Int} (h : okC c = true) (h2 : c.at_ ≤ r) (h3 : r ≤ 10000000) : -1000000000000 ≤ low c r ∧ low c r ≤ high c r ∧ high c r ≤ 1000000000000 := by
  have h0 := low_high h h2
  obtain ⟨ha, ha2, _, _, h4, h5, h6⟩ := okC_iff.1 h
  obtain ⟨b1, b2, _⟩ := slip_bd h h2 (by omega)
  refine ⟨?_, h0, ?_⟩
  · unfold low; omega
  · unfold high; omega


set_option maxRecDepth 100000 in
set_option maxHeartbeats 4000000 in
theorem true_any (c : Clk) (r : Int) (w : World) : Calls Tryz.prog 40 #[eC c, .int .i64 r] w (Ret w (eP (true_ c r))) := by
  have HBAD := Lib.hid (@true_bad c r)
  have HOK := Lib.hid (@true_ok c r)
  have HCV := Lib.hid (fun W => cvalid_any c W)
  have HL := Lib.hid (fun h h1 h2 W => low_any c r W h h1 h2)
  have HH := Lib.hid (fun h h1 h2 W => high_any c r W h h1 h2)
  have HB := Lib.hid (@times_bd c r)
  generalize true_ c r = p at *
  obtain ⟨a, b, d, e⟩ := c
  dsimp only at *
  generalize hv : okC ⟨a, b, d, e⟩ = v at *
  generalize low ⟨a, b, d, e⟩ r = x at *
  generalize high ⟨a, b, d, e⟩ r = y at *
  clear hv
  obtain ⟨W0, hW0, HB_W0, hZ, hn, hr⟩ := boxes2 w [.int .i64 a, .int .i64 b, .int .i64 d, .int .i64 e] [.int .i64 0, .int .i64 0] 27 25
  have H_c := Lib.hid hn
  have H_r := Lib.hid hr
  clear hn hr hZ
  obtain ⟨q_c_0, q_c_1, q_c_2, q_c_3⟩ := H_c.out.c4
  go_enter Tryz.func40, Tryz.ntmps40
  go_wp2_with fail
  refine (HCV.out _).mono ?_
  rintro e wa ⟨rfl, hb_wa⟩
  have HB_wa : Below w.heap.size w wa := by first | exact after0 HB_W0 hb_wa | exact after1 HB_W0 hb_wa | exact after2 HB_W0 hb_wa | exact after3 HB_W0 hb_wa | exact after4 HB_W0 hb_wa | exact after5 HB_W0 hb_wa
  try clear q_c_0 q_c_1 q_c_2 q_c_3
  have H_c := Lib.hid (Box.below (by first | exact H_c.out | exact H_c.out.alloc _ | exact (H_c.out.alloc _).alloc _ | exact ((H_c.out.alloc _).alloc _).alloc _) hb_wa)
  obtain ⟨q_c_0, q_c_1, q_c_2, q_c_3⟩ := H_c.out.c4
  replace H_r := Lib.hid (H_r.out.below hb_wa)
  clear hW0
  cases v
  · have HP := Lib.hid (HBAD.out (.inl (by trivial)))
    have f1 := H_r.out.frozen
    obtain ⟨q_r_0, q_r_1⟩ := H_r.out.c2
    go_wp2_with fail
    obtain ⟨s0, s1⟩ := ((H_r.out.set 0 (.int .i64 (0))).set 1 (.int .i64 (0))).c2
    refine bodyPost_ret (v := .tuple #[.agg #[.int .i64 (0), .int .i64 (0)], .int .i64 (1)]) (by simp [results, Tryz.results40, go_sem, s0, s1]) rfl ?_
    exact ⟨by rw [HP.out], (HB_wa.setCell (p := ⟨w.heap.size + 1, 0, none⟩) (by simp) _).setCell (p := ⟨w.heap.size + 1, 1, none⟩) (by simp) _⟩
  by_cases h1 : r < a
  · have HP := Lib.hid (HBAD.out (.inr (by omega)))
    have f1 := H_r.out.frozen
    obtain ⟨q_r_0, q_r_1⟩ := H_r.out.c2
    go_wp2_with fail
    obtain ⟨s0, s1⟩ := ((H_r.out.set 0 (.int .i64 (0))).set 1 (.int .i64 (0))).c2
    refine bodyPost_ret (v := .tuple #[.agg #[.int .i64 (0), .int .i64 (0)], .int .i64 (1)]) (by simp [results, Tryz.results40, go_sem, s0, s1]) rfl ?_
    exact ⟨by rw [HP.out], (HB_wa.setCell (p := ⟨w.heap.size + 1, 0, none⟩) (by simp) _).setCell (p := ⟨w.heap.size + 1, 1, none⟩) (by simp) _⟩
  by_cases h2 : 10000000 < r
  · have HP := Lib.hid (HBAD.out (.inr (by omega)))
    have f1 := H_r.out.frozen
    obtain ⟨q_r_0, q_r_1⟩ := H_r.out.c2
    go_wp2_with fail
    obtain ⟨s0, s1⟩ := ((H_r.out.set 0 (.int .i64 (0))).set 1 (.int .i64 (0))).c2
    refine bodyPost_ret (v := .tuple #[.agg #[.int .i64 (0), .int .i64 (0)], .int .i64 (1)]) (by simp [results, Tryz.results40, go_sem, s0, s1]) rfl ?_
    exact ⟨by rw [HP.out], (HB_wa.setCell (p := ⟨w.heap.size + 1, 0, none⟩) (by simp) _).setCell (p := ⟨w.heap.size + 1, 1, none⟩) (by simp) _⟩
  replace h1 := Int.not_lt.1 h1
  replace h2 := Int.not_lt.1 h2
  have HP0 := Lib.hid (HOK.out (by trivial) h1 h2)
  have HCL := Lib.hid (HL.out (by trivial) h1 (by omega))
  have HCH := Lib.hid (HH.out (by trivial) h1 (by omega))
  have HCM := Lib.hid (fun W => meet_any 0 10000000 x y W (by omega) (HB.out (by trivial) h1 h2))
  clear HBAD HOK HL HH HB HCV
  rw [← HP0.out] at HCM
  obtain ⟨⟨p0, p1⟩, p2⟩ := p
  obtain ⟨W1, hW1, hB1, hZ1, hb1⟩ := boxes1 wa [.int .i64 a, .int .i64 b, .int .i64 d, .int .i64 e] 66
  have H_f := Lib.hid hb1
  have HB_W1 : Below w.heap.size w W1 := after0 HB_wa hB1
  replace H_r := Lib.hid (H_r.out.below hB1)
  clear hb1 hZ1 hB1
  obtain ⟨q_f_0, q_f_1, q_f_2, q_f_3⟩ := H_f.out.c4
  go_wp2_with fail
  clear q_c_0 q_c_1 q_c_2 q_c_3
  have y_q_f_0 := cell_regrown q_f_0
  have y_q_f_1 := cell_regrown q_f_1
  have y_q_f_2 := cell_regrown q_f_2
  have y_q_f_3 := cell_regrown q_f_3
  clear q_f_0 q_f_1 q_f_2 q_f_3
  clear hW1
  refine wp_region_plan (C := fun w' => ∃ p : Regrown, w' = grow (redrawn W1 p.d) p.os) (.q 1 (.q 2 (.q 4 (.q 5 (.e 0 (.e 3 (.e 6 (.q 7 (.e 8 (.q 9 (.q 10 (.done)))))))))))) 11 (by kernel_rfl) (by kernel_rfl) (grew_drew _) ?_
  repeat (any_goals (first | (go_big_quiet_skip; refine wpQuiet_nil ?_) | (go_big_quiet_want; go_big_quiet_op; go_big_quiet_on; refine wpQuiet_nil ?_) | ((with_reducible apply q_split); exact rfl; intro q hq; cases q <;> (rw [hq]; (try first | replace hq := bnot_t hq | replace hq := bnot_f hq); (try first | replace hq := of_decide_eq_true hq | replace hq := of_decide_eq_false hq | replace hq := eq_of_beq hq); (try first | replace hq := Int.not_lt.1 hq | replace hq := Int.not_le.1 hq | replace hq := Nat.not_lt.1 hq | replace hq := Nat.not_le.1 hq); try (exfalso; omega))) | (refine plan_q rfl rfl ?_)))
  refine plan_e rfl ?_
  go_wp2_with fail
  refine (times_any _).mono ?_
  rintro e w1 ⟨rfl, hb_w1⟩
  have HW_w1 : Below W1.heap.size W1 w1 := below_undrew hb_w1
  clear hb_w1
  go_wp2_with fail
  refine MixPost.intro (grew_of_below HW_w1) ?_
  repeat (any_goals (first | (go_big_quiet_skip; refine wpQuiet_nil ?_) | (go_big_quiet_want; go_big_quiet_op; go_big_quiet_on; refine wpQuiet_nil ?_) | ((with_reducible apply q_split); exact rfl; intro q hq; cases q <;> (rw [hq]; (try first | replace hq := bnot_t hq | replace hq := bnot_f hq); (try first | replace hq := of_decide_eq_true hq | replace hq := of_decide_eq_false hq | replace hq := eq_of_beq hq); (try first | replace hq := Int.not_lt.1 hq | replace hq := Int.not_le.1 hq | replace hq := Nat.not_lt.1 hq | replace hq := Nat.not_le.1 hq); try (exfalso; omega))) | (refine plan_q rfl rfl ?_)))
  refine plan_e rfl ?_
  go_wp2_with fail
  refine (HCL.out _).mono ?_
  rintro e w2 ⟨rfl, hb_w2⟩
  have HW_w2 : Below W1.heap.size W1 w2 := after0 HW_w1 hb_w2
  clear hb_w2
  go_wp2_with fail
  refine MixPost.intro (grew_of_below HW_w2) ?_
  repeat (any_goals (first | (go_big_quiet_skip; refine wpQuiet_nil ?_) | (go_big_quiet_want; go_big_quiet_op; go_big_quiet_on; refine wpQuiet_nil ?_) | ((with_reducible apply q_split); exact rfl; intro q hq; cases q <;> (rw [hq]; (try first | replace hq := bnot_t hq | replace hq := bnot_f hq); (try first | replace hq := of_decide_eq_true hq | replace hq := of_decide_eq_false hq | replace hq := eq_of_beq hq); (try first | replace hq := Int.not_lt.1 hq | replace hq := Int.not_le.1 hq | replace hq := Nat.not_lt.1 hq | replace hq := Nat.not_le.1 hq); try (exfalso; omega))) | (refine plan_q rfl rfl ?_)))
  refine plan_e rfl ?_
  go_wp2_with fail
  refine (HCH.out _).mono ?_
  rintro e w3 ⟨rfl, hb_w3⟩
  have HW_w3 : Below W1.heap.size W1 w3 := after0 HW_w2 hb_w3
  clear hb_w3
  go_wp2_with fail
  refine MixPost.intro (grew_of_below HW_w3) ?_
  repeat (any_goals (first | (go_big_quiet_skip; refine wpQuiet_nil ?_) | (go_big_quiet_want; go_big_quiet_op; go_big_quiet_on; refine wpQuiet_nil ?_) | ((with_reducible apply q_split); exact rfl; intro q hq; cases q <;> (rw [hq]; (try first | replace hq := bnot_t hq | replace hq := bnot_f hq); (try first | replace hq := of_decide_eq_true hq | replace hq := of_decide_eq_false hq | replace hq := eq_of_beq hq); (try first | replace hq := Int.not_lt.1 hq | replace hq := Int.not_le.1 hq | replace hq := Nat.not_lt.1 hq | replace hq := Nat.not_le.1 hq); try (exfalso; omega))) | (refine plan_q rfl rfl ?_)))
  refine plan_e rfl ?_
  go_wp2_with fail
  refine (HCM.out _).mono ?_
  rintro e w4 ⟨rfl, hb_w4⟩
  have HW_w4 : Below W1.heap.size W1 w4 := after0 HW_w3 hb_w4
  clear hb_w4
  go_wp2_with fail
  refine MixPost.intro (grew_of_below HW_w4) ?_
  repeat (any_goals (first | (go_big_quiet_skip; refine wpQuiet_nil ?_) | (go_big_quiet_want; go_big_quiet_op; go_big_quiet_on; refine wpQuiet_nil ?_) | ((with_reducible apply q_split); exact rfl; intro q hq; cases q <;> (rw [hq]; (try first | replace hq := bnot_t hq | replace hq := bnot_f hq); (try first | replace hq := of_decide_eq_true hq | replace hq := of_decide_eq_false hq | replace hq := eq_of_beq hq); (try first | replace hq := Int.not_lt.1 hq | replace hq := Int.not_le.1 hq | replace hq := Nat.not_lt.1 hq | replace hq := Nat.not_le.1 hq); try (exfalso; omega))) | (refine plan_q rfl rfl ?_)))
  clear y_q_f_0 y_q_f_1 y_q_f_2 y_q_f_3
  have HB_w4 : Below w.heap.size w w4 := after0 HB_W1 HW_w4
  replace H_r := Lib.hid (H_r.out.below HW_w4)
  have f1 := H_r.out.frozen
  obtain ⟨q_r_0, q_r_1⟩ := H_r.out.c2
  all_goals refine plan_done ?_
  all_goals (try simp only [List.drop_succ_cons, List.drop_zero])
  all_goals (try go_wp2_with fail)
  all_goals refine NoPanic.normal ?_
  all_goals (try go_wp2_with fail)
  obtain ⟨s0, s1⟩ := ((H_r.out.set 0 (.int .i64 p0)).set 1 (.int .i64 p1)).c2
  refine bodyPost_ret (v := .tuple #[.agg #[.int .i64 p0, .int .i64 p1], .int .i64 p2]) (by simp [results, Tryz.results40, go_sem, s0, s1]) rfl ?_
  exact ⟨rfl, (HB_w4.setCell (p := ⟨w.heap.size + 1, 0, none⟩) (by simp) _).setCell (p := ⟨w.heap.size + 1, 1, none⟩) (by simp) _⟩

abbrev eK (p : Clk × Int) : Value := .tuple #[eC p.1, .int .i64 p.2]
theorem set_bad {r lo hi dr : Int} (h : tm r = false ∨ signal lo hi = false) : set_ r lo hi dr = (zeroC, 1) := by
  unfold set_; rw [if_neg]
  rcases h with h | h <;> simp [h]
theorem set_val {r lo hi dr : Int} (h : tm r = true) (h2 : signal lo hi = true) : set_ r lo hi dr = if okC ⟨r, lo - r, hi - r, dr⟩ then (⟨r, lo - r, hi - r, dr⟩, 0) else (zeroC, 1) := by
  unfold set_; rw [if_pos (by simp [h, h2])]


end Go.Proofs.YtpdecgbfnhaojaaGreat
