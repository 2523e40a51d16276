/-
  The walk of 'NumberQuiet'.
-/
import Derived.Test.YtecnbfgacojpjaaNumK
namespace Go.Proofs.Ytecnbfgacojpjaa
open Go.RowKit Nb Sk Go.Sort

/-- between two uses of a name there are q minutes, for the rows before i -/
def QU (l : List Us) (q : Int) (i : Nat) : Prop := ∀ a b : Nat, ∀ (ha : a < l.length) (hb : b < l.length), a < b → b < i → l[a].nm = l[b].nm → q ≤ l[b].fr - l[a].fe
/-- .. for row i, and the rows before k -/
def QI (l : List Us) (q : Int) (i k : Nat) : Prop := ∀ a : Nat, ∀ (ha : a < l.length) (hb : i < l.length), a < k → l[a].nm = l[i].nm → q ≤ l[i].fr - l[a].fe
theorem QU.step {l : List Us} {q : Int} {i : Nat} (h : QU l q i) (h' : QI l q i i) : QU l q (i + 1) := by
  intro a b ha hb hab hbi he
  rcases Nat.lt_or_ge b i with h1 | h1
  · exact h a b ha hb hab h1 he
  · obtain rfl : b = i := by omega
    exact h' a ha hb hab he

theorem quiet_no {l : List Us} {n : Nm} {q lo hi : Int} (hq : QU l q l.length) (hs : hi - lo ≤ q) : (sure l n lo hi).2 ≠ 5 := by
  intro h5
  by_cases hb : sureBad l n lo hi = true
  · rw [sure_bad hb] at h5; simp at h5
  · have hb' : sureBad l n lo hi = false := by simpa using hb
    rcases sure_cases hb' with ⟨h1, _⟩ | ⟨i, hi', hm, _, h2⟩
    · rw [h1] at h5; simp at h5
    · rcases h2 with ⟨_, j, hj, hij, hmj⟩ | ⟨h3, _⟩
      · rw [meets_iff] at hm hmj
        have := hq i j hi' hj hij hj (by rw [hm.1, hmj.1])
        omega
      · rw [h3] at h5; simp at h5

set_option maxRecDepth 100000 in
set_option maxHeartbeats 4000000 in
theorem quiet_walk (ao : Option Addr) (m cap : Nat) (l : List Us) (n1 n2 n3 qq lo hi : Int) (w : World) (hs : Sl w 5 cU ao m cap l) :
    Calls Try.prog 6 #[.slice ao m cap, .agg #[.int .i64 n1, .int .i64 n2, .int .i64 n3], .int .i64 qq, .agg #[.int .i64 lo, .int .i64 hi]] w (Ret w (.bool true)) := by
  obtain rfl := hs.len
  have hcap := hs.max
  have hle := hs.le
  unfold maxLen at hcap
  have HSL := Lib.hid hs
  clear hs
  obtain ⟨W0, hW0, HB_W0, hZ, hn, hp⟩ := boxes2 w [.int .i64 n1, .int .i64 n2, .int .i64 n3] [.int .i64 lo, .int .i64 hi] 23 40
  have H_n := Lib.hid hn
  have H_s := Lib.hid hp
  clear hn hp
  replace HSL := Lib.hid (HSL.out.below HB_W0)
  obtain ⟨q_n_0, q_n_1, q_n_2⟩ := H_n.out.c3
  obtain ⟨q_s_0, q_s_1⟩ := H_s.out.c2
  go_enter Try.func6, Try.ntmps6
  go_wp2_with fail
  refine (head_any _).mono ?_
  rintro e wa ⟨rfl, hb_wa⟩
  have HB_wa : Below w.heap.size w wa := by first | exact after0 HB_W0 hb_wa | exact after1 HB_W0 hb_wa | exact after2 HB_W0 hb_wa | exact after3 HB_W0 hb_wa | exact after4 HB_W0 hb_wa | exact after5 HB_W0 hb_wa
  try clear q_n_0 q_n_1 q_n_2
  have H_n := Lib.hid (Box.below (by first | exact H_n.out | exact H_n.out.alloc _ | exact (H_n.out.alloc _).alloc _ | exact ((H_n.out.alloc _).alloc _).alloc _) hb_wa)
  obtain ⟨q_n_0, q_n_1, q_n_2⟩ := H_n.out.c3
  try clear q_s_0 q_s_1
  have H_s := Lib.hid (Box.below (by first | exact H_s.out | exact H_s.out.alloc _ | exact (H_s.out.alloc _).alloc _ | exact ((H_s.out.alloc _).alloc _).alloc _) hb_wa)
  obtain ⟨q_s_0, q_s_1⟩ := H_s.out.c2
  replace HSL := Lib.hid (show Sl wa _ _ _ _ _ _ by first | exact HSL.out.below hb_wa | exact (HSL.out.below (grew1 (Below.refl _ _))).below hb_wa | exact (HSL.out.below (grew2 (Below.refl _ _))).below hb_wa | exact (HSL.out.below (grew3 (Below.refl _ _))).below hb_wa)
  clear hW0 hZ
  go_wp2_with fail
  refine (rows_any _ _ _ l _ (by first | exact HSL.out | exact HSL.out.below (grew1 (Below.refl _ _)) | exact HSL.out.below (grew2 (Below.refl _ _)) | exact HSL.out.below (grew3 (Below.refl _ _)))).mono ?_
  rintro e wb ⟨rfl, hb_wb⟩
  have HB_wb : Below w.heap.size w wb := by first | exact after0 HB_wa hb_wb | exact after1 HB_wa hb_wb | exact after2 HB_wa hb_wb | exact after3 HB_wa hb_wb | exact after4 HB_wa hb_wb | exact after5 HB_wa hb_wb
  try clear q_n_0 q_n_1 q_n_2
  have H_n := Lib.hid (Box.below (by first | exact H_n.out | exact H_n.out.alloc _ | exact (H_n.out.alloc _).alloc _ | exact ((H_n.out.alloc _).alloc _).alloc _) hb_wb)
  obtain ⟨q_n_0, q_n_1, q_n_2⟩ := H_n.out.c3
  try clear q_s_0 q_s_1
  have H_s := Lib.hid (Box.below (by first | exact H_s.out | exact H_s.out.alloc _ | exact (H_s.out.alloc _).alloc _ | exact ((H_s.out.alloc _).alloc _).alloc _) hb_wb)
  obtain ⟨q_s_0, q_s_1⟩ := H_s.out.c2
  replace HSL := Lib.hid (show Sl wb _ _ _ _ _ _ by first | exact HSL.out.below hb_wb | exact (HSL.out.below (grew1 (Below.refl _ _))).below hb_wb | exact (HSL.out.below (grew2 (Below.refl _ _))).below hb_wb | exact (HSL.out.below (grew3 (Below.refl _ _))).below hb_wb)
  by_cases hr : rows l = false
  · rw [hr]
    go_wp2_with fail
    go_ret
    exact ⟨rfl, HB_wb⟩
  have hr' : rows l = true := by simpa using hr
  rw [hr']
  have HRO := Lib.hid (rows_iff.1 hr')
  clear hr hr'
  by_cases g1 : qq < 0
  · go_wp2_with fail
    go_ret
    exact ⟨rfl, HB_wb⟩
  by_cases g2 : 10000000 < qq
  · go_wp2_with fail
    go_ret
    exact ⟨rfl, HB_wb⟩
  have g1' : 0 ≤ qq := by omega
  have g2' : qq ≤ 10000000 := by omega
  clear g1 g2
  have d1 : decide (qq < 0) = false := decide_eq_false (by omega)
  have d2 : decide (10000000 < qq) = false := decide_eq_false (by omega)
  go_wp2_with fail
  any_goals (first | (exfalso; omega; done) | skip)
  go_loopw [10, 11] (fun i k' wr => ∃ k : Nat, k ≤ l.length ∧ i = .int .i64 k ∧ Below w.heap.size w wr ∧ Hid (Sl wr 5 cU ao l.length cap l) ∧ Hid (Box wr w.heap.size 23 [.int .i64 n1, .int .i64 n2, .int .i64 n3]) ∧ Hid (Box wr (w.heap.size + 1) 40 [.int .i64 lo, .int .i64 hi]) ∧ Hid (QU l qq k)) (fun i k' wr => l.length - (intOf i).toNat)
  case atStart => exact ⟨0, by omega, rfl, HB_wb, HSL, H_n, H_s, fun a b ha hb hab hbi he => by omega⟩
  case round =>
    clear H_n H_s HSL
    try clear q_n_0 q_n_1 q_n_2 q_s_0 q_s_1
    obtain ⟨i, hi', rfl, HB_wr, HSLr, H_n, H_s, HQ⟩ := hrel
    by_cases hil : i < l.length
    · have HI := Lib.hid (HRO.out.ok _ (List.getElem_mem hil))
      go_wp2_with fail
      go_loopw [11] (fun k' ws => ∃ k : Nat, k ≤ i ∧ k' = .int .i64 k ∧ Below w.heap.size w ws ∧ Hid (Sl ws 5 cU ao l.length cap l) ∧ Hid (Box ws w.heap.size 23 [.int .i64 n1, .int .i64 n2, .int .i64 n3]) ∧ Hid (Box ws (w.heap.size + 1) 40 [.int .i64 lo, .int .i64 hi]) ∧ Hid (QI l qq i k)) (fun k' ws => i - (intOf k').toNat)
      case atStart => exact ⟨0, by omega, rfl, HB_wr, HSLr, H_n, H_s, fun a ha hb hak he => by omega⟩
      case round =>
        clear H_n H_s HSLr HB_wr
        obtain ⟨k, hk, rfl, HB_ws, HSLs, H_n, H_s, HQI⟩ := hrel
        by_cases hki : k < i
        · have hkl : k < l.length := by omega
          have HK := Lib.hid (HRO.out.ok _ (List.getElem_mem hkl))
          have HT := Lib.hid (fun (h : l[k].nm = l[i].nm → qq ≤ l[i].fr - l[k].fe) => show QI l qq i (k + 1) from fun a ha hb hak he => by
            rcases Nat.lt_or_ge a k with h1 | h1
            · exact HQI.out a ha hb h1 he
            · obtain rfl : a = k := by omega
              exact h he)
          obtain ⟨bb, off, rfl, hbb, hrow⟩ := HSLs.out.get hkl
          obtain ⟨e_0, e_1, e_2, e_3, e_4⟩ := (hrow k hkl).c5
          obtain ⟨d_0, d_1, d_2, d_3, d_4⟩ := (hrow i hil).c5
          clear hrow HQ HQI
          generalize l[k] = u at *
          generalize l[i] = v at *
          obtain ⟨⟨a, b, c⟩, f, g⟩ := u
          obtain ⟨⟨a', b', c'⟩, f', g'⟩ := v
          dsimp only at e_0 e_1 e_2 e_3 e_4 d_0 d_1 d_2 d_3 d_4
          have hI := HI.out
          have hK := HK.out
          dsimp only at hI hK
          obtain ⟨_, hI1, hI2, hI3⟩ := hI
          obtain ⟨_, hK1, hK2, hK3⟩ := hK
          by_cases c1 : a' = a
          · by_cases c2 : b' = b
            · by_cases c3 : c' = c
              · subst c1 c2 c3
                by_cases c4 : f' - g < qq
                · go_wp2_with fail
                  have y0 := cell_regrown e_0
                  have y1 := cell_regrown e_1
                  have y2 := cell_regrown e_2
                  have y3 := cell_regrown e_3
                  have y4 := cell_regrown e_4
                  have z0 := cell_regrown d_0
                  have z1 := cell_regrown d_1
                  have z2 := cell_regrown d_2
                  have z3 := cell_regrown d_3
                  have z4 := cell_regrown d_4
                  clear e_0 e_1 e_2 e_3 e_4 d_0 d_1 d_2 d_3 d_4
                  refine wp_region_mix (C := fun w' => ∃ p : Regrown, w' = grow (redrawn wr p.d) p.os) [(0, 0), (1, 0), (2, 0), (3, 0), (4, 0), (5, 0), (6, 0), (7, 0), (8, 0), (9, 0), (10, 0), (11, 0), (12, 0), (13, 0), (14, 0), (15, 0), (16, 0), (17, 0), (18, 0), (19, 0), (20, 0), (21, 0), (22, 0), (23, 0), (24, 0), (25, 0)] 26 (by kernel_rfl) (by kernel_rfl) (grew_drew _) ?_
                  repeat (refine mix_q rfl rfl ?_; first | go_big_quiet_skip | (go_big_quiet_want; go_big_quiet_op; go_big_quiet_on); refine wpQuiet_nil ?_)
                  try refine wpQuiet_nil ?_
                  refine wpMix_nil ?_
                  try simp only [List.drop_succ_cons, List.drop_zero]
                  go_wp2_with fail
                  refine NoPanic.normal ?_
                  go_wp2_with fail
                  go_ret
                  exact ⟨rfl, HB_ws.drew⟩
                · have c4' : decide (f' - g < qq) = false := decide_eq_false c4
                  go_wp2_with fail
                  have y0 := cell_regrown e_0
                  have y1 := cell_regrown e_1
                  have y2 := cell_regrown e_2
                  have y3 := cell_regrown e_3
                  have y4 := cell_regrown e_4
                  have z0 := cell_regrown d_0
                  have z1 := cell_regrown d_1
                  have z2 := cell_regrown d_2
                  have z3 := cell_regrown d_3
                  have z4 := cell_regrown d_4
                  clear e_0 e_1 e_2 e_3 e_4 d_0 d_1 d_2 d_3 d_4
                  refine wp_region_mix (C := fun w' => ∃ p : Regrown, w' = grow (redrawn wr p.d) p.os) [(0, 0), (1, 0), (2, 0), (3, 0), (4, 0), (5, 0), (6, 0), (7, 0), (8, 0), (9, 0), (10, 0), (11, 0), (12, 0), (13, 0), (14, 0), (15, 0), (16, 0), (17, 0), (18, 0), (19, 0), (20, 0), (21, 0), (22, 0), (23, 0), (24, 0), (25, 0)] 26 (by kernel_rfl) (by kernel_rfl) (grew_drew _) ?_
                  repeat (refine mix_q rfl rfl ?_; first | go_big_quiet_skip | (go_big_quiet_want; go_big_quiet_op; go_big_quiet_on); refine wpQuiet_nil ?_)
                  try refine wpQuiet_nil ?_
                  refine wpMix_nil ?_
                  try simp only [List.drop_succ_cons, List.drop_zero]
                  go_wp2_with fail
                  refine NoPanic.normal ?_
                  go_wp2_with fail
                  go_roundw
                  case rel => exact ⟨k + 1, by omega, by go_num, HB_ws.drew, Lib.hid (sl_drew HSLs.out), Lib.hid H_n.out.drew, Lib.hid H_s.out.drew, HT.out (by intro _; omega)⟩
                  case measure => simp [intOf]; omega
              · have c3' : (c' == c) = false := beq_eq_false_iff_ne.2 c3
                subst c1 c2
                go_wp2_with fail
                have y0 := cell_regrown e_0
                have y1 := cell_regrown e_1
                have y2 := cell_regrown e_2
                have y3 := cell_regrown e_3
                have y4 := cell_regrown e_4
                have z0 := cell_regrown d_0
                have z1 := cell_regrown d_1
                have z2 := cell_regrown d_2
                have z3 := cell_regrown d_3
                have z4 := cell_regrown d_4
                clear e_0 e_1 e_2 e_3 e_4 d_0 d_1 d_2 d_3 d_4
                refine wp_region_mix (C := fun w' => ∃ p : Regrown, w' = grow (redrawn wr p.d) p.os) [(0, 0), (1, 0), (2, 0), (3, 0), (4, 0), (5, 0), (6, 0), (7, 0), (8, 0), (9, 0), (10, 0), (11, 0), (12, 0), (13, 0), (14, 0), (15, 0), (16, 0), (17, 0), (18, 0), (19, 0), (20, 0), (21, 0), (22, 0), (23, 0), (24, 0), (25, 0)] 26 (by kernel_rfl) (by kernel_rfl) (grew_drew _) ?_
                repeat (refine mix_q rfl rfl ?_; first | go_big_quiet_skip | (go_big_quiet_want; go_big_quiet_op; go_big_quiet_on); refine wpQuiet_nil ?_)
                try refine wpQuiet_nil ?_
                refine wpMix_nil ?_
                try simp only [List.drop_succ_cons, List.drop_zero]
                go_wp2_with fail
                refine NoPanic.normal ?_
                go_wp2_with fail
                go_roundw
                case rel => exact ⟨k + 1, by omega, by go_num, HB_ws.drew, Lib.hid (sl_drew HSLs.out), Lib.hid H_n.out.drew, Lib.hid H_s.out.drew, HT.out (by intro he; simp only [Nm.mk.injEq] at he; exact absurd he.2.2.symm c3)⟩
                case measure => simp [intOf]; omega
            · have c2' : (b' == b) = false := beq_eq_false_iff_ne.2 c2
              subst c1
              go_wp2_with fail
              have y0 := cell_regrown e_0
              have y1 := cell_regrown e_1
              have y2 := cell_regrown e_2
              have y3 := cell_regrown e_3
              have y4 := cell_regrown e_4
              have z0 := cell_regrown d_0
              have z1 := cell_regrown d_1
              have z2 := cell_regrown d_2
              have z3 := cell_regrown d_3
              have z4 := cell_regrown d_4
              clear e_0 e_1 e_2 e_3 e_4 d_0 d_1 d_2 d_3 d_4
              refine wp_region_mix (C := fun w' => ∃ p : Regrown, w' = grow (redrawn wr p.d) p.os) [(0, 0), (1, 0), (2, 0), (3, 0), (4, 0), (5, 0), (6, 0), (7, 0), (8, 0), (9, 0), (10, 0), (11, 0), (12, 0), (13, 0), (14, 0), (15, 0), (16, 0), (17, 0), (18, 0), (19, 0), (20, 0), (21, 0), (22, 0), (23, 0), (24, 0), (25, 0)] 26 (by kernel_rfl) (by kernel_rfl) (grew_drew _) ?_
              repeat (refine mix_q rfl rfl ?_; first | go_big_quiet_skip | (go_big_quiet_want; go_big_quiet_op; go_big_quiet_on); refine wpQuiet_nil ?_)
              try refine wpQuiet_nil ?_
              refine wpMix_nil ?_
              try simp only [List.drop_succ_cons, List.drop_zero]
              go_wp2_with fail
              refine NoPanic.normal ?_
              go_wp2_with fail
              go_roundw
              case rel => exact ⟨k + 1, by omega, by go_num, HB_ws.drew, Lib.hid (sl_drew HSLs.out), Lib.hid H_n.out.drew, Lib.hid H_s.out.drew, HT.out (by intro he; simp only [Nm.mk.injEq] at he; exact absurd he.2.1.symm c2)⟩
              case measure => simp [intOf]; omega
          · have c1' : (a' == a) = false := beq_eq_false_iff_ne.2 c1
            go_wp2_with fail
            have y0 := cell_regrown e_0
            have y1 := cell_regrown e_1
            have y2 := cell_regrown e_2
            have y3 := cell_regrown e_3
            have y4 := cell_regrown e_4
            have z0 := cell_regrown d_0
            have z1 := cell_regrown d_1
            have z2 := cell_regrown d_2
            have z3 := cell_regrown d_3
            have z4 := cell_regrown d_4
            clear e_0 e_1 e_2 e_3 e_4 d_0 d_1 d_2 d_3 d_4
            refine wp_region_mix (C := fun w' => ∃ p : Regrown, w' = grow (redrawn wr p.d) p.os) [(0, 0), (1, 0), (2, 0), (3, 0), (4, 0), (5, 0), (6, 0), (7, 0), (8, 0), (9, 0), (10, 0), (11, 0), (12, 0), (13, 0), (14, 0), (15, 0), (16, 0), (17, 0), (18, 0), (19, 0), (20, 0), (21, 0), (22, 0), (23, 0), (24, 0), (25, 0)] 26 (by kernel_rfl) (by kernel_rfl) (grew_drew _) ?_
            repeat (refine mix_q rfl rfl ?_; first | go_big_quiet_skip | (go_big_quiet_want; go_big_quiet_op; go_big_quiet_on); refine wpQuiet_nil ?_)
            try refine wpQuiet_nil ?_
            refine wpMix_nil ?_
            try simp only [List.drop_succ_cons, List.drop_zero]
            go_wp2_with fail
            refine NoPanic.normal ?_
            go_wp2_with fail
            go_roundw
            case rel => exact ⟨k + 1, by omega, by go_num, HB_ws.drew, Lib.hid (sl_drew HSLs.out), Lib.hid H_n.out.drew, Lib.hid H_s.out.drew, HT.out (by intro he; simp only [Nm.mk.injEq] at he; exact absurd he.1.symm c1)⟩
            case measure => simp [intOf]; omega
        · have hki2 : k = i := by omega
          subst hki2
          have HQ2 := Lib.hid (HQ.out.step HQI.out)
          clear HQ HQI
          go_wp2_with fail
          go_roundw
          case rel => exact ⟨k + 1, by omega, by go_num, HB_ws, HSLs, H_n, H_s, HQ2⟩
          case measure => simp [intOf]; omega
    · have hil2 : i = l.length := by omega
      subst hil2
      obtain ⟨q_n_0, q_n_1, q_n_2⟩ := H_n.out.c3
      obtain ⟨q_s_0, q_s_1⟩ := H_s.out.c2
      go_wp2_with fail
      refine (sure_any _ _ _ l _ _ _ _ _ _ (by first | exact HSLr.out | exact HSLr.out.below (grew1 (Below.refl _ _)) | exact HSLr.out.below (grew2 (Below.refl _ _)) | exact HSLr.out.below (grew3 (Below.refl _ _)))).mono ?_
      rintro e wd ⟨rfl, hb_wd⟩
      have HB_wd : Below w.heap.size w wd := by first | exact after0 HB_wr hb_wd | exact after1 HB_wr hb_wd | exact after2 HB_wr hb_wd | exact after3 HB_wr hb_wd | exact after4 HB_wr hb_wd | exact after5 HB_wr hb_wd
      try clear q_n_0 q_n_1 q_n_2
      have H_n := Lib.hid (Box.below (by first | exact H_n.out | exact H_n.out.alloc _ | exact (H_n.out.alloc _).alloc _ | exact ((H_n.out.alloc _).alloc _).alloc _) hb_wd)
      obtain ⟨q_n_0, q_n_1, q_n_2⟩ := H_n.out.c3
      try clear q_s_0 q_s_1
      have H_s := Lib.hid (Box.below (by first | exact H_s.out | exact H_s.out.alloc _ | exact (H_s.out.alloc _).alloc _ | exact ((H_s.out.alloc _).alloc _).alloc _) hb_wd)
      obtain ⟨q_s_0, q_s_1⟩ := H_s.out.c2
      by_cases hb2 : sureBad l ⟨n1, n2, n3⟩ lo hi = true
      · rw [sure_bad hb2]
        dsimp only
        go_wp2_with fail
        go_ret
        exact ⟨rfl, HB_wd⟩
      · have hb2' : sureBad l ⟨n1, n2, n3⟩ lo hi = false := by simpa using hb2
        have hnb := not_bad hb2'
        have hl := tm_iff.1 hnb.2.2.1
        have hh := tm_iff.1 hnb.2.2.2.1
        have h1 : (sure l ⟨n1, n2, n3⟩ lo hi).2 ≠ 1 := fun h => by rw [bad_fst, hb2'] at h; cases h
        have HN := Lib.hid (fun h => quiet_no (n := ⟨n1, n2, n3⟩) (lo := lo) (hi := hi) HQ.out h)
        obtain ⟨z, hz⟩ : ∃ z, sure l ⟨n1, n2, n3⟩ lo hi = z := ⟨_, rfl⟩
        rw [hz] at h1 HN ⊢
        obtain ⟨z1, z2⟩ := z
        dsimp only at h1 HN ⊢
        have h1' : (z2 == 1) = false := beq_eq_false_iff_ne.2 h1
        clear hz hnb hb2 hb2'
        by_cases g3 : qq < hi - lo
        · go_wp2_with fail
          go_ret
          exact ⟨rfl, HB_wd⟩
        · have h5 : (z2 == 5) = false := beq_eq_false_iff_ne.2 (HN.out (by omega))
          go_wp2_with fail
          go_ret
          exact ⟨ret_bool' (by simp [bne, h5]), HB_wd⟩
end Go.Proofs.Ytecnbfgacojpjaa
