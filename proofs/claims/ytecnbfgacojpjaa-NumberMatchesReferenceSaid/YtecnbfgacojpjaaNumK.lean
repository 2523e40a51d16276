/-
  Plain laws of Who and Sure; the walk of 'NumberWho'.
-/
import Derived.Test.YtecnbfgacojpjaaNumI
namespace Go.Proofs.Ytecnbfgacojpjaa
open Go.RowKit Nb Sk Go.Sort

theorem sl_drew {w : World} {k : Nat} {enc : Us → List Value} {ao : Option Addr} {n cap : Nat} {l : List Us} (h : Sl w k enc ao n cap l) : Sl w.drew k enc ao n cap l := h.below ((Below.refl _ _).drew)

theorem bad_fst {l : List Us} {n : Nm} {lo hi : Int} : (sure l n lo hi).2 = 1 ↔ sureBad l n lo hi = true := by
  constructor
  · intro h
    by_cases hb : sureBad l n lo hi = true
    · exact hb
    · exfalso
      have hb' : sureBad l n lo hi = false := by simpa using hb
      unfold sureBad at hb'
      unfold sure at h
      rw [if_neg (by rw [hb']; simp)] at h
      split at h
      · simp at h
      · split at h <;> simp at h
  · intro h; rw [sure_bad h]

/-- what Sure returns, where what is asked is valid -/
theorem sure_cases {l : List Us} {n : Nm} {lo hi : Int} (h : sureBad l n lo hi = false) :
    (sure l n lo hi = (0, 4) ∧ ∀ u ∈ l, meets n lo hi u = false) ∨
    (∃ i, ∃ h : i < l.length, meets n lo hi l[i] = true ∧ (∀ j (hj : j < l.length), j < i → meets n lo hi l[j] = false) ∧
      ((sure l n lo hi = (0, 5) ∧ ∃ j, ∃ hj : j < l.length, i < j ∧ meets n lo hi l[j] = true) ∨ (sure l n lo hi = ((i : Int), 0) ∧ ∀ j (hj : j < l.length), i < j → meets n lo hi l[j] = false))) := by
  unfold sureBad at h
  unfold sure
  rw [if_neg (by rw [h]; simp)]
  cases hf : l.findIdx? (meets n lo hi) with
  | none =>
    left
    refine ⟨rfl, ?_⟩
    rw [List.findIdx?_eq_none_iff] at hf
    exact hf
  | some i =>
    right
    obtain ⟨hi0, hm, hn⟩ := List.findIdx?_eq_some_iff_getElem.1 hf
    refine ⟨i, hi0, hm, fun j hj hji => by have := hn j hji; simpa using this, ?_⟩
    by_cases ha : (l.drop (i + 1)).any (meets n lo hi) = true
    · left
      refine ⟨by simp [ha], ?_⟩
      obtain ⟨u, hu, hmu⟩ := List.any_eq_true.1 ha
      obtain ⟨k, hk, rfl⟩ := List.getElem_of_mem hu
      have hk' : i + 1 + k < l.length := by simp at hk; omega
      exact ⟨i + 1 + k, hk', by omega, by simpa using hmu⟩
    · right
      have ha' : (l.drop (i + 1)).any (meets n lo hi) = false := by simpa using ha
      refine ⟨by simp [ha'], fun j hj hij => ?_⟩
      rw [List.any_eq_false] at ha'
      have := ha' (l[j]) (by
        rw [List.mem_iff_getElem]
        exact ⟨j - (i + 1), by simp; omega, by simp [show i + 1 + (j - (i + 1)) = j by omega]⟩)
      simpa using this

theorem not_bad {l : List Us} {n : Nm} {lo hi : Int} (h : sureBad l n lo hi = false) : rows l = true ∧ okN n = true ∧ tm lo = true ∧ tm hi = true ∧ lo ≤ hi := by
  unfold sureBad at h
  simp only [Bool.or_eq_false_iff, Bool.not_eq_false', decide_eq_false_iff_not, Int.not_lt] at h
  exact ⟨h.1.1.1.1, h.1.1.1.2, h.1.1.2, h.1.2, h.2⟩

/-- at one time at most one row has a name -/
theorem only_one {l : List Us} (h : RowsOk l) {n : Nm} {t : Int} {i j : Nat} (hi : i < l.length) (hj : j < l.length) (h1 : meets n t t l[i] = true) (h2 : meets n t t l[j] = true) : i = j := by
  rw [meets_iff] at h1 h2
  have key : ∀ a b : Nat, ∀ (ha : a < l.length) (hb : b < l.length), a < b → l[a].nm = n → l[b].nm = n → t < l[a].fe → l[b].fr ≤ t → False := by
    intro a b ha hb hab e1 e2 h3 h4
    have := List.pairwise_iff_getElem.1 h.disj a b ha hb hab (by rw [e1, e2])
    omega
  rcases Nat.lt_trichotomy i j with h | h | h
  · exact (key i j hi hj h h1.1 h2.1 h1.2.2 h2.2.1).elim
  · exact h
  · exact (key j i hj hi h h2.1 h1.1 h2.2.2 h1.2.1).elim

/-- what Who returns -/
theorem who_cases (l : List Us) (n : Nm) (t : Int) :
    (who l n t = (0, 1) ∧ sureBad l n t t = true) ∨
    (sureBad l n t t = false ∧ who l n t = (0, 4) ∧ ∀ u ∈ l, meets n t t u = false) ∨
    (sureBad l n t t = false ∧ ∃ i : Nat, i < l.length ∧ who l n t = ((i : Int), 0) ∧ ∀ j (hj : j < l.length), meets n t t l[j] = true ↔ j = i) := by
  unfold who
  by_cases hb : sureBad l n t t = true
  · left; exact ⟨sure_bad hb, hb⟩
  · right
    have hb' : sureBad l n t t = false := by simpa using hb
    have hro := rows_iff.1 (not_bad hb').1
    rcases sure_cases hb' with ⟨h1, h2⟩ | ⟨i, hi, hm, hlow, h5⟩
    · left; exact ⟨hb', h1, h2⟩
    · right
      rcases h5 with ⟨_, j, hj, hij, hmj⟩ | ⟨h6, h7⟩
      · exact absurd (only_one hro hi hj hm hmj) (by omega)
      · refine ⟨hb', i, hi, h6, fun j hj => ⟨fun h => only_one hro hj hi h hm, fun h => by subst h; exact hm⟩⟩

/-- who has a name at a time of a span is what Sure returns, unless there are two -/
theorem sure_who {l : List Us} {n : Nm} {t lo hi : Int} {i : Nat} (h : i < l.length) (hm : meets n t t l[i] = true) (h1 : lo ≤ t) (h2 : t ≤ hi) (hb : sureBad l n lo hi = false) : (sure l n lo hi).2 = 5 ∨ sure l n lo hi = ((i : Int), 0) := by
  have hm' : meets n lo hi l[i] = true := by
    rw [meets_iff] at hm ⊢
    exact ⟨hm.1, by omega, by omega⟩
  rcases sure_cases hb with ⟨_, h4⟩ | ⟨k, hk, hmk, hlow, h5⟩
  · have := h4 _ (List.getElem_mem h); rw [hm'] at this; cases this
  · rcases h5 with ⟨h6, _⟩ | ⟨h6, h7⟩
    · left; rw [h6]
    · right
      rcases Nat.lt_trichotomy i k with h8 | h8 | h8
      · have := hlow i h h8; rw [hm'] at this; cases this
      · subst h8; exact h6
      · have := h7 i h h8; rw [hm'] at this; cases this

set_option maxRecDepth 100000 in
set_option maxHeartbeats 4000000 in
theorem who_walk (ao : Option Addr) (m cap : Nat) (l : List Us) (n1 n2 n3 t lo hi : Int) (w : World) (hs : Sl w 5 cU ao m cap l) :
    Calls Try.prog 5 #[.slice ao m cap, .agg #[.int .i64 n1, .int .i64 n2, .int .i64 n3], .int .i64 t, .agg #[.int .i64 lo, .int .i64 hi]] w (Ret w (.bool true)) := by
  obtain rfl := hs.len
  have hcap := hs.max
  have hle := hs.le
  unfold maxLen at hcap
  have HSL := Lib.hid hs
  clear hs
  obtain ⟨W0, hW0, HB_W0, hZ, hn, hp⟩ := boxes2 w [.int .i64 n1, .int .i64 n2, .int .i64 n3] [.int .i64 lo, .int .i64 hi] 23 40
  have H_n := Lib.hid hn
  have H_s := Lib.hid hp
  clear hn hp
  replace HSL := Lib.hid (HSL.out.below HB_W0)
  obtain ⟨q_n_0, q_n_1, q_n_2⟩ := H_n.out.c3
  obtain ⟨q_s_0, q_s_1⟩ := H_s.out.c2
  go_enter Try.func5, Try.ntmps5
  go_wp2_with fail
  refine (head_any _).mono ?_
  rintro e wa ⟨rfl, hb_wa⟩
  have HB_wa : Below w.heap.size w wa := by first | exact after0 HB_W0 hb_wa | exact after1 HB_W0 hb_wa | exact after2 HB_W0 hb_wa | exact after3 HB_W0 hb_wa | exact after4 HB_W0 hb_wa | exact after5 HB_W0 hb_wa
  try clear q_n_0 q_n_1 q_n_2
  have H_n := Lib.hid (Box.below (by first | exact H_n.out | exact H_n.out.alloc _ | exact (H_n.out.alloc _).alloc _ | exact ((H_n.out.alloc _).alloc _).alloc _) hb_wa)
  obtain ⟨q_n_0, q_n_1, q_n_2⟩ := H_n.out.c3
  try clear q_s_0 q_s_1
  have H_s := Lib.hid (Box.below (by first | exact H_s.out | exact H_s.out.alloc _ | exact (H_s.out.alloc _).alloc _ | exact ((H_s.out.alloc _).alloc _).alloc _) hb_wa)
  obtain ⟨q_s_0, q_s_1⟩ := H_s.out.c2
  replace HSL := Lib.hid (show Sl wa _ _ _ _ _ _ by first | exact HSL.out.below hb_wa | exact (HSL.out.below (grew1 (Below.refl _ _))).below hb_wa | exact (HSL.out.below (grew2 (Below.refl _ _))).below hb_wa | exact (HSL.out.below (grew3 (Below.refl _ _))).below hb_wa)
  clear hW0 hZ
  go_wp2_with fail
  refine (who_any _ _ _ l _ _ _ _ _ (by first | exact HSL.out | exact HSL.out.below (grew1 (Below.refl _ _)) | exact HSL.out.below (grew2 (Below.refl _ _)) | exact HSL.out.below (grew3 (Below.refl _ _)))).mono ?_
  rintro e wb ⟨rfl, hb_wb⟩
  have HB_wb : Below w.heap.size w wb := by first | exact after0 HB_wa hb_wb | exact after1 HB_wa hb_wb | exact after2 HB_wa hb_wb | exact after3 HB_wa hb_wb | exact after4 HB_wa hb_wb | exact after5 HB_wa hb_wb
  try clear q_n_0 q_n_1 q_n_2
  have H_n := Lib.hid (Box.below (by first | exact H_n.out | exact H_n.out.alloc _ | exact (H_n.out.alloc _).alloc _ | exact ((H_n.out.alloc _).alloc _).alloc _) hb_wb)
  obtain ⟨q_n_0, q_n_1, q_n_2⟩ := H_n.out.c3
  try clear q_s_0 q_s_1
  have H_s := Lib.hid (Box.below (by first | exact H_s.out | exact H_s.out.alloc _ | exact (H_s.out.alloc _).alloc _ | exact ((H_s.out.alloc _).alloc _).alloc _) hb_wb)
  obtain ⟨q_s_0, q_s_1⟩ := H_s.out.c2
  replace HSL := Lib.hid (show Sl wb _ _ _ _ _ _ by first | exact HSL.out.below hb_wb | exact (HSL.out.below (grew1 (Below.refl _ _))).below hb_wb | exact (HSL.out.below (grew2 (Below.refl _ _))).below hb_wb | exact (HSL.out.below (grew3 (Below.refl _ _))).below hb_wb)
  obtain ⟨y, hy⟩ : ∃ y, who l ⟨n1, n2, n3⟩ t = y := ⟨_, rfl⟩
  have HY := Lib.hid hy
  rw [hy]
  clear hy
  obtain ⟨y1, y2⟩ := y
  dsimp only
  go_wp2_with fail
  refine (sure_any _ _ _ l _ _ _ _ _ _ (by first | exact HSL.out | exact HSL.out.below (grew1 (Below.refl _ _)) | exact HSL.out.below (grew2 (Below.refl _ _)) | exact HSL.out.below (grew3 (Below.refl _ _)))).mono ?_
  rintro e wc ⟨rfl, hb_wc⟩
  have HB_wc : Below w.heap.size w wc := by first | exact after0 HB_wb hb_wc | exact after1 HB_wb hb_wc | exact after2 HB_wb hb_wc | exact after3 HB_wb hb_wc | exact after4 HB_wb hb_wc | exact after5 HB_wb hb_wc
  try clear q_n_0 q_n_1 q_n_2
  have H_n := Lib.hid (Box.below (by first | exact H_n.out | exact H_n.out.alloc _ | exact (H_n.out.alloc _).alloc _ | exact ((H_n.out.alloc _).alloc _).alloc _) hb_wc)
  obtain ⟨q_n_0, q_n_1, q_n_2⟩ := H_n.out.c3
  try clear q_s_0 q_s_1
  have H_s := Lib.hid (Box.below (by first | exact H_s.out | exact H_s.out.alloc _ | exact (H_s.out.alloc _).alloc _ | exact ((H_s.out.alloc _).alloc _).alloc _) hb_wc)
  obtain ⟨q_s_0, q_s_1⟩ := H_s.out.c2
  replace HSL := Lib.hid (show Sl wc _ _ _ _ _ _ by first | exact HSL.out.below hb_wc | exact (HSL.out.below (grew1 (Below.refl _ _))).below hb_wc | exact (HSL.out.below (grew2 (Below.refl _ _))).below hb_wc | exact (HSL.out.below (grew3 (Below.refl _ _))).below hb_wc)
  rw [show sure l ⟨n1, n2, n3⟩ t t = (y1, y2) from HY.out]
  dsimp only
  have HC := Lib.hid (who_cases l ⟨n1, n2, n3⟩ t)
  rw [HY.out] at HC
  rcases HC.out with ⟨he, _⟩ | ⟨hbad, he, hno⟩ | ⟨hbad, i, hi', he, hone⟩
  · simp only [Prod.mk.injEq] at he
    obtain ⟨rfl, rfl⟩ := he
    go_wp2_with fail
    go_ret
    exact ⟨rfl, HB_wc⟩
  · simp only [Prod.mk.injEq] at he
    obtain ⟨rfl, rfl⟩ := he
    go_wp2_with fail
    go_loopw [9, 14, 15] (fun up j has wr => ∃ k : Nat, k ≤ l.length ∧ j = .int .i64 k ∧ up = .bool true ∧ Below w.heap.size w wr ∧ Hid (Sl wr 5 cU ao l.length cap l) ∧ Hid (Box wr w.heap.size 23 [.int .i64 n1, .int .i64 n2, .int .i64 n3]) ∧ Hid (Box wr (w.heap.size + 1) 40 [.int .i64 lo, .int .i64 hi])) (fun up j has wr => l.length - (intOf j).toNat)
    case atStart => exact ⟨0, by omega, rfl, rfl, HB_wc, HSL, H_n, H_s⟩
    case round =>
      clear H_n H_s HSL
      try clear q_n_0 q_n_1 q_n_2 q_s_0 q_s_1
      obtain ⟨k, hk, rfl, rfl, HB_wr, HSLr, H_n, H_s⟩ := hrel
      obtain ⟨q_n_0, q_n_1, q_n_2⟩ := H_n.out.c3
      obtain ⟨q_s_0, q_s_1⟩ := H_s.out.c2
      by_cases hkl : k < l.length
      · have HM := Lib.hid (hno _ (List.getElem_mem hkl))
        obtain ⟨bb, off, rfl, hbb, hrow⟩ := HSLr.out.get hkl
        obtain ⟨e_0, e_1, e_2, e_3, e_4⟩ := (hrow k hkl).c5
        clear hrow
        generalize l[k] = u at *
        obtain ⟨⟨a, b, c⟩, f, g⟩ := u
        dsimp only at e_0 e_1 e_2 e_3 e_4
        by_cases c1 : a = n1
        · by_cases c2 : b = n2
          · by_cases c3 : c = n3
            · by_cases c4 : f ≤ t
              · by_cases c5 : t < g
                · exact (Bool.false_ne_true (HM.out.symm.trans (show meets ⟨n1, n2, n3⟩ t t ⟨⟨a, b, c⟩, f, g⟩ = true from meets_iff.2 ⟨by rw [c1, c2, c3], c4, c5⟩))).elim
                · have c5' : decide (t < g) = false := decide_eq_false c5
                  subst c1 c2 c3
                  go_wp2_with fail
                  have y0 := cell_regrown e_0
                  have y1 := cell_regrown e_1
                  have y2 := cell_regrown e_2
                  have y3 := cell_regrown e_3
                  have y4 := cell_regrown e_4
                  have z0 := cell_regrown q_n_0
                  have z1 := cell_regrown q_n_1
                  have z2 := cell_regrown q_n_2
                  clear e_0 e_1 e_2 e_3 e_4 q_n_0 q_n_1 q_n_2 q_s_0 q_s_1
                  refine wp_region_mix (C := fun w' => ∃ p : Regrown, w' = grow (redrawn wr p.d) p.os) [(0, 0), (1, 0), (2, 0), (3, 0), (4, 0), (5, 0), (6, 0), (7, 0), (8, 0), (9, 0), (10, 0), (11, 0), (12, 0), (13, 0), (14, 0), (15, 0), (16, 0), (17, 0), (18, 0), (19, 0), (20, 0), (21, 0), (22, 0), (23, 0), (24, 0), (25, 0)] 26 (by kernel_rfl) (by kernel_rfl) (grew_drew _) ?_
                  repeat (refine mix_q rfl rfl ?_; first | go_big_quiet_skip | (go_big_quiet_want; go_big_quiet_op; go_big_quiet_on); refine wpQuiet_nil ?_)
                  try refine wpQuiet_nil ?_
                  refine wpMix_nil ?_
                  try simp only [List.drop_succ_cons, List.drop_zero]
                  go_wp2_with fail
                  refine NoPanic.normal ?_
                  go_wp2_with fail
                  go_roundw
                  case rel => exact ⟨k + 1, by omega, by go_num, rfl, HB_wr.drew, Lib.hid (sl_drew HSLr.out), Lib.hid H_n.out.drew, Lib.hid H_s.out.drew⟩
                  case measure => simp [intOf]; omega
              · have c4' : decide (f ≤ t) = false := decide_eq_false c4
                subst c1 c2 c3
                go_wp2_with fail
                have y0 := cell_regrown e_0
                have y1 := cell_regrown e_1
                have y2 := cell_regrown e_2
                have y3 := cell_regrown e_3
                have y4 := cell_regrown e_4
                have z0 := cell_regrown q_n_0
                have z1 := cell_regrown q_n_1
                have z2 := cell_regrown q_n_2
                clear e_0 e_1 e_2 e_3 e_4 q_n_0 q_n_1 q_n_2 q_s_0 q_s_1
                refine wp_region_mix (C := fun w' => ∃ p : Regrown, w' = grow (redrawn wr p.d) p.os) [(0, 0), (1, 0), (2, 0), (3, 0), (4, 0), (5, 0), (6, 0), (7, 0), (8, 0), (9, 0), (10, 0), (11, 0), (12, 0), (13, 0), (14, 0), (15, 0), (16, 0), (17, 0), (18, 0), (19, 0), (20, 0), (21, 0), (22, 0), (23, 0), (24, 0), (25, 0)] 26 (by kernel_rfl) (by kernel_rfl) (grew_drew _) ?_
                repeat (refine mix_q rfl rfl ?_; first | go_big_quiet_skip | (go_big_quiet_want; go_big_quiet_op; go_big_quiet_on); refine wpQuiet_nil ?_)
                try refine wpQuiet_nil ?_
                refine wpMix_nil ?_
                try simp only [List.drop_succ_cons, List.drop_zero]
                go_wp2_with fail
                refine NoPanic.normal ?_
                go_wp2_with fail
                go_roundw
                case rel => exact ⟨k + 1, by omega, by go_num, rfl, HB_wr.drew, Lib.hid (sl_drew HSLr.out), Lib.hid H_n.out.drew, Lib.hid H_s.out.drew⟩
                case measure => simp [intOf]; omega
            · have c3' : (c == n3) = false := beq_eq_false_iff_ne.2 c3
              subst c1 c2
              go_wp2_with fail
              have y0 := cell_regrown e_0
              have y1 := cell_regrown e_1
              have y2 := cell_regrown e_2
              have y3 := cell_regrown e_3
              have y4 := cell_regrown e_4
              have z0 := cell_regrown q_n_0
              have z1 := cell_regrown q_n_1
              have z2 := cell_regrown q_n_2
              clear e_0 e_1 e_2 e_3 e_4 q_n_0 q_n_1 q_n_2 q_s_0 q_s_1
              refine wp_region_mix (C := fun w' => ∃ p : Regrown, w' = grow (redrawn wr p.d) p.os) [(0, 0), (1, 0), (2, 0), (3, 0), (4, 0), (5, 0), (6, 0), (7, 0), (8, 0), (9, 0), (10, 0), (11, 0), (12, 0), (13, 0), (14, 0), (15, 0), (16, 0), (17, 0), (18, 0), (19, 0), (20, 0), (21, 0), (22, 0), (23, 0), (24, 0), (25, 0)] 26 (by kernel_rfl) (by kernel_rfl) (grew_drew _) ?_
              repeat (refine mix_q rfl rfl ?_; first | go_big_quiet_skip | (go_big_quiet_want; go_big_quiet_op; go_big_quiet_on); refine wpQuiet_nil ?_)
              try refine wpQuiet_nil ?_
              refine wpMix_nil ?_
              try simp only [List.drop_succ_cons, List.drop_zero]
              go_wp2_with fail
              refine NoPanic.normal ?_
              go_wp2_with fail
              go_roundw
              case rel => exact ⟨k + 1, by omega, by go_num, rfl, HB_wr.drew, Lib.hid (sl_drew HSLr.out), Lib.hid H_n.out.drew, Lib.hid H_s.out.drew⟩
              case measure => simp [intOf]; omega
          · have c2' : (b == n2) = false := beq_eq_false_iff_ne.2 c2
            subst c1
            go_wp2_with fail
            have y0 := cell_regrown e_0
            have y1 := cell_regrown e_1
            have y2 := cell_regrown e_2
            have y3 := cell_regrown e_3
            have y4 := cell_regrown e_4
            have z0 := cell_regrown q_n_0
            have z1 := cell_regrown q_n_1
            have z2 := cell_regrown q_n_2
            clear e_0 e_1 e_2 e_3 e_4 q_n_0 q_n_1 q_n_2 q_s_0 q_s_1
            refine wp_region_mix (C := fun w' => ∃ p : Regrown, w' = grow (redrawn wr p.d) p.os) [(0, 0), (1, 0), (2, 0), (3, 0), (4, 0), (5, 0), (6, 0), (7, 0), (8, 0), (9, 0), (10, 0), (11, 0), (12, 0), (13, 0), (14, 0), (15, 0), (16, 0), (17, 0), (18, 0), (19, 0), (20, 0), (21, 0), (22, 0), (23, 0), (24, 0), (25, 0)] 26 (by kernel_rfl) (by kernel_rfl) (grew_drew _) ?_
            repeat (refine mix_q rfl rfl ?_; first | go_big_quiet_skip | (go_big_quiet_want; go_big_quiet_op; go_big_quiet_on); refine wpQuiet_nil ?_)
            try refine wpQuiet_nil ?_
            refine wpMix_nil ?_
            try simp only [List.drop_succ_cons, List.drop_zero]
            go_wp2_with fail
            refine NoPanic.normal ?_
            go_wp2_with fail
            go_roundw
            case rel => exact ⟨k + 1, by omega, by go_num, rfl, HB_wr.drew, Lib.hid (sl_drew HSLr.out), Lib.hid H_n.out.drew, Lib.hid H_s.out.drew⟩
            case measure => simp [intOf]; omega
        · have c1' : (a == n1) = false := beq_eq_false_iff_ne.2 c1
          go_wp2_with fail
          have y0 := cell_regrown e_0
          have y1 := cell_regrown e_1
          have y2 := cell_regrown e_2
          have y3 := cell_regrown e_3
          have y4 := cell_regrown e_4
          have z0 := cell_regrown q_n_0
          have z1 := cell_regrown q_n_1
          have z2 := cell_regrown q_n_2
          clear e_0 e_1 e_2 e_3 e_4 q_n_0 q_n_1 q_n_2 q_s_0 q_s_1
          refine wp_region_mix (C := fun w' => ∃ p : Regrown, w' = grow (redrawn wr p.d) p.os) [(0, 0), (1, 0), (2, 0), (3, 0), (4, 0), (5, 0), (6, 0), (7, 0), (8, 0), (9, 0), (10, 0), (11, 0), (12, 0), (13, 0), (14, 0), (15, 0), (16, 0), (17, 0), (18, 0), (19, 0), (20, 0), (21, 0), (22, 0), (23, 0), (24, 0), (25, 0)] 26 (by kernel_rfl) (by kernel_rfl) (grew_drew _) ?_
          repeat (refine mix_q rfl rfl ?_; first | go_big_quiet_skip | (go_big_quiet_want; go_big_quiet_op; go_big_quiet_on); refine wpQuiet_nil ?_)
          try refine wpQuiet_nil ?_
          refine wpMix_nil ?_
          try simp only [List.drop_succ_cons, List.drop_zero]
          go_wp2_with fail
          refine NoPanic.normal ?_
          go_wp2_with fail
          go_roundw
          case rel => exact ⟨k + 1, by omega, by go_num, rfl, HB_wr.drew, Lib.hid (sl_drew HSLr.out), Lib.hid H_n.out.drew, Lib.hid H_s.out.drew⟩
          case measure => simp [intOf]; omega
      · have hkl2 : k = l.length := by omega
        subst hkl2
        go_wp2_with fail
        refine (sure_any _ _ _ l _ _ _ _ _ _ (by first | exact HSLr.out | exact HSLr.out.below (grew1 (Below.refl _ _)) | exact HSLr.out.below (grew2 (Below.refl _ _)) | exact HSLr.out.below (grew3 (Below.refl _ _)))).mono ?_
        rintro e wd ⟨rfl, hb_wd⟩
        have HB_wd : Below w.heap.size w wd := by first | exact after0 HB_wr hb_wd | exact after1 HB_wr hb_wd | exact after2 HB_wr hb_wd | exact after3 HB_wr hb_wd | exact after4 HB_wr hb_wd | exact after5 HB_wr hb_wd
        try clear q_n_0 q_n_1 q_n_2
        have H_n := Lib.hid (Box.below (by first | exact H_n.out | exact H_n.out.alloc _ | exact (H_n.out.alloc _).alloc _ | exact ((H_n.out.alloc _).alloc _).alloc _) hb_wd)
        obtain ⟨q_n_0, q_n_1, q_n_2⟩ := H_n.out.c3
        try clear q_s_0 q_s_1
        have H_s := Lib.hid (Box.below (by first | exact H_s.out | exact H_s.out.alloc _ | exact (H_s.out.alloc _).alloc _ | exact ((H_s.out.alloc _).alloc _).alloc _) hb_wd)
        obtain ⟨q_s_0, q_s_1⟩ := H_s.out.c2
        obtain ⟨z, hz⟩ : ∃ z, sure l ⟨n1, n2, n3⟩ lo hi = z := ⟨_, rfl⟩
        rw [hz]
        obtain ⟨z1, z2⟩ := z
        dsimp only
        clear hz
        go_wp2_with fail
        all_goals
          go_ret
          exact ⟨rfl, HB_wd⟩
  · simp only [Prod.mk.injEq] at he
    obtain ⟨rfl, rfl⟩ := he
    have hii : 0 ≤ (i : Int) := by omega
    have hil : (i : Int) < (l.length : Int) := by omega
    go_wp2_with fail
    go_loopw [9, 14, 15] (fun up j has wr => ∃ k : Nat, k ≤ l.length ∧ j = .int .i64 k ∧ up = .bool true ∧ Below w.heap.size w wr ∧ Hid (Sl wr 5 cU ao l.length cap l) ∧ Hid (Box wr w.heap.size 23 [.int .i64 n1, .int .i64 n2, .int .i64 n3]) ∧ Hid (Box wr (w.heap.size + 1) 40 [.int .i64 lo, .int .i64 hi])) (fun up j has wr => l.length - (intOf j).toNat)
    case atStart => exact ⟨0, by omega, rfl, rfl, HB_wc, HSL, H_n, H_s⟩
    case round =>
      clear H_n H_s HSL
      try clear q_n_0 q_n_1 q_n_2 q_s_0 q_s_1
      obtain ⟨k, hk, rfl, rfl, HB_wr, HSLr, H_n, H_s⟩ := hrel
      obtain ⟨q_n_0, q_n_1, q_n_2⟩ := H_n.out.c3
      obtain ⟨q_s_0, q_s_1⟩ := H_s.out.c2
      by_cases hkl : k < l.length
      · have HM := Lib.hid (hone k hkl)
        obtain ⟨bb, off, rfl, hbb, hrow⟩ := HSLr.out.get hkl
        obtain ⟨e_0, e_1, e_2, e_3, e_4⟩ := (hrow k hkl).c5
        clear hrow
        generalize l[k] = u at *
        obtain ⟨⟨a, b, c⟩, f, g⟩ := u
        dsimp only at e_0 e_1 e_2 e_3 e_4
        by_cases hki : k = i
        · obtain ⟨hnm, hf, hg⟩ := meets_iff.1 (HM.out.2 hki)
          dsimp only at hnm hf hg
          simp only [Nm.mk.injEq] at hnm
          obtain ⟨rfl, rfl, rfl⟩ := hnm
          subst hki
          go_wp2_with fail
          have y0 := cell_regrown e_0
          have y1 := cell_regrown e_1
          have y2 := cell_regrown e_2
          have y3 := cell_regrown e_3
          have y4 := cell_regrown e_4
          have z0 := cell_regrown q_n_0
          have z1 := cell_regrown q_n_1
          have z2 := cell_regrown q_n_2
          clear e_0 e_1 e_2 e_3 e_4 q_n_0 q_n_1 q_n_2 q_s_0 q_s_1
          refine wp_region_mix (C := fun w' => ∃ p : Regrown, w' = grow (redrawn wr p.d) p.os) [(0, 0), (1, 0), (2, 0), (3, 0), (4, 0), (5, 0), (6, 0), (7, 0), (8, 0), (9, 0), (10, 0), (11, 0), (12, 0), (13, 0), (14, 0), (15, 0), (16, 0), (17, 0), (18, 0), (19, 0), (20, 0), (21, 0), (22, 0), (23, 0), (24, 0), (25, 0)] 26 (by kernel_rfl) (by kernel_rfl) (grew_drew _) ?_
          repeat (refine mix_q rfl rfl ?_; first | go_big_quiet_skip | (go_big_quiet_want; go_big_quiet_op; go_big_quiet_on); refine wpQuiet_nil ?_)
          try refine wpQuiet_nil ?_
          refine wpMix_nil ?_
          try simp only [List.drop_succ_cons, List.drop_zero]
          go_wp2_with fail
          refine NoPanic.normal ?_
          go_wp2_with fail
          go_roundw
          case rel => exact ⟨k + 1, by omega, by go_num, rfl, HB_wr.drew, Lib.hid (sl_drew HSLr.out), Lib.hid H_n.out.drew, Lib.hid H_s.out.drew⟩
          case measure => simp [intOf]; omega
        · have hki' : ((i : Int) == (k : Int)) = false := beq_eq_false_iff_ne.2 (by omega)
          by_cases c1 : a = n1
          · by_cases c2 : b = n2
            · by_cases c3 : c = n3
              · by_cases c4 : f ≤ t
                · by_cases c5 : t < g
                  · exact (hki (HM.out.1 (show meets ⟨n1, n2, n3⟩ t t ⟨⟨a, b, c⟩, f, g⟩ = true from meets_iff.2 ⟨by rw [c1, c2, c3], c4, c5⟩))).elim
                  · have c5' : decide (t < g) = false := decide_eq_false c5
                    subst c1 c2 c3
                    go_wp2_with fail
                    have y0 := cell_regrown e_0
                    have y1 := cell_regrown e_1
                    have y2 := cell_regrown e_2
                    have y3 := cell_regrown e_3
                    have y4 := cell_regrown e_4
                    have z0 := cell_regrown q_n_0
                    have z1 := cell_regrown q_n_1
                    have z2 := cell_regrown q_n_2
                    clear e_0 e_1 e_2 e_3 e_4 q_n_0 q_n_1 q_n_2 q_s_0 q_s_1
                    refine wp_region_mix (C := fun w' => ∃ p : Regrown, w' = grow (redrawn wr p.d) p.os) [(0, 0), (1, 0), (2, 0), (3, 0), (4, 0), (5, 0), (6, 0), (7, 0), (8, 0), (9, 0), (10, 0), (11, 0), (12, 0), (13, 0), (14, 0), (15, 0), (16, 0), (17, 0), (18, 0), (19, 0), (20, 0), (21, 0), (22, 0), (23, 0), (24, 0), (25, 0)] 26 (by kernel_rfl) (by kernel_rfl) (grew_drew _) ?_
                    repeat (refine mix_q rfl rfl ?_; first | go_big_quiet_skip | (go_big_quiet_want; go_big_quiet_op; go_big_quiet_on); refine wpQuiet_nil ?_)
                    try refine wpQuiet_nil ?_
                    refine wpMix_nil ?_
                    try simp only [List.drop_succ_cons, List.drop_zero]
                    go_wp2_with fail
                    refine NoPanic.normal ?_
                    go_wp2_with fail
                    go_roundw
                    case rel => exact ⟨k + 1, by omega, by go_num, rfl, HB_wr.drew, Lib.hid (sl_drew HSLr.out), Lib.hid H_n.out.drew, Lib.hid H_s.out.drew⟩
                    case measure => simp [intOf]; omega
                · have c4' : decide (f ≤ t) = false := decide_eq_false c4
                  subst c1 c2 c3
                  go_wp2_with fail
                  have y0 := cell_regrown e_0
                  have y1 := cell_regrown e_1
                  have y2 := cell_regrown e_2
                  have y3 := cell_regrown e_3
                  have y4 := cell_regrown e_4
                  have z0 := cell_regrown q_n_0
                  have z1 := cell_regrown q_n_1
                  have z2 := cell_regrown q_n_2
                  clear e_0 e_1 e_2 e_3 e_4 q_n_0 q_n_1 q_n_2 q_s_0 q_s_1
                  refine wp_region_mix (C := fun w' => ∃ p : Regrown, w' = grow (redrawn wr p.d) p.os) [(0, 0), (1, 0), (2, 0), (3, 0), (4, 0), (5, 0), (6, 0), (7, 0), (8, 0), (9, 0), (10, 0), (11, 0), (12, 0), (13, 0), (14, 0), (15, 0), (16, 0), (17, 0), (18, 0), (19, 0), (20, 0), (21, 0), (22, 0), (23, 0), (24, 0), (25, 0)] 26 (by kernel_rfl) (by kernel_rfl) (grew_drew _) ?_
                  repeat (refine mix_q rfl rfl ?_; first | go_big_quiet_skip | (go_big_quiet_want; go_big_quiet_op; go_big_quiet_on); refine wpQuiet_nil ?_)
                  try refine wpQuiet_nil ?_
                  refine wpMix_nil ?_
                  try simp only [List.drop_succ_cons, List.drop_zero]
                  go_wp2_with fail
                  refine NoPanic.normal ?_
                  go_wp2_with fail
                  go_roundw
                  case rel => exact ⟨k + 1, by omega, by go_num, rfl, HB_wr.drew, Lib.hid (sl_drew HSLr.out), Lib.hid H_n.out.drew, Lib.hid H_s.out.drew⟩
                  case measure => simp [intOf]; omega
              · have c3' : (c == n3) = false := beq_eq_false_iff_ne.2 c3
                subst c1 c2
                go_wp2_with fail
                have y0 := cell_regrown e_0
                have y1 := cell_regrown e_1
                have y2 := cell_regrown e_2
                have y3 := cell_regrown e_3
                have y4 := cell_regrown e_4
                have z0 := cell_regrown q_n_0
                have z1 := cell_regrown q_n_1
                have z2 := cell_regrown q_n_2
                clear e_0 e_1 e_2 e_3 e_4 q_n_0 q_n_1 q_n_2 q_s_0 q_s_1
                refine wp_region_mix (C := fun w' => ∃ p : Regrown, w' = grow (redrawn wr p.d) p.os) [(0, 0), (1, 0), (2, 0), (3, 0), (4, 0), (5, 0), (6, 0), (7, 0), (8, 0), (9, 0), (10, 0), (11, 0), (12, 0), (13, 0), (14, 0), (15, 0), (16, 0), (17, 0), (18, 0), (19, 0), (20, 0), (21, 0), (22, 0), (23, 0), (24, 0), (25, 0)] 26 (by kernel_rfl) (by kernel_rfl) (grew_drew _) ?_
                repeat (refine mix_q rfl rfl ?_; first | go_big_quiet_skip | (go_big_quiet_want; go_big_quiet_op; go_big_quiet_on); refine wpQuiet_nil ?_)
                try refine wpQuiet_nil ?_
                refine wpMix_nil ?_
                try simp only [List.drop_succ_cons, List.drop_zero]
                go_wp2_with fail
                refine NoPanic.normal ?_
                go_wp2_with fail
                go_roundw
                case rel => exact ⟨k + 1, by omega, by go_num, rfl, HB_wr.drew, Lib.hid (sl_drew HSLr.out), Lib.hid H_n.out.drew, Lib.hid H_s.out.drew⟩
                case measure => simp [intOf]; omega
            · have c2' : (b == n2) = false := beq_eq_false_iff_ne.2 c2
              subst c1
              go_wp2_with fail
              have y0 := cell_regrown e_0
              have y1 := cell_regrown e_1
              have y2 := cell_regrown e_2
              have y3 := cell_regrown e_3
              have y4 := cell_regrown e_4
              have z0 := cell_regrown q_n_0
              have z1 := cell_regrown q_n_1
              have z2 := cell_regrown q_n_2
              clear e_0 e_1 e_2 e_3 e_4 q_n_0 q_n_1 q_n_2 q_s_0 q_s_1
              refine wp_region_mix (C := fun w' => ∃ p : Regrown, w' = grow (redrawn wr p.d) p.os) [(0, 0), (1, 0), (2, 0), (3, 0), (4, 0), (5, 0), (6, 0), (7, 0), (8, 0), (9, 0), (10, 0), (11, 0), (12, 0), (13, 0), (14, 0), (15, 0), (16, 0), (17, 0), (18, 0), (19, 0), (20, 0), (21, 0), (22, 0), (23, 0), (24, 0), (25, 0)] 26 (by kernel_rfl) (by kernel_rfl) (grew_drew _) ?_
              repeat (refine mix_q rfl rfl ?_; first | go_big_quiet_skip | (go_big_quiet_want; go_big_quiet_op; go_big_quiet_on); refine wpQuiet_nil ?_)
              try refine wpQuiet_nil ?_
              refine wpMix_nil ?_
              try simp only [List.drop_succ_cons, List.drop_zero]
              go_wp2_with fail
              refine NoPanic.normal ?_
              go_wp2_with fail
              go_roundw
              case rel => exact ⟨k + 1, by omega, by go_num, rfl, HB_wr.drew, Lib.hid (sl_drew HSLr.out), Lib.hid H_n.out.drew, Lib.hid H_s.out.drew⟩
              case measure => simp [intOf]; omega
          · have c1' : (a == n1) = false := beq_eq_false_iff_ne.2 c1
            go_wp2_with fail
            have y0 := cell_regrown e_0
            have y1 := cell_regrown e_1
            have y2 := cell_regrown e_2
            have y3 := cell_regrown e_3
            have y4 := cell_regrown e_4
            have z0 := cell_regrown q_n_0
            have z1 := cell_regrown q_n_1
            have z2 := cell_regrown q_n_2
            clear e_0 e_1 e_2 e_3 e_4 q_n_0 q_n_1 q_n_2 q_s_0 q_s_1
            refine wp_region_mix (C := fun w' => ∃ p : Regrown, w' = grow (redrawn wr p.d) p.os) [(0, 0), (1, 0), (2, 0), (3, 0), (4, 0), (5, 0), (6, 0), (7, 0), (8, 0), (9, 0), (10, 0), (11, 0), (12, 0), (13, 0), (14, 0), (15, 0), (16, 0), (17, 0), (18, 0), (19, 0), (20, 0), (21, 0), (22, 0), (23, 0), (24, 0), (25, 0)] 26 (by kernel_rfl) (by kernel_rfl) (grew_drew _) ?_
            repeat (refine mix_q rfl rfl ?_; first | go_big_quiet_skip | (go_big_quiet_want; go_big_quiet_op; go_big_quiet_on); refine wpQuiet_nil ?_)
            try refine wpQuiet_nil ?_
            refine wpMix_nil ?_
            try simp only [List.drop_succ_cons, List.drop_zero]
            go_wp2_with fail
            refine NoPanic.normal ?_
            go_wp2_with fail
            go_roundw
            case rel => exact ⟨k + 1, by omega, by go_num, rfl, HB_wr.drew, Lib.hid (sl_drew HSLr.out), Lib.hid H_n.out.drew, Lib.hid H_s.out.drew⟩
            case measure => simp [intOf]; omega
      · have hkl2 : k = l.length := by omega
        subst hkl2
        go_wp2_with fail
        refine (sure_any _ _ _ l _ _ _ _ _ _ (by first | exact HSLr.out | exact HSLr.out.below (grew1 (Below.refl _ _)) | exact HSLr.out.below (grew2 (Below.refl _ _)) | exact HSLr.out.below (grew3 (Below.refl _ _)))).mono ?_
        rintro e wd ⟨rfl, hb_wd⟩
        have HB_wd : Below w.heap.size w wd := by first | exact after0 HB_wr hb_wd | exact after1 HB_wr hb_wd | exact after2 HB_wr hb_wd | exact after3 HB_wr hb_wd | exact after4 HB_wr hb_wd | exact after5 HB_wr hb_wd
        try clear q_n_0 q_n_1 q_n_2
        have H_n := Lib.hid (Box.below (by first | exact H_n.out | exact H_n.out.alloc _ | exact (H_n.out.alloc _).alloc _ | exact ((H_n.out.alloc _).alloc _).alloc _) hb_wd)
        obtain ⟨q_n_0, q_n_1, q_n_2⟩ := H_n.out.c3
        try clear q_s_0 q_s_1
        have H_s := Lib.hid (Box.below (by first | exact H_s.out | exact H_s.out.alloc _ | exact (H_s.out.alloc _).alloc _ | exact ((H_s.out.alloc _).alloc _).alloc _) hb_wd)
        obtain ⟨q_s_0, q_s_1⟩ := H_s.out.c2
        by_cases hb2 : sureBad l ⟨n1, n2, n3⟩ lo hi = true
        · rw [sure_bad hb2]
          dsimp only
          go_wp2_with fail
          go_ret
          exact ⟨rfl, HB_wd⟩
        · have hb2' : sureBad l ⟨n1, n2, n3⟩ lo hi = false := by simpa using hb2
          by_cases g1 : t < lo
          · obtain ⟨z, hz⟩ : ∃ z, sure l ⟨n1, n2, n3⟩ lo hi = z := ⟨_, rfl⟩
            rw [hz]
            obtain ⟨z1, z2⟩ := z
            dsimp only
            clear hz
            go_wp2_with fail
            all_goals
              go_ret
              exact ⟨rfl, HB_wd⟩
          · by_cases g2 : hi < t
            · obtain ⟨z, hz⟩ : ∃ z, sure l ⟨n1, n2, n3⟩ lo hi = z := ⟨_, rfl⟩
              rw [hz]
              obtain ⟨z1, z2⟩ := z
              dsimp only
              clear hz
              go_wp2_with fail
              all_goals
                go_ret
                exact ⟨rfl, HB_wd⟩
            · have hw := sure_who hi' ((hone i hi').2 rfl) (by omega : lo ≤ t) (by omega : t ≤ hi) hb2'
              rcases hw with hw | hw
              · obtain ⟨z, hz⟩ : ∃ z, sure l ⟨n1, n2, n3⟩ lo hi = z := ⟨_, rfl⟩
                rw [hz] at hw ⊢
                obtain ⟨z1, z2⟩ := z
                dsimp only at hw
                subst hw
                dsimp only
                clear hz
                go_wp2_with fail
                go_ret
                exact ⟨rfl, HB_wd⟩
              · rw [hw]
                dsimp only
                clear hw
                go_wp2_with fail
                go_ret
                exact ⟨rfl, HB_wd⟩
end Go.Proofs.Ytecnbfgacojpjaa
