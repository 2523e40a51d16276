/-
  The walk of 'NumberTaken'.
-/
import Derived.Test.YtecnbfgacojpjaaNumT
import Derived.Test.YtecnbfgacojpjaaNumP
namespace Go.Proofs.Ytecnbfgacojpjaa
open Go.RowKit Nb Sk Go.Sort

/-- Take beside Next -/
theorem take_next (l : List Us) (st kd now free : Int) :
    (∃ e, take l st kd now free = ([], zeroN, e) ∧ e ≠ 0 ∧ ((next l st kd now).2 ≠ 0 ∨ (e = 2 ∧ l.length = 200) ∨ (e = 1 ∧ (free ≤ now ∨ 10000000 < free)))) ∨
    (∃ x, take l st kd now free = (l ++ [⟨x, now, free⟩], x, 0) ∧ next l st kd now = (x, 0) ∧ RowsOk (l ++ [⟨x, now, free⟩]) ∧ now < free ∧ free ≤ 10000000 ∧ 0 ≤ now ∧
      who l x now = (0, 4) ∧ who (l ++ [⟨x, now, free⟩]) x now = ((l.length : Int), 0) ∧ who (l ++ [⟨x, now, free⟩]) x (free - 1) = ((l.length : Int), 0) ∧ who (l ++ [⟨x, now, free⟩]) x free = (0, 4)) := by
  by_cases h1 : (next l st kd now).2 = 1 ∨ free ≤ now ∨ tm free = false
  · left
    refine ⟨1, take_arg rfl h1, by simp, ?_⟩
    by_cases h0 : (next l st kd now).2 = 0
    · right; right
      refine ⟨rfl, ?_⟩
      rcases h1 with h1 | h1 | h1
      · omega
      · exact .inl h1
      · by_cases ha : asked l st kd now = 0
        · have hn := tm_iff.1 (asked_zero ha).2.2.1
          unfold tm at h1
          have := of_decide_eq_false h1
          omega
        · rw [next_err ha] at h0; exact absurd h0 ha
    · exact .inl h0
  · by_cases h2 : 200 ≤ l.length
    · left
      refine ⟨2, take_limit rfl h1 h2, by simp, ?_⟩
      by_cases h0 : (next l st kd now).2 = 0
      · right; left
        refine ⟨rfl, ?_⟩
        by_cases ha : asked l st kd now = 0
        · have := (rows_iff.1 (asked_zero ha).1).len; omega
        · rw [next_err ha] at h0; exact absurd h0 ha
      · exact .inl h0
    · by_cases h3 : (next l st kd now).2 = 0
      · right
        rcases take_cases l st kd now free with ⟨e, he, he0⟩ | ⟨x, ht, hn, ha, hnf, htf, hlen, r, hf⟩
        · rw [take_ok rfl h1 h2 h3] at he
          simp at he
        · obtain ⟨g1, g2, g3, g4⟩ := asked_zero ha
          have HRO := rows_iff.1 g1
          obtain ⟨m1, m2, m3, m4, hu⟩ := frees_mem HRO hf
          have g2' := okN_iff.1 g2
          dsimp only at g2'
          have hx : okN x = true := okN_iff.2 ⟨by omega, by omega, by omega, by omega, m3, m4⟩
          have HM := more_rows HRO hlen hx g3 hnf htf g4 hu
          have hn1 := tm_iff.1 g3
          have hf1 := tm_iff.1 htf
          have hr2 := rows_iff.2 HM
          have hall : ∀ u ∈ l, u.nm = x → u.fe ≤ now := by
            intro u hu' hux
            obtain ⟨i, hi, rfl⟩ := List.getElem_of_mem hu'
            have := List.pairwise_iff_getElem.1 HM.disj i l.length (by simp; omega) (by simp) (by omega)
            simp only [List.getElem_append_left hi, List.getElem_append_right (Nat.le_refl _), Nat.sub_self, List.getElem_cons_zero] at this
            exact this hux
          have hsome : ∀ t, now ≤ t → t < free → who (l ++ [⟨x, now, free⟩]) x t = ((l.length : Int), 0) := by
            intro t h1 h2
            have htt : tm t = true := tm_iff.2 ⟨by omega, by omega⟩
            rcases who_cases (l ++ [⟨x, now, free⟩]) x t with ⟨_, hb⟩ | ⟨_, _, hno⟩ | ⟨_, i, hi, he, hone⟩
            · simp [sureBad, hr2, hx, htt] at hb
            · have := hno ⟨x, now, free⟩ (by simp)
              rw [show meets x t t ⟨x, now, free⟩ = true from meets_iff.2 ⟨rfl, h1, h2⟩] at this; cases this
            · have := (hone l.length (by simp)).1 (by simp [meets_iff, h1, h2])
              rw [he, ← this]
          refine ⟨x, ht, hn, HM, hnf, hf1.2, hn1.1, ?_, hsome now (Int.le_refl _) hnf, hsome (free - 1) (by omega) (by omega), ?_⟩
          · rcases who_cases l x now with ⟨_, hb⟩ | ⟨_, he, _⟩ | ⟨_, i, hi, he, hone⟩
            · simp [sureBad, g1, hx, g3] at hb
            · exact he
            · have := meets_iff.1 ((hone i hi).2 rfl)
              have h5 := hall _ (List.getElem_mem hi) this.1
              omega
          · rcases who_cases (l ++ [⟨x, now, free⟩]) x free with ⟨_, hb⟩ | ⟨_, he, _⟩ | ⟨_, i, hi, he, hone⟩
            · simp [sureBad, hr2, hx, htf] at hb
            · exact he
            · exfalso
              have hm := meets_iff.1 ((hone i hi).2 rfl)
              rcases Nat.lt_or_ge i l.length with h | h
              · rw [List.getElem_append_left h] at hm
                have h5 := hall _ (List.getElem_mem h) hm.1
                omega
              · have hil : i = l.length := by simp at hi; omega
                subst hil
                simp at hm
      · left
        exact ⟨_, take_err rfl h1 h2 h3, h3, .inl h3⟩

set_option maxRecDepth 100000 in
set_option maxHeartbeats 4000000 in
theorem taken_walk (ao : Option Addr) (m cap : Nat) (l : List Us) (st kd now free : Int) (w : World) (hs : Sl w 5 cU ao m cap l) :
    Calls Try.prog 9 #[.slice ao m cap, .int .i64 st, .int .i64 kd, .int .i64 now, .int .i64 free] w (Ret w (.bool true)) := by
  obtain rfl := hs.len
  have hcap := hs.max
  have hle := hs.le
  unfold maxLen at hcap
  have HSL := Lib.hid hs
  clear hs
  have HB_w : Below w.heap.size w w := Below.refl _ _
  go_enter Try.func9, Try.ntmps9
  go_wp2_with fail
  refine (head_any _).mono ?_
  rintro e wa ⟨rfl, hb_wa⟩
  have HB_wa : Below w.heap.size w wa := by first | exact after0 HB_w hb_wa | exact after1 HB_w hb_wa | exact after2 HB_w hb_wa | exact after3 HB_w hb_wa | exact after4 HB_w hb_wa | exact after5 HB_w hb_wa
  replace HSL := Lib.hid (show Sl wa _ _ _ _ _ _ by first | exact HSL.out.below hb_wa | exact (HSL.out.below (grew1 (Below.refl _ _))).below hb_wa | exact (HSL.out.below (grew2 (Below.refl _ _))).below hb_wa | exact (HSL.out.below (grew3 (Below.refl _ _))).below hb_wa)
  go_wp2_with fail
  have HT := Lib.hid (take_next l st kd now free)
  refine (take_any _ _ _ l st kd now free _ (by first | exact HSL.out | exact HSL.out.below (grew1 (Below.refl _ _)) | exact HSL.out.below (grew2 (Below.refl _ _)) | exact HSL.out.below (grew3 (Below.refl _ _)))).mono ?_
  rintro e wb ⟨ao', n', cap', rfl, hsl', _, hb_wb⟩
  have HB_wb : Below w.heap.size w wb := after0 HB_wa hb_wb
  replace HSL := Lib.hid (HSL.out.below hb_wb)
  rcases HT.out with ⟨e, ht, he, hn⟩ | ⟨x, ht, hn, HM, hnf, hfm, hn0, w1, w2, w3, w4⟩
  · rw [ht] at hsl' ⊢
    dsimp only [zeroN] at hsl' ⊢
    have he' : (e == 0) = false := beq_eq_false_iff_ne.2 he
    have hl' := hsl'.len
    simp only [List.length_nil] at hl'
    subst hl'
    clear ht hsl' hb_wb he HT
    go_wp2_with fail
    refine (next_any _ _ _ l _ _ _ _ (by first | exact HSL.out | exact HSL.out.below (grew1 (Below.refl _ _)) | exact HSL.out.below (grew2 (Below.refl _ _)) | exact HSL.out.below (grew3 (Below.refl _ _)))).mono ?_
    rintro e wc ⟨rfl, hb_wc⟩
    have HB_wc : Below w.heap.size w wc := by first | exact after0 HB_wb hb_wc | exact after1 HB_wb hb_wc | exact after2 HB_wb hb_wc | exact after3 HB_wb hb_wc | exact after4 HB_wb hb_wc | exact after5 HB_wb hb_wc
    replace HSL := Lib.hid (show Sl wc _ _ _ _ _ _ by first | exact HSL.out.below hb_wc | exact (HSL.out.below (grew1 (Below.refl _ _))).below hb_wc | exact (HSL.out.below (grew2 (Below.refl _ _))).below hb_wc | exact (HSL.out.below (grew3 (Below.refl _ _))).below hb_wc)
    obtain ⟨⟨⟨y1, y2, y3⟩, y4⟩, hy⟩ : ∃ y, next l st kd now = y := ⟨_, rfl⟩
    rw [hy] at hn ⊢
    dsimp only at hn ⊢
    clear hy
    rcases hn with h1 | ⟨rfl, h1⟩ | ⟨rfl, h1⟩
    · have h1' : (y4 == 0) = false := beq_eq_false_iff_ne.2 h1
      have h1'' : (y4 != 0) = true := bne_iff_ne.2 h1
      clear h1
      go_wp2_with fail
      all_goals
        go_ret
        exact ⟨rfl, by first | exact HB_wc | exact grew1 HB_wc | exact grew2 HB_wc⟩
    all_goals
      rcases Classical.em (y4 = 0) with h2 | h2
      case' inl =>
        subst h2
      case' inr =>
        have h2' : (y4 == 0) = false := beq_eq_false_iff_ne.2 h2
        have h2'' : (y4 != 0) = true := bne_iff_ne.2 h2
        clear h2
    · have h1' : ((l.length : Int) == 200) = true := by rw [h1]; rfl
      clear h1
      go_wp2_with fail
      all_goals
        go_ret
        exact ⟨rfl, by first | exact HB_wc | exact grew1 HB_wc | exact grew2 HB_wc⟩
    · have h1' : ((l.length : Int) == 200) = true := by rw [h1]; rfl
      clear h1
      go_wp2_with fail
      all_goals
        go_ret
        exact ⟨rfl, by first | exact HB_wc | exact grew1 HB_wc | exact grew2 HB_wc⟩
    all_goals
      rcases Int.lt_or_le now free with h3 | h3
      case' inl =>
        have h4 : 10000000 < free := by omega
        clear h1
      case' inr =>
        clear h1
    all_goals
      go_wp2_with fail
      all_goals
        go_ret
        exact ⟨rfl, by first | exact HB_wc | exact grew1 HB_wc | exact grew2 HB_wc⟩
  · obtain ⟨x1, x2, x3⟩ := x
    have HN := Lib.hid hn
    have HROW := Lib.hid (rows_iff.2 HM)
    have HW1 := Lib.hid w1
    have HW2 := Lib.hid w2
    have HW3 := Lib.hid w3
    have HW4 := Lib.hid w4
    have HL200 := HM.len
    simp only [List.length_append, List.length_cons, List.length_nil] at HL200
    rw [ht] at hsl' ⊢
    dsimp only at hsl' ⊢
    obtain rfl : n' = l.length + 1 := by have := hsl'.len; simp at this; omega
    have HSL2 := Lib.hid hsl'
    have hcap' := hsl'.max
    have hle' := hsl'.le
    unfold maxLen at hcap'
    simp only [List.length_append, List.length_cons, List.length_nil] at hle'
    clear hsl' hb_wb ht hn HM HT w1 w2 w3 w4
    obtain ⟨W1, hW1, hB1, hZ1, hb1⟩ := boxes1 wb [.int .i64 x1, .int .i64 x2, .int .i64 x3] 23
    obtain ⟨NA, hNA⟩ : ∃ N, wb.heap.size = N := ⟨_, rfl⟩
    rw [hNA] at hb1
    have H_a := Lib.hid hb1
    have HB_W1 : Below w.heap.size w W1 := after0 HB_wb hB1
    replace HSL := Lib.hid (HSL.out.below hB1)
    replace HSL2 := Lib.hid (HSL2.out.below hB1)
    clear hb1 hB1 hZ1
    go_wp2_with fail
    refine (next_any _ _ _ l _ _ _ _ (by first | exact HSL.out | exact HSL.out.below (grew1 (Below.refl _ _)) | exact HSL.out.below (grew2 (Below.refl _ _)) | exact HSL.out.below (grew3 (Below.refl _ _)))).mono ?_
    rintro e wc ⟨rfl, hb_wc⟩
    have HB_wc : Below w.heap.size w wc := by first | exact after0 HB_W1 hb_wc | exact after1 HB_W1 hb_wc | exact after2 HB_W1 hb_wc | exact after3 HB_W1 hb_wc | exact after4 HB_W1 hb_wc | exact after5 HB_W1 hb_wc
    try clear q_a_0 q_a_1 q_a_2
    have H_a := Lib.hid (Box.below (by first | exact H_a.out | exact H_a.out.alloc _ | exact (H_a.out.alloc _).alloc _ | exact ((H_a.out.alloc _).alloc _).alloc _) hb_wc)
    obtain ⟨q_a_0, q_a_1, q_a_2⟩ := H_a.out.c3
    replace HSL := Lib.hid (show Sl wc _ _ _ _ _ _ by first | exact HSL.out.below hb_wc | exact (HSL.out.below (grew1 (Below.refl _ _))).below hb_wc | exact (HSL.out.below (grew2 (Below.refl _ _))).below hb_wc | exact (HSL.out.below (grew3 (Below.refl _ _))).below hb_wc)
    replace HSL2 := Lib.hid (show Sl wc _ _ _ _ _ _ by first | exact HSL2.out.below hb_wc | exact (HSL2.out.below (grew1 (Below.refl _ _))).below hb_wc | exact (HSL2.out.below (grew2 (Below.refl _ _))).below hb_wc | exact (HSL2.out.below (grew3 (Below.refl _ _))).below hb_wc)
    clear hW1 hNA
    rw [HN.out]
    dsimp only
    obtain ⟨W2, hW2, hB2, hZ2, hb2⟩ := boxes1 wc [.int .i64 x1, .int .i64 x2, .int .i64 x3] 23
    obtain ⟨NB, hNB⟩ : ∃ N, wc.heap.size = N := ⟨_, rfl⟩
    rw [hNB] at hb2
    have H_b := Lib.hid hb2
    have HB_W2 : Below w.heap.size w W2 := after0 HB_wc hB2
    replace HSL := Lib.hid (HSL.out.below hB2)
    replace HSL2 := Lib.hid (HSL2.out.below hB2)
    replace H_a := Lib.hid (H_a.out.below hB2)
    clear hb2 hB2 hZ2
    obtain ⟨q_a_0, q_a_1, q_a_2⟩ := H_a.out.c3
    obtain ⟨q_b_0, q_b_1, q_b_2⟩ := H_b.out.c3
    obtain ⟨bb, off, rfl, hbb, hrow⟩ := HSL2.out.get (i := l.length) (by simp)
    clear hrow
    go_wp2_with fail
    have HTK := Lib.hid (show Sl W2 5 cU (some ⟨bb, off, none⟩) l.length cap' l by
      have := HSL2.out.take (n := l.length) (by simp)
      simpa using this)
    refine (rsame_any _ _ _ _ _ _ l l _ HTK.out (by first | exact HSL.out | exact HSL.out.below (grew1 (Below.refl _ _)) | exact HSL.out.below (grew2 (Below.refl _ _)) | exact HSL.out.below (grew3 (Below.refl _ _)))).mono ?_
    rintro e wd ⟨rfl, hb_wd⟩
    have HB_wd : Below w.heap.size w wd := by first | exact after0 HB_W2 hb_wd | exact after1 HB_W2 hb_wd | exact after2 HB_W2 hb_wd | exact after3 HB_W2 hb_wd | exact after4 HB_W2 hb_wd | exact after5 HB_W2 hb_wd
    try clear q_a_0 q_a_1 q_a_2
    have H_a := Lib.hid (Box.below (by first | exact H_a.out | exact H_a.out.alloc _ | exact (H_a.out.alloc _).alloc _ | exact ((H_a.out.alloc _).alloc _).alloc _) hb_wd)
    obtain ⟨q_a_0, q_a_1, q_a_2⟩ := H_a.out.c3
    try clear q_b_0 q_b_1 q_b_2
    have H_b := Lib.hid (Box.below (by first | exact H_b.out | exact H_b.out.alloc _ | exact (H_b.out.alloc _).alloc _ | exact ((H_b.out.alloc _).alloc _).alloc _) hb_wd)
    obtain ⟨q_b_0, q_b_1, q_b_2⟩ := H_b.out.c3
    replace HSL := Lib.hid (show Sl wd _ _ _ _ _ _ by first | exact HSL.out.below hb_wd | exact (HSL.out.below (grew1 (Below.refl _ _))).below hb_wd | exact (HSL.out.below (grew2 (Below.refl _ _))).below hb_wd | exact (HSL.out.below (grew3 (Below.refl _ _))).below hb_wd)
    replace HSL2 := Lib.hid (show Sl wd _ _ _ _ _ _ by first | exact HSL2.out.below hb_wd | exact (HSL2.out.below (grew1 (Below.refl _ _))).below hb_wd | exact (HSL2.out.below (grew2 (Below.refl _ _))).below hb_wd | exact (HSL2.out.below (grew3 (Below.refl _ _))).below hb_wd)
    rw [show decide (l = l) = true by simp]
    clear hW2 hNB HTK
    go_wp2_with fail
    refine (who_any _ _ _ l _ _ _ _ _ (by first | exact HSL.out | exact HSL.out.below (grew1 (Below.refl _ _)) | exact HSL.out.below (grew2 (Below.refl _ _)) | exact HSL.out.below (grew3 (Below.refl _ _)))).mono ?_
    rintro e we ⟨rfl, hb_we⟩
    have HB_we : Below w.heap.size w we := by first | exact after0 HB_wd hb_we | exact after1 HB_wd hb_we | exact after2 HB_wd hb_we | exact after3 HB_wd hb_we | exact after4 HB_wd hb_we | exact after5 HB_wd hb_we
    try clear q_a_0 q_a_1 q_a_2
    have H_a := Lib.hid (Box.below (by first | exact H_a.out | exact H_a.out.alloc _ | exact (H_a.out.alloc _).alloc _ | exact ((H_a.out.alloc _).alloc _).alloc _) hb_we)
    obtain ⟨q_a_0, q_a_1, q_a_2⟩ := H_a.out.c3
    try clear q_b_0 q_b_1 q_b_2
    have H_b := Lib.hid (Box.below (by first | exact H_b.out | exact H_b.out.alloc _ | exact (H_b.out.alloc _).alloc _ | exact ((H_b.out.alloc _).alloc _).alloc _) hb_we)
    obtain ⟨q_b_0, q_b_1, q_b_2⟩ := H_b.out.c3
    replace HSL := Lib.hid (show Sl we _ _ _ _ _ _ by first | exact HSL.out.below hb_we | exact (HSL.out.below (grew1 (Below.refl _ _))).below hb_we | exact (HSL.out.below (grew2 (Below.refl _ _))).below hb_we | exact (HSL.out.below (grew3 (Below.refl _ _))).below hb_we)
    replace HSL2 := Lib.hid (show Sl we _ _ _ _ _ _ by first | exact HSL2.out.below hb_we | exact (HSL2.out.below (grew1 (Below.refl _ _))).below hb_we | exact (HSL2.out.below (grew2 (Below.refl _ _))).below hb_we | exact (HSL2.out.below (grew3 (Below.refl _ _))).below hb_we)
    rw [HW1.out]
    dsimp only
    go_wp2_with fail
    refine (who_any _ _ _ (l ++ [⟨⟨x1, x2, x3⟩, now, free⟩]) _ _ _ _ _ (by first | exact HSL2.out | exact HSL2.out.below (grew1 (Below.refl _ _)) | exact HSL2.out.below (grew2 (Below.refl _ _)) | exact HSL2.out.below (grew3 (Below.refl _ _)))).mono ?_
    rintro e wf ⟨rfl, hb_wf⟩
    have HB_wf : Below w.heap.size w wf := by first | exact after0 HB_we hb_wf | exact after1 HB_we hb_wf | exact after2 HB_we hb_wf | exact after3 HB_we hb_wf | exact after4 HB_we hb_wf | exact after5 HB_we hb_wf
    try clear q_a_0 q_a_1 q_a_2
    have H_a := Lib.hid (Box.below (by first | exact H_a.out | exact H_a.out.alloc _ | exact (H_a.out.alloc _).alloc _ | exact ((H_a.out.alloc _).alloc _).alloc _) hb_wf)
    obtain ⟨q_a_0, q_a_1, q_a_2⟩ := H_a.out.c3
    try clear q_b_0 q_b_1 q_b_2
    have H_b := Lib.hid (Box.below (by first | exact H_b.out | exact H_b.out.alloc _ | exact (H_b.out.alloc _).alloc _ | exact ((H_b.out.alloc _).alloc _).alloc _) hb_wf)
    obtain ⟨q_b_0, q_b_1, q_b_2⟩ := H_b.out.c3
    replace HSL := Lib.hid (show Sl wf _ _ _ _ _ _ by first | exact HSL.out.below hb_wf | exact (HSL.out.below (grew1 (Below.refl _ _))).below hb_wf | exact (HSL.out.below (grew2 (Below.refl _ _))).below hb_wf | exact (HSL.out.below (grew3 (Below.refl _ _))).below hb_wf)
    replace HSL2 := Lib.hid (show Sl wf _ _ _ _ _ _ by first | exact HSL2.out.below hb_wf | exact (HSL2.out.below (grew1 (Below.refl _ _))).below hb_wf | exact (HSL2.out.below (grew2 (Below.refl _ _))).below hb_wf | exact (HSL2.out.below (grew3 (Below.refl _ _))).below hb_wf)
    rw [HW2.out]
    dsimp only
    go_wp2_with fail
    refine (who_any _ _ _ (l ++ [⟨⟨x1, x2, x3⟩, now, free⟩]) _ _ _ _ _ (by first | exact HSL2.out | exact HSL2.out.below (grew1 (Below.refl _ _)) | exact HSL2.out.below (grew2 (Below.refl _ _)) | exact HSL2.out.below (grew3 (Below.refl _ _)))).mono ?_
    rintro e wg ⟨rfl, hb_wg⟩
    have HB_wg : Below w.heap.size w wg := by first | exact after0 HB_wf hb_wg | exact after1 HB_wf hb_wg | exact after2 HB_wf hb_wg | exact after3 HB_wf hb_wg | exact after4 HB_wf hb_wg | exact after5 HB_wf hb_wg
    try clear q_a_0 q_a_1 q_a_2
    have H_a := Lib.hid (Box.below (by first | exact H_a.out | exact H_a.out.alloc _ | exact (H_a.out.alloc _).alloc _ | exact ((H_a.out.alloc _).alloc _).alloc _) hb_wg)
    obtain ⟨q_a_0, q_a_1, q_a_2⟩ := H_a.out.c3
    try clear q_b_0 q_b_1 q_b_2
    have H_b := Lib.hid (Box.below (by first | exact H_b.out | exact H_b.out.alloc _ | exact (H_b.out.alloc _).alloc _ | exact ((H_b.out.alloc _).alloc _).alloc _) hb_wg)
    obtain ⟨q_b_0, q_b_1, q_b_2⟩ := H_b.out.c3
    replace HSL := Lib.hid (show Sl wg _ _ _ _ _ _ by first | exact HSL.out.below hb_wg | exact (HSL.out.below (grew1 (Below.refl _ _))).below hb_wg | exact (HSL.out.below (grew2 (Below.refl _ _))).below hb_wg | exact (HSL.out.below (grew3 (Below.refl _ _))).below hb_wg)
    replace HSL2 := Lib.hid (show Sl wg _ _ _ _ _ _ by first | exact HSL2.out.below hb_wg | exact (HSL2.out.below (grew1 (Below.refl _ _))).below hb_wg | exact (HSL2.out.below (grew2 (Below.refl _ _))).below hb_wg | exact (HSL2.out.below (grew3 (Below.refl _ _))).below hb_wg)
    rw [HW3.out]
    dsimp only
    go_wp2_with fail
    refine (who_any _ _ _ (l ++ [⟨⟨x1, x2, x3⟩, now, free⟩]) _ _ _ _ _ (by first | exact HSL2.out | exact HSL2.out.below (grew1 (Below.refl _ _)) | exact HSL2.out.below (grew2 (Below.refl _ _)) | exact HSL2.out.below (grew3 (Below.refl _ _)))).mono ?_
    rintro e wh ⟨rfl, hb_wh⟩
    have HB_wh : Below w.heap.size w wh := by first | exact after0 HB_wg hb_wh | exact after1 HB_wg hb_wh | exact after2 HB_wg hb_wh | exact after3 HB_wg hb_wh | exact after4 HB_wg hb_wh | exact after5 HB_wg hb_wh
    try clear q_a_0 q_a_1 q_a_2
    have H_a := Lib.hid (Box.below (by first | exact H_a.out | exact H_a.out.alloc _ | exact (H_a.out.alloc _).alloc _ | exact ((H_a.out.alloc _).alloc _).alloc _) hb_wh)
    obtain ⟨q_a_0, q_a_1, q_a_2⟩ := H_a.out.c3
    try clear q_b_0 q_b_1 q_b_2
    have H_b := Lib.hid (Box.below (by first | exact H_b.out | exact H_b.out.alloc _ | exact (H_b.out.alloc _).alloc _ | exact ((H_b.out.alloc _).alloc _).alloc _) hb_wh)
    obtain ⟨q_b_0, q_b_1, q_b_2⟩ := H_b.out.c3
    replace HSL := Lib.hid (show Sl wh _ _ _ _ _ _ by first | exact HSL.out.below hb_wh | exact (HSL.out.below (grew1 (Below.refl _ _))).below hb_wh | exact (HSL.out.below (grew2 (Below.refl _ _))).below hb_wh | exact (HSL.out.below (grew3 (Below.refl _ _))).below hb_wh)
    replace HSL2 := Lib.hid (show Sl wh _ _ _ _ _ _ by first | exact HSL2.out.below hb_wh | exact (HSL2.out.below (grew1 (Below.refl _ _))).below hb_wh | exact (HSL2.out.below (grew2 (Below.refl _ _))).below hb_wh | exact (HSL2.out.below (grew3 (Below.refl _ _))).below hb_wh)
    rw [HW4.out]
    dsimp only
    obtain ⟨bb2, off2, e2, hb2, hrow⟩ := HSL2.out.get (i := l.length) (by simp)
    simp only [Option.some.injEq, Addr.mk.injEq] at e2
    obtain ⟨rfl, rfl, _⟩ := e2
    have hcl : Cells wh bb (off + l.length * 5) (cU ⟨⟨x1, x2, x3⟩, now, free⟩) := by
      have := hrow l.length (by simp)
      simpa using this
    obtain ⟨e_0, e_1, e_2, e_3, e_4⟩ := hcl.c5
    clear hrow hcl
    go_wp2_with fail
    have HR1 := Lib.hid (show ∀ W, Below wh.heap.size wh W → Calls Try.prog 20 #[.slice (some ⟨bb, off, none⟩) (l.length + 1) cap'] W (Ret W (.bool true)) from fun W hW => by
      have := rows_any _ _ _ (l ++ [⟨⟨x1, x2, x3⟩, now, free⟩]) W (HSL2.out.below hW)
      rwa [HROW.out] at this)
    have y_e_0 := cell_regrown e_0
    have y_e_1 := cell_regrown e_1
    have y_e_2 := cell_regrown e_2
    have y_e_3 := cell_regrown e_3
    have y_e_4 := cell_regrown e_4
    clear e_0 e_1 e_2 e_3 e_4
    have y_q_a_0 := cell_regrown q_a_0
    have y_q_a_1 := cell_regrown q_a_1
    have y_q_a_2 := cell_regrown q_a_2
    clear q_a_0 q_a_1 q_a_2
    have y_q_b_0 := cell_regrown q_b_0
    have y_q_b_1 := cell_regrown q_b_1
    have y_q_b_2 := cell_regrown q_b_2
    clear q_b_0 q_b_1 q_b_2
    refine wp_region_plan (C := fun w' => ∃ p : Regrown, w' = grow (redrawn wh p.d) p.os) (.q 0 (.q 1 (.q 2 (.q 3 (.q 4 (.q 5 (.q 6 (.q 7 (.q 8 (.q 9 (.q 10 (.q 11 (.e 12 (.q 13 (.q 14 (.q 15 (.q 16 (.q 17 (.q 18 (.q 19 (.q 20 (.q 21 (.q 22 (.q 23 (.q 24 (.q 25 (.q 26 (.q 27 (.q 28 (.q 29 (.q 30 (.done)))))))))))))))))))))))))))))))) 31 (by kernel_rfl) (by kernel_rfl) (grew_drew _) ?_
    repeat (any_goals (first | (go_big_quiet_skip; refine wpQuiet_nil ?_) | (go_big_quiet_want; go_big_quiet_op; go_big_quiet_on; refine wpQuiet_nil ?_) | ((with_reducible apply q_split); exact rfl; intro q hq; cases q <;> (rw [hq]; (try first | replace hq := bnot_t hq | replace hq := bnot_f hq); (try first | replace hq := of_decide_eq_true hq | replace hq := of_decide_eq_false hq | replace hq := eq_of_beq hq); (try first | replace hq := Int.not_lt.1 hq | replace hq := Int.not_le.1 hq | replace hq := Nat.not_lt.1 hq | replace hq := Nat.not_le.1 hq); try (exfalso; omega))) | (refine plan_q rfl rfl ?_)))
    refine plan_e rfl ?_
    go_wp2_with fail
    refine (HR1.out _ (below_drew)).mono ?_
    rintro e wi ⟨rfl, hb_wi⟩
    have HW_wi : Below wh.heap.size wh wi := below_undrew hb_wi
    clear hb_wi
    go_wp2_with fail
    refine MixPost.intro (grew_of_below HW_wi) ?_
    repeat (any_goals (first | (go_big_quiet_skip; refine wpQuiet_nil ?_) | (go_big_quiet_want; go_big_quiet_op; go_big_quiet_on; refine wpQuiet_nil ?_) | ((with_reducible apply q_split); exact rfl; intro q hq; cases q <;> (rw [hq]; (try first | replace hq := bnot_t hq | replace hq := bnot_f hq); (try first | replace hq := of_decide_eq_true hq | replace hq := of_decide_eq_false hq | replace hq := eq_of_beq hq); (try first | replace hq := Int.not_lt.1 hq | replace hq := Int.not_le.1 hq | replace hq := Nat.not_lt.1 hq | replace hq := Nat.not_le.1 hq); try (exfalso; omega))) | (refine plan_q rfl rfl ?_)))
    clear y_e_0 y_e_1 y_e_2 y_e_3 y_e_4
    clear y_q_a_0 y_q_a_1 y_q_a_2
    clear y_q_b_0 y_q_b_1 y_q_b_2
    have HB_wi : Below w.heap.size w wi := after0 HB_wh HW_wi
    all_goals refine plan_done ?_
    all_goals (try simp only [List.drop_succ_cons, List.drop_zero])
    all_goals (try go_wp2_with fail)
    all_goals refine NoPanic.normal ?_
    all_goals (try go_wp2_with fail)
    go_ret
    exact ⟨rfl, HB_wi⟩
end Go.Proofs.Ytecnbfgacojpjaa
