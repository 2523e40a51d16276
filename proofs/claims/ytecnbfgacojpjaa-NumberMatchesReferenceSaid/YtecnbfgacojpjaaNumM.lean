/-
  The walk of 'NumberInTurn'.
-/
import Derived.Test.YtecnbfgacojpjaaNumK
namespace Go.Proofs.Ytecnbfgacojpjaa
open Go.RowKit Nb Sk Go.Sort

set_option maxHeartbeats 2000000 in
theorem last_any (ao : Option Addr) (n cap : Nat) (l : List Us) (st kd : Int) (w : World) (hs : Sl w 5 cU ao n cap l) :
    Calls Try.prog 16 #[.slice ao n cap, .int .i64 st, .int .i64 kd] w (Ret w (.int .i64 (lastNu l st kd))) := by
  obtain rfl := hs.len
  have hcap := hs.max
  have hle := hs.le
  unfold maxLen at hcap
  have HS := Lib.hid hs
  clear hs
  obtain ⟨p, hp⟩ : ∃ p, lastNu l st kd = p := ⟨_, rfl⟩
  have HP := Lib.hid hp
  rw [hp]
  clear hp
  go_enter Try.func16, Try.ntmps16
  go_wp2_with fail
  go_loopw [7, 8] (fun v i wr => ∃ k : Nat, k ≤ l.length ∧ i = .int .i64 k ∧ Below w.heap.size w wr ∧ v = .int .i64 (lastNu (l.take k) st kd)) (fun v i wr => l.length - (intOf i).toNat)
  case atStart => exact ⟨0, by omega, rfl, Below.refl _ _, rfl⟩
  case round =>
    obtain ⟨k, hk, rfl, HB_wr, rfl⟩ := hrel
    by_cases hkl : k < l.length
    · have HT := Lib.hid (show lastNu (l.take (k + 1)) st kd = if l[k].nm.st = st ∧ l[k].nm.kd = kd then l[k].nm.nu else lastNu (l.take k) st kd by rw [List.take_succ_eq_append_getElem hkl, lastNu_snoc])
      obtain ⟨x, hx⟩ : ∃ x, lastNu (l.take k) st kd = x := ⟨_, rfl⟩
      rw [hx] at HT ⊢
      obtain ⟨bb, off, rfl, hbb, hrow⟩ := (HS.out.below HB_wr).get hkl
      obtain ⟨e_0, e_1, e_2, e_3, e_4⟩ := (hrow k hkl).c5
      clear hrow hx
      generalize l[k] = u at *
      obtain ⟨⟨a, b, c⟩, f, g⟩ := u
      dsimp only at e_0 e_1 e_2 e_3 e_4 HT
      by_cases c1 : a = st
      · by_cases c2 : b = kd
        · subst c1 c2
          have HT2 := Lib.hid (HT.out.trans (if_pos ⟨rfl, rfl⟩))
          clear HT
          go_wp2_with fail
          go_roundw
          case rel => exact ⟨k + 1, by omega, by go_num, HB_wr, by rw [HT2.out]⟩
          case measure => simp [intOf]; omega
        · have c2' : (b == kd) = false := beq_eq_false_iff_ne.2 c2
          subst c1
          have HT2 := Lib.hid (HT.out.trans (if_neg (fun h => c2 h.2)))
          clear HT
          go_wp2_with fail
          go_roundw
          case rel => exact ⟨k + 1, by omega, by go_num, HB_wr, by rw [HT2.out]⟩
          case measure => simp [intOf]; omega
      · have c1' : (a == st) = false := beq_eq_false_iff_ne.2 c1
        have HT2 := Lib.hid (HT.out.trans (if_neg (fun h => c1 h.1)))
        clear HT
        go_wp2_with fail
        go_roundw
        case rel => exact ⟨k + 1, by omega, by go_num, HB_wr, by rw [HT2.out]⟩
        case measure => simp [intOf]; omega
    · have h1 : l.take k = l := List.take_of_length_le (by omega)
      rw [h1, HP.out]
      go_wp2_with fail
      go_ret
      exact ⟨rfl, HB_wr⟩

theorem fre_cases (st kd last : Int) (us : List Bool) (k : Nat) :
    (fre st kd last us k = [] ∧ ∀ j : Nat, j < k → us[(nth last (j + 1)).toNat]? ≠ some false) ∨
    (∃ s r, s < k ∧ fre st kd last us k = ⟨st, kd, nth last (s + 1)⟩ :: r ∧ ∀ j : Nat, j < s → us[(nth last (j + 1)).toNat]? ≠ some false) := by
  induction k with
  | zero => left; exact ⟨rfl, fun j hj => by omega⟩
  | succ k ih =>
    rcases ih with ⟨h1, h2⟩ | ⟨s, r, hs, h1, h2⟩
    · by_cases h3 : us[(nth last (k + 1)).toNat]? = some false
      · right; exact ⟨k, [], by omega, by rw [fre, h1, if_pos h3]; rfl, h2⟩
      · left
        refine ⟨by rw [fre, h1, if_neg h3]; rfl, fun j hj => ?_⟩
        rcases Nat.lt_or_ge j k with h4 | h4
        · exact h2 j h4
        · obtain rfl : j = k := by omega
          exact h3
    · right; exact ⟨s, _, by omega, by rw [fre, h1]; rfl, h2⟩

/-- a name in use is one that Who finds -/
theorem used_who {l : List Us} {n : Nm} {t : Int} (hr : rows l = true) (hn : okN n = true) (ht : tm t = true) (hu : used l n t = true) : ∃ i : Nat, who l n t = ((i : Int), 0) := by
  rcases who_cases l n t with ⟨_, hb⟩ | ⟨_, _, hno⟩ | ⟨_, i, _, h, _⟩
  · simp [sureBad, hr, hn, ht] at hb
  · exfalso
    obtain ⟨u, hu1, hu2⟩ := List.any_eq_true.1 hu
    have := hno u hu1
    simp only [Bool.and_eq_true, decide_eq_true_eq] at hu2
    have h2 := cov_iff.1 hu2.2
    rw [meets_iff.2 ⟨hu2.1, h2.1, h2.2⟩] at this
    cases this
  · exact ⟨i, h⟩

/-- what Next tells -/
theorem next_cases (l : List Us) (st kd now : Int) :
    (∃ e, next l st kd now = (zeroN, e) ∧ e ≠ 0 ∧ e ≠ 17) ∨
    (next l st kd now = (zeroN, 17) ∧ ∀ j : Nat, j < 99 → ∃ i : Nat, who l ⟨st, kd, nth (lastNu l st kd) (j + 1)⟩ now = ((i : Int), 0)) ∨
    (∃ s : Nat, s < 99 ∧ next l st kd now = (⟨st, kd, nth (lastNu l st kd) (s + 1)⟩, 0) ∧ ∀ j : Nat, j < s → ∃ i : Nat, who l ⟨st, kd, nth (lastNu l st kd) (j + 1)⟩ now = ((i : Int), 0)) := by
  by_cases ha : asked l st kd now = 0
  · right
    obtain ⟨h1, h2, h3, _⟩ := asked_zero ha
    have hrg := lastNu_range (rows_iff.1 h1) st kd
    have h2' := okN_iff.1 h2
    dsimp only at h2'
    have hw : ∀ j : Nat, (usedL l st kd now)[(nth (lastNu l st kd) (j + 1)).toNat]? ≠ some false → ∃ i : Nat, who l ⟨st, kd, nth (lastNu l st kd) (j + 1)⟩ now = ((i : Int), 0) := by
      intro j hj
      have hn1 : 1 ≤ nth (lastNu l st kd) (j + 1) ∧ nth (lastNu l st kd) (j + 1) ≤ 99 := by simp only [nth]; omega
      obtain ⟨m, hm⟩ : ∃ m : Nat, nth (lastNu l st kd) (j + 1) = m := ⟨(nth (lastNu l st kd) (j + 1)).toNat, by omega⟩
      rw [hm] at hj hn1 ⊢
      refine used_who h1 (okN_iff.2 ⟨h2'.1, h2'.2.1, h2'.2.2.1, h2'.2.2.2.1, hn1.1, hn1.2⟩) h3 ?_
      rw [show ((m : Int)).toNat = m by omega, List.getElem?_eq_getElem (by rw [usedL_length]; omega), usedL_get] at hj
      simpa using hj
    rcases fre_cases st kd (lastNu l st kd) (usedL l st kd now) 99 with ⟨h5, h6⟩ | ⟨s, r, hs, h5, h6⟩
    · left
      rw [fre_frees] at h5
      exact ⟨next_none ha h5, fun j hj => hw j (h6 j hj)⟩
    · right
      rw [fre_frees] at h5
      exact ⟨s, hs, next_some ha h5, fun j hj => hw j (h6 j hj)⟩
  · left
    refine ⟨_, next_err ha, ha, ?_⟩
    unfold asked
    split
    · omega
    · cases l.getLast? with
      | none => simp
      | some u => dsimp only; split <;> omega

theorem asked_small (l : List Us) (st kd now : Int) : asked l st kd now ≤ 13 := by
  unfold asked
  split
  · omega
  · cases l.getLast? with
    | none => simp
    | some u => dsimp only; split <;> omega

theorem next_valid {l : List Us} {st kd now : Int} {x : Nm × Int} (h : next l st kd now = x) (h2 : x.2 = 0 ∨ x.2 = 17) : 0 ≤ lastNu l st kd ∧ lastNu l st kd ≤ 99 := by
  by_cases ha : asked l st kd now = 0
  · exact lastNu_range (rows_iff.1 (asked_zero ha).1) st kd
  · exfalso
    rcases next_cases l st kd now with ⟨e, hn, h0, h17⟩ | ⟨hn, _⟩ | ⟨s, _, hn, _⟩
    · rw [hn] at h; subst h; simp at h2; omega
    · rw [next_err ha] at hn; simp at hn; rcases Int.lt_or_le 17 0 with h | h <;> (have := asked_small l st kd now; omega)
    · rw [next_err ha] at hn; simp at hn; exact ha hn.2

set_option maxRecDepth 100000 in
set_option maxHeartbeats 4000000 in
theorem inturn_walk (ao : Option Addr) (m cap : Nat) (l : List Us) (st kd now : Int) (w : World) (hs : Sl w 5 cU ao m cap l) :
    Calls Try.prog 4 #[.slice ao m cap, .int .i64 st, .int .i64 kd, .int .i64 now] w (Ret w (.bool true)) := by
  have HSL := Lib.hid hs
  clear hs
  have HB_w : Below w.heap.size w w := Below.refl _ _
  go_enter Try.func4, Try.ntmps4
  go_wp2_with fail
  refine (head_any _).mono ?_
  rintro e wa ⟨rfl, hb_wa⟩
  have HB_wa : Below w.heap.size w wa := by first | exact after0 HB_w hb_wa | exact after1 HB_w hb_wa | exact after2 HB_w hb_wa | exact after3 HB_w hb_wa | exact after4 HB_w hb_wa | exact after5 HB_w hb_wa
  replace HSL := Lib.hid (show Sl wa _ _ _ _ _ _ by first | exact HSL.out.below hb_wa | exact (HSL.out.below (grew1 (Below.refl _ _))).below hb_wa | exact (HSL.out.below (grew2 (Below.refl _ _))).below hb_wa | exact (HSL.out.below (grew3 (Below.refl _ _))).below hb_wa)
  go_wp2_with fail
  refine (next_any _ _ _ l _ _ _ _ (by first | exact HSL.out | exact HSL.out.below (grew1 (Below.refl _ _)) | exact HSL.out.below (grew2 (Below.refl _ _)) | exact HSL.out.below (grew3 (Below.refl _ _)))).mono ?_
  rintro e wb ⟨rfl, hb_wb⟩
  have HB_wb : Below w.heap.size w wb := by first | exact after0 HB_wa hb_wb | exact after1 HB_wa hb_wb | exact after2 HB_wa hb_wb | exact after3 HB_wa hb_wb | exact after4 HB_wa hb_wb | exact after5 HB_wa hb_wb
  replace HSL := Lib.hid (show Sl wb _ _ _ _ _ _ by first | exact HSL.out.below hb_wb | exact (HSL.out.below (grew1 (Below.refl _ _))).below hb_wb | exact (HSL.out.below (grew2 (Below.refl _ _))).below hb_wb | exact (HSL.out.below (grew3 (Below.refl _ _))).below hb_wb)
  rcases next_cases l st kd now with ⟨e, hn, h0, h17⟩ | ⟨hn, hall⟩ | ⟨s, hs, hn, hall⟩
  · rw [hn]
    dsimp only [zeroN]
    have h0' : (e == 0) = false := beq_eq_false_iff_ne.2 h0
    have h17' : (e == 17) = false := beq_eq_false_iff_ne.2 h17
    clear hn
    go_wp2_with fail
    go_ret
    exact ⟨rfl, grew1 HB_wb⟩
  · rw [hn]
    dsimp only [zeroN]
    have HLA := Lib.hid (next_valid hn (by simp))
    clear hn
    go_wp2_with fail
    refine (last_any _ _ _ l _ _ _ (by first | exact HSL.out | exact HSL.out.below (grew1 (Below.refl _ _)) | exact HSL.out.below (grew2 (Below.refl _ _)) | exact HSL.out.below (grew3 (Below.refl _ _)))).mono ?_
    rintro e wc ⟨rfl, hb_wc⟩
    have HB_wc : Below w.heap.size w wc := by first | exact after0 HB_wb hb_wc | exact after1 HB_wb hb_wc | exact after2 HB_wb hb_wc | exact after3 HB_wb hb_wc | exact after4 HB_wb hb_wc | exact after5 HB_wb hb_wc
    replace HSL := Lib.hid (show Sl wc _ _ _ _ _ _ by first | exact HSL.out.below hb_wc | exact (HSL.out.below (grew1 (Below.refl _ _))).below hb_wc | exact (HSL.out.below (grew2 (Below.refl _ _))).below hb_wc | exact (HSL.out.below (grew3 (Below.refl _ _))).below hb_wc)
    have H_n := Lib.hid ((Box.new wb [.int .i64 0, .int .i64 0, .int .i64 0] 23).below hb_wc)
    obtain ⟨NB, hNB⟩ : ∃ NB, wb.heap.size = NB := ⟨_, rfl⟩
    rw [hNB] at H_n ⊢
    clear hNB hb_wc
    go_wp2_with fail
    go_loopw [12, 13, 14, 15] (fun x i _ _ wr => ∃ j : Nat, j ≤ 99 ∧ i = .int .i64 j ∧ x = .int .i64 (nth (lastNu l st kd) j) ∧ Below w.heap.size w wr ∧ Hid (Sl wr 5 cU ao m cap l) ∧ Hid (Box wr NB 23 [.int .i64 0, .int .i64 0, .int .i64 0])) (fun x i _ _ _ => 99 - (intOf i).toNat)
    case atStart => exact ⟨0, by omega, rfl, rfl, HB_wc, HSL, H_n⟩
    case round =>
      clear H_n HSL
      try clear q_n_0 q_n_1 q_n_2
      obtain ⟨j, hj, rfl, rfl, HB_wr, HSLr, H_n⟩ := hrel
      obtain ⟨q_n_0, q_n_1, q_n_2⟩ := H_n.out.c3
      by_cases hjl : j < 99
      · have HR := Lib.hid (nth_range HLA.out j)
        have HS := Lib.hid (nth_step (lastNu l st kd) j)
        have HR2 := Lib.hid (nth_range HLA.out (j + 1))
        obtain ⟨x, hx⟩ : ∃ x, nth (lastNu l st kd) j = x := ⟨_, rfl⟩
        obtain ⟨k, hk⟩ : ∃ k : Nat, x % 99 + 1 = (k : Int) := ⟨(x % 99 + 1).toNat, by have := HR2.out; rw [HS.out, hx] at this; omega⟩
        have hk1 : k ≤ 99 := by have := HR2.out; rw [HS.out, hx, hk] at this; omega
        have hx1 : 0 ≤ x := by have := HR.out; rw [hx] at this; omega
        have hx2 : x ≤ 99 := by have := HR.out; rw [hx] at this; omega
        have HM := Lib.hid (show nth (lastNu l st kd) (j + 1) = (k : Int) by rw [HS.out, hx, hk])
        rw [hx]
        clear HR HS HR2 hx
        go_wp2_with fail
        refine (name_any _ _ _ _).mono ?_
        rintro e wd ⟨rfl, hb_wd⟩
        have HB_wd : Below w.heap.size w wd := by first | exact after0 HB_wr hb_wd | exact after1 HB_wr hb_wd | exact after2 HB_wr hb_wd | exact after3 HB_wr hb_wd | exact after4 HB_wr hb_wd | exact after5 HB_wr hb_wd
        try clear q_n_0 q_n_1 q_n_2
        have H_n := Lib.hid (Box.below (by first | exact H_n.out | exact H_n.out.alloc _ | exact (H_n.out.alloc _).alloc _ | exact ((H_n.out.alloc _).alloc _).alloc _) hb_wd)
        obtain ⟨q_n_0, q_n_1, q_n_2⟩ := H_n.out.c3
        replace HSLr := Lib.hid (show Sl wd _ _ _ _ _ _ by first | exact HSLr.out.below hb_wd | exact (HSLr.out.below (grew1 (Below.refl _ _))).below hb_wd | exact (HSLr.out.below (grew2 (Below.refl _ _))).below hb_wd | exact (HSLr.out.below (grew3 (Below.refl _ _))).below hb_wd)
        go_wp2_with fail
        refine (who_any _ _ _ l _ _ _ _ _ (by first | exact HSLr.out | exact HSLr.out.below (grew1 (Below.refl _ _)) | exact HSLr.out.below (grew2 (Below.refl _ _)) | exact HSLr.out.below (grew3 (Below.refl _ _)))).mono ?_
        rintro e we ⟨rfl, hb_we⟩
        have HB_we : Below w.heap.size w we := by first | exact after0 HB_wd hb_we | exact after1 HB_wd hb_we | exact after2 HB_wd hb_we | exact after3 HB_wd hb_we | exact after4 HB_wd hb_we | exact after5 HB_wd hb_we
        try clear q_n_0 q_n_1 q_n_2
        have H_n := Lib.hid (Box.below (by first | exact H_n.out | exact H_n.out.alloc _ | exact (H_n.out.alloc _).alloc _ | exact ((H_n.out.alloc _).alloc _).alloc _) hb_we)
        obtain ⟨q_n_0, q_n_1, q_n_2⟩ := H_n.out.c3
        replace HSLr := Lib.hid (show Sl we _ _ _ _ _ _ by first | exact HSLr.out.below hb_we | exact (HSLr.out.below (grew1 (Below.refl _ _))).below hb_we | exact (HSLr.out.below (grew2 (Below.refl _ _))).below hb_we | exact (HSLr.out.below (grew3 (Below.refl _ _))).below hb_we)
        obtain ⟨i, hi⟩ := hall j hjl
        rw [HM.out] at hi
        rw [hi]
        dsimp only
        go_wp2_with fail
        go_roundw
        case rel => exact ⟨j + 1, by omega, by go_num, by rw [HM.out], HB_we, HSLr, H_n⟩
        case measure => simp [intOf]; omega
      · have h99 : j = 99 := by omega
        subst h99
        go_wp2_with fail
        go_ret
        exact ⟨rfl, HB_wr⟩
  · rw [hn]
    dsimp only
    have HLA := Lib.hid (next_valid hn (by simp))
    obtain ⟨y, hy⟩ : ∃ y, nth (lastNu l st kd) (s + 1) = y := ⟨_, rfl⟩
    have HY := Lib.hid hy
    rw [hy]
    clear hy
    obtain ⟨W1, hW1, hB1, hZ1, hnb⟩ := boxes1 wb [.int .i64 st, .int .i64 kd, .int .i64 y] 23
    obtain ⟨NB, hNB⟩ : ∃ NB, wb.heap.size = NB := ⟨_, rfl⟩
    rw [hNB] at hnb
    have H_n := Lib.hid hnb
    have HB_W1 : Below w.heap.size w W1 := after0 HB_wb hB1
    replace HSL := Lib.hid (HSL.out.below hB1)
    clear hnb hB1 hZ1 hn
    obtain ⟨q_n_0, q_n_1, q_n_2⟩ := H_n.out.c3
    go_wp2_with fail
    refine (last_any _ _ _ l _ _ _ (by first | exact HSL.out | exact HSL.out.below (grew1 (Below.refl _ _)) | exact HSL.out.below (grew2 (Below.refl _ _)) | exact HSL.out.below (grew3 (Below.refl _ _)))).mono ?_
    rintro e wc ⟨rfl, hb_wc⟩
    have HB_wc : Below w.heap.size w wc := by first | exact after0 HB_W1 hb_wc | exact after1 HB_W1 hb_wc | exact after2 HB_W1 hb_wc | exact after3 HB_W1 hb_wc | exact after4 HB_W1 hb_wc | exact after5 HB_W1 hb_wc
    try clear q_n_0 q_n_1 q_n_2
    have H_n := Lib.hid (Box.below (by first | exact H_n.out | exact H_n.out.alloc _ | exact (H_n.out.alloc _).alloc _ | exact ((H_n.out.alloc _).alloc _).alloc _) hb_wc)
    obtain ⟨q_n_0, q_n_1, q_n_2⟩ := H_n.out.c3
    replace HSL := Lib.hid (show Sl wc _ _ _ _ _ _ by first | exact HSL.out.below hb_wc | exact (HSL.out.below (grew1 (Below.refl _ _))).below hb_wc | exact (HSL.out.below (grew2 (Below.refl _ _))).below hb_wc | exact (HSL.out.below (grew3 (Below.refl _ _))).below hb_wc)
    clear hW1 hNB
    go_wp2_with fail
    go_loopw [12, 13, 14, 15] (fun x i _ _ wr => ∃ j : Nat, j ≤ s ∧ i = .int .i64 j ∧ x = .int .i64 (nth (lastNu l st kd) j) ∧ Below w.heap.size w wr ∧ Hid (Sl wr 5 cU ao m cap l) ∧ Hid (Box wr NB 23 [.int .i64 st, .int .i64 kd, .int .i64 y])) (fun x i _ _ _ => 99 - (intOf i).toNat)
    case atStart => exact ⟨0, by omega, rfl, rfl, HB_wc, HSL, H_n⟩
    case round =>
      clear H_n HSL
      try clear q_n_0 q_n_1 q_n_2
      obtain ⟨j, hj, rfl, rfl, HB_wr, HSLr, H_n⟩ := hrel
      obtain ⟨q_n_0, q_n_1, q_n_2⟩ := H_n.out.c3
      have HR := Lib.hid (nth_range HLA.out j)
      have HS := Lib.hid (nth_step (lastNu l st kd) j)
      have HR2 := Lib.hid (nth_range HLA.out (j + 1))
      obtain ⟨x, hx⟩ : ∃ x, nth (lastNu l st kd) j = x := ⟨_, rfl⟩
      obtain ⟨k, hk⟩ : ∃ k : Nat, x % 99 + 1 = (k : Int) := ⟨(x % 99 + 1).toNat, by have := HR2.out; rw [HS.out, hx] at this; omega⟩
      have hk1 : k ≤ 99 := by have := HR2.out; rw [HS.out, hx, hk] at this; omega
      have hx1 : 0 ≤ x := by have := HR.out; rw [hx] at this; omega
      have hx2 : x ≤ 99 := by have := HR.out; rw [hx] at this; omega
      have HM := Lib.hid (show nth (lastNu l st kd) (j + 1) = (k : Int) by rw [HS.out, hx, hk])
      rw [hx]
      clear HR HS HR2 hx
      have hjl : (j : Int) < 99 := by omega
      by_cases heq : (k : Int) = y
      · subst heq
        go_wp2_with fail
        go_ret
        exact ⟨rfl, HB_wr⟩
      · have heq' : ((k : Int) == y) = false := beq_eq_false_iff_ne.2 heq
        have hjs : j < s := by
          rcases Nat.lt_or_ge j s with h | h
          · exact h
          · exfalso
            obtain rfl : j = s := by omega
            exact heq (HM.out.symm.trans HY.out)
        go_wp2_with fail
        refine (name_any _ _ _ _).mono ?_
        rintro e wd ⟨rfl, hb_wd⟩
        have HB_wd : Below w.heap.size w wd := by first | exact after0 HB_wr hb_wd | exact after1 HB_wr hb_wd | exact after2 HB_wr hb_wd | exact after3 HB_wr hb_wd | exact after4 HB_wr hb_wd | exact after5 HB_wr hb_wd
        try clear q_n_0 q_n_1 q_n_2
        have H_n := Lib.hid (Box.below (by first | exact H_n.out | exact H_n.out.alloc _ | exact (H_n.out.alloc _).alloc _ | exact ((H_n.out.alloc _).alloc _).alloc _) hb_wd)
        obtain ⟨q_n_0, q_n_1, q_n_2⟩ := H_n.out.c3
        replace HSLr := Lib.hid (show Sl wd _ _ _ _ _ _ by first | exact HSLr.out.below hb_wd | exact (HSLr.out.below (grew1 (Below.refl _ _))).below hb_wd | exact (HSLr.out.below (grew2 (Below.refl _ _))).below hb_wd | exact (HSLr.out.below (grew3 (Below.refl _ _))).below hb_wd)
        go_wp2_with fail
        refine (who_any _ _ _ l _ _ _ _ _ (by first | exact HSLr.out | exact HSLr.out.below (grew1 (Below.refl _ _)) | exact HSLr.out.below (grew2 (Below.refl _ _)) | exact HSLr.out.below (grew3 (Below.refl _ _)))).mono ?_
        rintro e we ⟨rfl, hb_we⟩
        have HB_we : Below w.heap.size w we := by first | exact after0 HB_wd hb_we | exact after1 HB_wd hb_we | exact after2 HB_wd hb_we | exact after3 HB_wd hb_we | exact after4 HB_wd hb_we | exact after5 HB_wd hb_we
        try clear q_n_0 q_n_1 q_n_2
        have H_n := Lib.hid (Box.below (by first | exact H_n.out | exact H_n.out.alloc _ | exact (H_n.out.alloc _).alloc _ | exact ((H_n.out.alloc _).alloc _).alloc _) hb_we)
        obtain ⟨q_n_0, q_n_1, q_n_2⟩ := H_n.out.c3
        replace HSLr := Lib.hid (show Sl we _ _ _ _ _ _ by first | exact HSLr.out.below hb_we | exact (HSLr.out.below (grew1 (Below.refl _ _))).below hb_we | exact (HSLr.out.below (grew2 (Below.refl _ _))).below hb_we | exact (HSLr.out.below (grew3 (Below.refl _ _))).below hb_we)
        obtain ⟨i, hi⟩ := hall j hjs
        rw [HM.out] at hi
        rw [hi]
        dsimp only
        go_wp2_with fail
        go_roundw
        case rel => exact ⟨j + 1, by omega, by go_num, by rw [HM.out], HB_we, HSLr, H_n⟩
        case measure => simp [intOf]; omega
end Go.Proofs.Ytecnbfgacojpjaa
