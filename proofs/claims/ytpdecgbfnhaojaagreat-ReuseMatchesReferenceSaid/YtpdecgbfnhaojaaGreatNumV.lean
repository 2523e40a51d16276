/-
  The reference functions of 'number': Who, Sure.
-/
import Derived.Test.YtpdecgbfnhaojaaGreatNumU
import Derived.Test.YtpdecgbfnhaojaaGreatNumK
namespace Go.Proofs.YtpdecgbfnhaojaaGreat
open Go.RowKit Nb Sk Go.Sort

theorem meets_cov (n : Nm) (t : Int) (u : Us) : meets n t t u = (decide (u.nm = n) && covI u.fr u.fe t) := by
  unfold meets covI
  rw [Bool.eq_iff_iff]; simp
theorem meets_parts (n : Nm) (lo hi : Int) (u : Us) : meets n lo hi u = (decide (u.nm = n) && (decide (u.fr ≤ hi) && decide (lo < u.fe))) := by
  unfold meets
  rw [Bool.eq_iff_iff]; simp

/-- what the loop of Sure has found before place k -/
def Fnd (l : List Us) (n : Nm) (lo hi : Int) (k : Nat) (f : Int) : Prop :=
  (f = -1 ∧ ∀ j (h : j < l.length), j < k → meets n lo hi l[j] = false) ∨
  (∃ m : Nat, ∃ hm : m < l.length, f = m ∧ m < k ∧ meets n lo hi l[m] = true ∧ ∀ j (h : j < l.length), j < k → j ≠ m → meets n lo hi l[j] = false)
theorem Fnd.miss {l : List Us} {n : Nm} {lo hi f : Int} {k : Nat} (h : Fnd l n lo hi k f) (hk : k < l.length) (hm : meets n lo hi l[k] = false) : Fnd l n lo hi (k + 1) f := by
  rcases h with ⟨h1, h2⟩ | ⟨m, hm', h1, h2, h3, h4⟩
  · refine .inl ⟨h1, fun j h hj => ?_⟩
    rcases Nat.lt_succ_iff_lt_or_eq.1 hj with h5 | rfl
    · exact h2 j h h5
    · exact hm
  · refine .inr ⟨m, hm', h1, by omega, h3, fun j h hj hjm => ?_⟩
    rcases Nat.lt_succ_iff_lt_or_eq.1 hj with h5 | rfl
    · exact h4 j h h5 hjm
    · exact hm
theorem Fnd.hit {l : List Us} {n : Nm} {lo hi f : Int} {k : Nat} (h : Fnd l n lo hi k f) (hf : f < 0) (hk : k < l.length) (hm : meets n lo hi l[k] = true) : Fnd l n lo hi (k + 1) k := by
  rcases h with ⟨_, h2⟩ | ⟨m, _, h1, _⟩
  · refine .inr ⟨k, hk, rfl, by omega, hm, fun j h hj hjm => h2 j h (by omega)⟩
  · omega
theorem Fnd.twice {l : List Us} {n : Nm} {lo hi f : Int} {k : Nat} (h : Fnd l n lo hi k f) (hf : 0 ≤ f) (hk : k < l.length) (hm : meets n lo hi l[k] = true) (hb : sureBad l n lo hi = false) : sure l n lo hi = (0, 5) := by
  rcases h with ⟨h1, _⟩ | ⟨m, hm', h1, h2, h3, _⟩
  · omega
  · rcases sure_cases hb with ⟨_, h4⟩ | ⟨i, hi', h4, h5, h6⟩
    · have := h4 _ (List.getElem_mem hk); rw [hm] at this; cases this
    · rcases h6 with ⟨h7, _⟩ | ⟨h7, h8⟩
      · exact h7
      · exfalso
        have hik : ¬ i < k := fun h => by have := h8 k hk h; rw [hm] at this; cases this
        have := h5 m hm' (by omega)
        rw [h3] at this; cases this
theorem Fnd.end {l : List Us} {n : Nm} {lo hi f : Int} (h : Fnd l n lo hi l.length f) (hb : sureBad l n lo hi = false) : (f < 0 ∧ sure l n lo hi = (0, 4)) ∨ (0 ≤ f ∧ sure l n lo hi = (f, 0)) := by
  rcases h with ⟨h1, h2⟩ | ⟨m, hm', h1, h2, h3, h4⟩
  · left
    refine ⟨by omega, ?_⟩
    rcases sure_cases hb with ⟨h7, _⟩ | ⟨i, hi', h5, _⟩
    · exact h7
    · have := h2 i hi' hi'; rw [h5] at this; cases this
  · right
    refine ⟨by omega, ?_⟩
    rcases sure_cases hb with ⟨_, h7⟩ | ⟨i, hi', h5, h6, h7⟩
    · have := h7 _ (List.getElem_mem hm'); rw [h3] at this; cases this
    · have him : i = m := by
        refine Classical.byContradiction fun hne => ?_
        have := h4 i hi' hi' hne
        rw [h5] at this; cases this
      subst him
      rcases h7 with ⟨_, j, hj, hij, h8⟩ | ⟨h8, _⟩
      · have := h4 j hj hj (by omega); rw [h8] at this; cases this
      · rw [h1]; exact h8
theorem Fnd.range {l : List Us} {n : Nm} {lo hi f : Int} {k : Nat} (h : Fnd l n lo hi k f) (hk : k ≤ l.length) : -1 ≤ f ∧ f < l.length := by
  rcases h with ⟨h1, _⟩ | ⟨m, hm', h1, _⟩ <;> omega

set_option maxRecDepth 100000 in
set_option maxHeartbeats 4000000 in
theorem rsure_any (ao : Option Addr) (n cap : Nat) (l : List Us) (a b c lo hi : Int) (w : World) (hs : Sl w 5 cU ao n cap l) :
    Calls Tryz.prog 45 #[.slice ao n cap, .agg #[.int .i64 a, .int .i64 b, .int .i64 c], .agg #[.int .i64 lo, .int .i64 hi]] w
      (Ret w (.tuple #[.int .i64 (sure l ⟨a, b, c⟩ lo hi).1, .int .i64 (sure l ⟨a, b, c⟩ lo hi).2])) := by
  obtain rfl := hs.len
  have hcap := hs.max
  have hle := hs.le
  unfold maxLen at hcap
  obtain ⟨W0, hW0, HB_W0, hZ, hn, ht⟩ := boxes2 w [.int .i64 a, .int .i64 b, .int .i64 c] [.int .i64 lo, .int .i64 hi] 29 25
  have H_n := Lib.hid hn
  have H_t := Lib.hid ht
  have HS := Lib.hid (hs.below HB_W0)
  clear hs hn ht hZ
  have HBAD := Lib.hid (show sureBad l ⟨a, b, c⟩ lo hi = true → sure l ⟨a, b, c⟩ lo hi = (0, 1) from fun h => sure_bad h)
  have HTW := Lib.hid (show sureBad l ⟨a, b, c⟩ lo hi = false → ∀ k f, Fnd l ⟨a, b, c⟩ lo hi k f → 0 ≤ f → ∀ (hk : k < l.length), meets ⟨a, b, c⟩ lo hi l[k] = true → sure l ⟨a, b, c⟩ lo hi = (0, 5) from fun hb k f h hf hk hm => h.twice hf hk hm hb)
  have HEND := Lib.hid (show sureBad l ⟨a, b, c⟩ lo hi = false → ∀ f, Fnd l ⟨a, b, c⟩ lo hi l.length f → (f < 0 ∧ sure l ⟨a, b, c⟩ lo hi = (0, 4)) ∨ (0 ≤ f ∧ sure l ⟨a, b, c⟩ lo hi = (f, 0)) from fun hb f h => h.end hb)
  generalize sure l ⟨a, b, c⟩ lo hi = p at *
  obtain ⟨q_n_0, q_n_1, q_n_2⟩ := H_n.out.c3
  obtain ⟨q_t_0, q_t_1⟩ := H_t.out.c2
  go_enter Tryz.func45, Tryz.ntmps45
  go_wp2_with fail
  refine (rrows_any _ _ _ l _ HS.out).mono ?_
  rintro e wa ⟨rfl, hb_wa⟩
  have HB_wa : Below w.heap.size w wa := by first | exact after0 HB_W0 hb_wa | exact after1 HB_W0 hb_wa | exact after2 HB_W0 hb_wa | exact after3 HB_W0 hb_wa | exact after4 HB_W0 hb_wa | exact after5 HB_W0 hb_wa
  try clear q_n_0 q_n_1 q_n_2
  have H_n := Lib.hid (Box.below (by first | exact H_n.out | exact H_n.out.alloc _ | exact (H_n.out.alloc _).alloc _ | exact ((H_n.out.alloc _).alloc _).alloc _) hb_wa)
  obtain ⟨q_n_0, q_n_1, q_n_2⟩ := H_n.out.c3
  try clear q_t_0 q_t_1
  have H_t := Lib.hid (Box.below (by first | exact H_t.out | exact H_t.out.alloc _ | exact (H_t.out.alloc _).alloc _ | exact ((H_t.out.alloc _).alloc _).alloc _) hb_wa)
  obtain ⟨q_t_0, q_t_1⟩ := H_t.out.c2
  replace HS := Lib.hid (show Sl wa _ _ _ _ _ _ by first | exact HS.out.below hb_wa | exact (HS.out.below (grew1 (Below.refl _ _))).below hb_wa | exact (HS.out.below (grew2 (Below.refl _ _))).below hb_wa | exact (HS.out.below (grew3 (Below.refl _ _))).below hb_wa)
  clear hW0
  cases h1 : rows l
  · go_wp2_with fail
    go_ret2
    exact ⟨ret_pair (HBAD.out (by simp [sureBad, h1])), HB_wa⟩
  go_wp2_with fail
  refine (rvalid_any _ _ _ _).mono ?_
  rintro e wb ⟨rfl, hb_wb⟩
  have HB_wb : Below w.heap.size w wb := by first | exact after0 HB_wa hb_wb | exact after1 HB_wa hb_wb | exact after2 HB_wa hb_wb | exact after3 HB_wa hb_wb | exact after4 HB_wa hb_wb | exact after5 HB_wa hb_wb
  try clear q_n_0 q_n_1 q_n_2
  have H_n := Lib.hid (Box.below (by first | exact H_n.out | exact H_n.out.alloc _ | exact (H_n.out.alloc _).alloc _ | exact ((H_n.out.alloc _).alloc _).alloc _) hb_wb)
  obtain ⟨q_n_0, q_n_1, q_n_2⟩ := H_n.out.c3
  try clear q_t_0 q_t_1
  have H_t := Lib.hid (Box.below (by first | exact H_t.out | exact H_t.out.alloc _ | exact (H_t.out.alloc _).alloc _ | exact ((H_t.out.alloc _).alloc _).alloc _) hb_wb)
  obtain ⟨q_t_0, q_t_1⟩ := H_t.out.c2
  replace HS := Lib.hid (show Sl wb _ _ _ _ _ _ by first | exact HS.out.below hb_wb | exact (HS.out.below (grew1 (Below.refl _ _))).below hb_wb | exact (HS.out.below (grew2 (Below.refl _ _))).below hb_wb | exact (HS.out.below (grew3 (Below.refl _ _))).below hb_wb)
  cases h2 : okN ⟨a, b, c⟩
  · go_wp2_with fail
    go_ret2
    exact ⟨ret_pair (HBAD.out (by simp [sureBad, h2])), HB_wb⟩
  go_wp2_with fail
  refine (rtime_any _ _).mono ?_
  rintro e wc ⟨rfl, hb_wc⟩
  have HB_wc : Below w.heap.size w wc := by first | exact after0 HB_wb hb_wc | exact after1 HB_wb hb_wc | exact after2 HB_wb hb_wc | exact after3 HB_wb hb_wc | exact after4 HB_wb hb_wc | exact after5 HB_wb hb_wc
  try clear q_n_0 q_n_1 q_n_2
  have H_n := Lib.hid (Box.below (by first | exact H_n.out | exact H_n.out.alloc _ | exact (H_n.out.alloc _).alloc _ | exact ((H_n.out.alloc _).alloc _).alloc _) hb_wc)
  obtain ⟨q_n_0, q_n_1, q_n_2⟩ := H_n.out.c3
  try clear q_t_0 q_t_1
  have H_t := Lib.hid (Box.below (by first | exact H_t.out | exact H_t.out.alloc _ | exact (H_t.out.alloc _).alloc _ | exact ((H_t.out.alloc _).alloc _).alloc _) hb_wc)
  obtain ⟨q_t_0, q_t_1⟩ := H_t.out.c2
  replace HS := Lib.hid (show Sl wc _ _ _ _ _ _ by first | exact HS.out.below hb_wc | exact (HS.out.below (grew1 (Below.refl _ _))).below hb_wc | exact (HS.out.below (grew2 (Below.refl _ _))).below hb_wc | exact (HS.out.below (grew3 (Below.refl _ _))).below hb_wc)
  cases h3 : tm lo
  · go_wp2_with fail
    go_ret2
    exact ⟨ret_pair (HBAD.out (by simp [sureBad, h3])), HB_wc⟩
  go_wp2_with fail
  refine (rtime_any _ _).mono ?_
  rintro e wd ⟨rfl, hb_wd⟩
  have HB_wd : Below w.heap.size w wd := by first | exact after0 HB_wc hb_wd | exact after1 HB_wc hb_wd | exact after2 HB_wc hb_wd | exact after3 HB_wc hb_wd | exact after4 HB_wc hb_wd | exact after5 HB_wc hb_wd
  try clear q_n_0 q_n_1 q_n_2
  have H_n := Lib.hid (Box.below (by first | exact H_n.out | exact H_n.out.alloc _ | exact (H_n.out.alloc _).alloc _ | exact ((H_n.out.alloc _).alloc _).alloc _) hb_wd)
  obtain ⟨q_n_0, q_n_1, q_n_2⟩ := H_n.out.c3
  try clear q_t_0 q_t_1
  have H_t := Lib.hid (Box.below (by first | exact H_t.out | exact H_t.out.alloc _ | exact (H_t.out.alloc _).alloc _ | exact ((H_t.out.alloc _).alloc _).alloc _) hb_wd)
  obtain ⟨q_t_0, q_t_1⟩ := H_t.out.c2
  replace HS := Lib.hid (show Sl wd _ _ _ _ _ _ by first | exact HS.out.below hb_wd | exact (HS.out.below (grew1 (Below.refl _ _))).below hb_wd | exact (HS.out.below (grew2 (Below.refl _ _))).below hb_wd | exact (HS.out.below (grew3 (Below.refl _ _))).below hb_wd)
  cases h4 : tm hi
  · go_wp2_with fail
    go_ret2
    exact ⟨ret_pair (HBAD.out (by simp [sureBad, h4])), HB_wd⟩
  by_cases h5 : hi < lo
  · go_wp2_with fail
    go_ret2
    exact ⟨ret_pair (HBAD.out (by simp [sureBad, h5])), HB_wd⟩
  have h5' : lo ≤ hi := by omega
  have h6 : sureBad l ⟨a, b, c⟩ lo hi = false := by simp [sureBad, h1, h2, h3, h4, h5]
  have HT := Lib.hid (HTW.out h6)
  have HE := Lib.hid (HEND.out h6)
  clear h1 h2 h3 h4 h5 h6 HBAD HTW HEND
  go_wp2_with fail
  clear q_n_0 q_n_1 q_n_2 q_t_0 q_t_1
  go_loopw [8, 9] (fun fd i wr => ∃ (k : Nat) (f : Int), k ≤ l.length ∧ i = .int .i64 k ∧ fd = .int .i64 f ∧ Below w.heap.size w wr ∧ Hid (Sl wr 5 cU ao l.length cap l) ∧ Hid (Box wr w.heap.size 29 [.int .i64 a, .int .i64 b, .int .i64 c]) ∧ Hid (Box wr (w.heap.size + 1) 25 [.int .i64 lo, .int .i64 hi]) ∧ Hid (Fnd l ⟨a, b, c⟩ lo hi k f)) (fun _ i _ => l.length - (intOf i).toNat)
  case atStart => exact ⟨0, -1, by omega, rfl, rfl, HB_wd, HS, H_n, H_t, .inl ⟨rfl, fun j _ h => absurd h (Nat.not_lt_zero _)⟩⟩
  case round =>
    clear HS H_n H_t
    obtain ⟨k, fnd, hk, rfl, rfl, HB_wr, HS, H_n, H_t, HF⟩ := hrel
    by_cases hkl : k < l.length
    · have HMM := Lib.hid (meets_parts ⟨a, b, c⟩ lo hi l[k])
      have HMISS := Lib.hid (HF.out.miss hkl)
      have HHIT := Lib.hid (show fnd < 0 → meets ⟨a, b, c⟩ lo hi l[k] = true → Fnd l ⟨a, b, c⟩ lo hi (k + 1) k from fun h => HF.out.hit h hkl)
      have HTWO := Lib.hid (show 0 ≤ fnd → meets ⟨a, b, c⟩ lo hi l[k] = true → p = (0, 5) from fun h => HT.out k fnd HF.out h hkl)
      obtain ⟨bb, off, rfl, hbb, hrow⟩ := HS.out.get hkl
      obtain ⟨e_0, e_1, e_2, e_3, e_4⟩ := (hrow k hkl).c5
      clear hrow
      generalize l[k] = u at *
      obtain ⟨⟨a', b', c'⟩, f, g⟩ := u
      dsimp only at e_0 e_1 e_2 e_3 e_4 HMM
      have hq := eql_name a' b' c' a b c
      generalize decide ((⟨a', b', c'⟩ : Nm) = ⟨a, b, c⟩) = q at *
      obtain ⟨q_n_0, q_n_1, q_n_2⟩ := H_n.out.c3
      obtain ⟨q_t_0, q_t_1⟩ := H_t.out.c2
      have hex : (q = false) ∨ (q = true ∧ hi < f) ∨ (q = true ∧ f ≤ hi ∧ g ≤ lo) ∨ (q = true ∧ f ≤ hi ∧ lo < g) := by
        cases q
        · exact .inl rfl
        · rcases Int.lt_or_le hi f with h | h
          · exact .inr (.inl ⟨rfl, h⟩)
          · rcases Int.lt_or_le lo g with h' | h'
            · exact .inr (.inr (.inr ⟨rfl, h, h'⟩))
            · exact .inr (.inr (.inl ⟨rfl, h, h'⟩))
      go_wp2_with fail
      have y_e_0 := cell_regrown e_0
      have y_e_1 := cell_regrown e_1
      have y_e_2 := cell_regrown e_2
      have y_e_3 := cell_regrown e_3
      have y_e_4 := cell_regrown e_4
      clear e_0 e_1 e_2 e_3 e_4
      have y_q_n_0 := cell_regrown q_n_0
      have y_q_n_1 := cell_regrown q_n_1
      have y_q_n_2 := cell_regrown q_n_2
      clear q_n_0 q_n_1 q_n_2
      have y_q_t_0 := cell_regrown q_t_0
      have y_q_t_1 := cell_regrown q_t_1
      clear q_t_0 q_t_1
      rcases hex with rfl | ⟨rfl, g1⟩ | ⟨rfl, g1, g2⟩ | ⟨rfl, g1, g2⟩
      case inr.inr.inr =>
        have HM := Lib.hid (show meets ⟨a, b, c⟩ lo hi ⟨⟨a', b', c'⟩, f, g⟩ = true by rw [HMM.out]; simp [g1, g2])
        rcases Int.lt_or_le fnd 0 with h0 | h0
        · have HX := Lib.hid (HHIT.out h0 HM.out)
          refine wp_region_plan (C := fun w' => ∃ p : Regrown, w' = grow (redrawn wr p.d) p.os) (.q 0 (.q 1 (.q 2 (.q 3 (.q 4 (.q 5 (.q 6 (.q 7 (.q 8 (.q 9 (.q 10 (.q 11 (.q 12 (.q 13 (.q 14 (.q 15 (.q 16 (.q 17 (.q 18 (.q 19 (.q 20 (.q 21 (.q 22 (.q 23 (.q 24 (.q 25 (.q 26 (.done)))))))))))))))))))))))))))) 27 (by kernel_rfl) (by kernel_rfl) (grew_drew _) ?_
          repeat (any_goals (first | (go_big_quiet_skip; refine wpQuiet_nil ?_) | (go_big_quiet_want; go_big_quiet_op; go_big_quiet_on; refine wpQuiet_nil ?_) | ((with_reducible apply q_split); exact rfl; intro q hq; cases q <;> (rw [hq]; (try first | replace hq := bnot_t hq | replace hq := bnot_f hq); (try first | replace hq := of_decide_eq_true hq | replace hq := of_decide_eq_false hq | replace hq := eq_of_beq hq); (try first | replace hq := Int.not_lt.1 hq | replace hq := Int.not_le.1 hq | replace hq := Nat.not_lt.1 hq | replace hq := Nat.not_le.1 hq); try (exfalso; omega))) | (refine plan_q rfl rfl ?_)))
          clear y_e_0 y_e_1 y_e_2 y_e_3 y_e_4
          clear y_q_n_0 y_q_n_1 y_q_n_2
          clear y_q_t_0 y_q_t_1
          clear hq
          all_goals refine plan_done ?_
          all_goals (try simp only [List.drop_succ_cons, List.drop_zero])
          all_goals (try go_wp2_with fail)
          all_goals refine NoPanic.normal ?_
          all_goals (try go_wp2_with fail)
          go_roundw
          case rel => exact ⟨k + 1, k, by omega, by go_num, rfl, HB_wr.drew, Lib.hid (HS.out.below (Below.refl _ _).drew), Lib.hid H_n.out.drew, Lib.hid H_t.out.drew, HX⟩
          case measure => simp [intOf]; omega
        · have HX := Lib.hid (HTWO.out h0 HM.out)
          refine wp_region_plan (C := fun w' => ∃ p : Regrown, w' = grow (redrawn wr p.d) p.os) (.q 0 (.q 1 (.q 2 (.q 3 (.q 4 (.q 5 (.q 6 (.q 7 (.q 8 (.q 9 (.q 10 (.q 11 (.q 12 (.q 13 (.q 14 (.q 15 (.q 16 (.q 17 (.q 18 (.q 19 (.q 20 (.q 21 (.q 22 (.q 23 (.q 24 (.q 25 (.q 26 (.done)))))))))))))))))))))))))))) 27 (by kernel_rfl) (by kernel_rfl) (grew_drew _) ?_
          repeat (any_goals (first | (go_big_quiet_skip; refine wpQuiet_nil ?_) | (go_big_quiet_want; go_big_quiet_op; go_big_quiet_on; refine wpQuiet_nil ?_) | ((with_reducible apply q_split); exact rfl; intro q hq; cases q <;> (rw [hq]; (try first | replace hq := bnot_t hq | replace hq := bnot_f hq); (try first | replace hq := of_decide_eq_true hq | replace hq := of_decide_eq_false hq | replace hq := eq_of_beq hq); (try first | replace hq := Int.not_lt.1 hq | replace hq := Int.not_le.1 hq | replace hq := Nat.not_lt.1 hq | replace hq := Nat.not_le.1 hq); try (exfalso; omega))) | (refine plan_q rfl rfl ?_)))
          clear y_e_0 y_e_1 y_e_2 y_e_3 y_e_4
          clear y_q_n_0 y_q_n_1 y_q_n_2
          clear y_q_t_0 y_q_t_1
          clear hq
          all_goals refine plan_done ?_
          all_goals (try simp only [List.drop_succ_cons, List.drop_zero])
          all_goals (try go_wp2_with fail)
          all_goals refine NoPanic.normal ?_
          all_goals (try go_wp2_with fail)
          go_ret2
          exact ⟨ret_pair HX.out, HB_wr.drew⟩
      all_goals
        have HX := Lib.hid (HMISS.out (by rw [HMM.out]; first | rfl | (simp; omega)))
        refine wp_region_plan (C := fun w' => ∃ p : Regrown, w' = grow (redrawn wr p.d) p.os) (.q 0 (.q 1 (.q 2 (.q 3 (.q 4 (.q 5 (.q 6 (.q 7 (.q 8 (.q 9 (.q 10 (.q 11 (.q 12 (.q 13 (.q 14 (.q 15 (.q 16 (.q 17 (.q 18 (.q 19 (.q 20 (.q 21 (.q 22 (.q 23 (.q 24 (.q 25 (.q 26 (.done)))))))))))))))))))))))))))) 27 (by kernel_rfl) (by kernel_rfl) (grew_drew _) ?_
        repeat (any_goals (first | (go_big_quiet_skip; refine wpQuiet_nil ?_) | (go_big_quiet_want; go_big_quiet_op; go_big_quiet_on; refine wpQuiet_nil ?_) | ((with_reducible apply q_split); exact rfl; intro q hq; cases q <;> (rw [hq]; (try first | replace hq := bnot_t hq | replace hq := bnot_f hq); (try first | replace hq := of_decide_eq_true hq | replace hq := of_decide_eq_false hq | replace hq := eq_of_beq hq); (try first | replace hq := Int.not_lt.1 hq | replace hq := Int.not_le.1 hq | replace hq := Nat.not_lt.1 hq | replace hq := Nat.not_le.1 hq); try (exfalso; omega))) | (refine plan_q rfl rfl ?_)))
        clear y_e_0 y_e_1 y_e_2 y_e_3 y_e_4
        clear y_q_n_0 y_q_n_1 y_q_n_2
        clear y_q_t_0 y_q_t_1
        clear hq
        all_goals refine plan_done ?_
        all_goals (try simp only [List.drop_succ_cons, List.drop_zero])
        all_goals (try go_wp2_with fail)
        all_goals refine NoPanic.normal ?_
        all_goals (try go_wp2_with fail)
        go_roundw
        case rel => exact ⟨k + 1, fnd, by omega, by go_num, rfl, HB_wr.drew, Lib.hid (HS.out.below (Below.refl _ _).drew), Lib.hid H_n.out.drew, Lib.hid H_t.out.drew, HX⟩
        case measure => simp [intOf]; omega
    · have hkk : k = l.length := by omega
      have HX := Lib.hid (HE.out fnd (by have := HF.out; rwa [hkk] at this))
      clear hkk
      rcases HX.out with ⟨h0, hp⟩ | ⟨h0, hp⟩
      all_goals
        have HP := Lib.hid hp
        clear hp
        go_wp2_with fail
        go_ret2
        exact ⟨ret_pair HP.out, HB_wr⟩
end Go.Proofs.YtpdecgbfnhaojaaGreat
