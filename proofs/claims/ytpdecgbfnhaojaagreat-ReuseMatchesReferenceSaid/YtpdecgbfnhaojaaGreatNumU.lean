/-
  The reference functions of 'number': Free, Rows, Asked.
-/
import Derived.Test.YtpdecgbfnhaojaaGreatNumT
import Derived.Test.YtpdecgbfnhaojaaGreatNumD
namespace Go.Proofs.YtpdecgbfnhaojaaGreat
open Go.RowKit Nb Sk Go.Sort

set_option maxRecDepth 100000 in
set_option maxHeartbeats 1000000 in
theorem rfree_any (ao : Option Addr) (n cap : Nat) (l : List Us) (a b c t : Int) (w : World) (hs : Sl w 5 cU ao n cap l) :
    Calls Tryz.prog 73 #[.slice ao n cap, .agg #[.int .i64 a, .int .i64 b, .int .i64 c], .int .i64 t] w (Ret w (.bool (!used l ⟨a, b, c⟩ t))) := by
  obtain rfl := hs.len
  have hcap := hs.max
  have hle := hs.le
  unfold maxLen at hcap
  obtain ⟨W0, hW0, HB_W0, hZ, hn⟩ := boxes1 w [.int .i64 a, .int .i64 b, .int .i64 c] 29
  have H_n := Lib.hid hn
  have HS := Lib.hid (hs.below HB_W0)
  clear hs hn hZ
  obtain ⟨p, hp⟩ : ∃ p, used l ⟨a, b, c⟩ t = p := ⟨_, rfl⟩
  have HP := Lib.hid hp
  rw [hp]
  clear hp
  go_enter Tryz.func73, Tryz.ntmps73
  go_wp2_with fail
  clear hW0
  go_loopw [7] (fun i wr => ∃ k : Nat, k ≤ l.length ∧ i = .int .i64 k ∧ Below w.heap.size w wr ∧ Hid (Sl wr 5 cU ao l.length cap l) ∧ Hid (Box wr w.heap.size 29 [.int .i64 a, .int .i64 b, .int .i64 c]) ∧ Hid (used (l.take k) ⟨a, b, c⟩ t = false)) (fun i _ => l.length - (intOf i).toNat)
  case atStart => exact ⟨0, by omega, rfl, HB_W0, HS, H_n, rfl⟩
  case round =>
    clear HS H_n
    obtain ⟨k, hk, rfl, HB_wr, HS, H_n, HU⟩ := hrel
    by_cases hkl : k < l.length
    · have HUS := Lib.hid (show used (l.take (k + 1)) ⟨a, b, c⟩ t = (false || (decide (l[k].nm = ⟨a, b, c⟩) && cov l[k] t)) by rw [List.take_succ_eq_append_getElem hkl, used_snoc, HU.out])
      have HMEM := Lib.hid (show (decide (l[k].nm = ⟨a, b, c⟩) && cov l[k] t) = true → p = true from fun h => by rw [← HP.out]; exact List.any_eq_true.2 ⟨l[k], List.getElem_mem hkl, h⟩)
      obtain ⟨bb, off, rfl, hbb, hrow⟩ := HS.out.get hkl
      obtain ⟨e_0, e_1, e_2, e_3, e_4⟩ := (hrow k hkl).c5
      clear hrow
      generalize l[k] = u at *
      obtain ⟨⟨a', b', c'⟩, f, g⟩ := u
      have hcv : cov ⟨⟨a', b', c'⟩, f, g⟩ t = covI f g t := rfl
      rw [hcv] at HUS HMEM
      dsimp only at e_0 e_1 e_2 e_3 e_4 HUS HMEM
      clear hcv
      have hq := eql_name a' b' c' a b c
      generalize decide ((⟨a', b', c'⟩ : Nm) = ⟨a, b, c⟩) = q at *
      obtain ⟨q_n_0, q_n_1, q_n_2⟩ := H_n.out.c3
      go_wp2_with fail
      have y_e_0 := cell_regrown e_0
      have y_e_1 := cell_regrown e_1
      have y_e_2 := cell_regrown e_2
      have y_e_3 := cell_regrown e_3
      have y_e_4 := cell_regrown e_4
      clear e_0 e_1 e_2 e_3 e_4
      have y_q_n_0 := cell_regrown q_n_0
      have y_q_n_1 := cell_regrown q_n_1
      have y_q_n_2 := cell_regrown q_n_2
      clear q_n_0 q_n_1 q_n_2
      cases q
      ·
        refine wp_region_plan (C := fun w' => ∃ p : Regrown, w' = grow (redrawn wr p.d) p.os) (.q 0 (.q 1 (.q 2 (.q 3 (.q 4 (.q 5 (.q 6 (.q 7 (.q 8 (.q 9 (.q 10 (.q 11 (.q 12 (.e 13 (.q 14 (.done)))))))))))))))) 15 (by kernel_rfl) (by kernel_rfl) (grew_drew _) ?_
        repeat (any_goals (first | (go_big_quiet_skip; refine wpQuiet_nil ?_) | (go_big_quiet_want; go_big_quiet_op; go_big_quiet_on; refine wpQuiet_nil ?_) | ((with_reducible apply q_split); exact rfl; intro q hq; cases q <;> (rw [hq]; (try first | replace hq := bnot_t hq | replace hq := bnot_f hq); (try first | replace hq := of_decide_eq_true hq | replace hq := of_decide_eq_false hq | replace hq := eq_of_beq hq); (try first | replace hq := Int.not_lt.1 hq | replace hq := Int.not_le.1 hq | replace hq := Nat.not_lt.1 hq | replace hq := Nat.not_le.1 hq); try (exfalso; omega))) | (refine plan_q rfl rfl ?_)))
        refine plan_e rfl ?_
        go_wp2_with fail
        refine MixPost.intro (by first | exact grew_drew _ | exact grew_of_below (by assumption)) ?_
        repeat (any_goals (first | (go_big_quiet_skip; refine wpQuiet_nil ?_) | (go_big_quiet_want; go_big_quiet_op; go_big_quiet_on; refine wpQuiet_nil ?_) | ((with_reducible apply q_split); exact rfl; intro q hq; cases q <;> (rw [hq]; (try first | replace hq := bnot_t hq | replace hq := bnot_f hq); (try first | replace hq := of_decide_eq_true hq | replace hq := of_decide_eq_false hq | replace hq := eq_of_beq hq); (try first | replace hq := Int.not_lt.1 hq | replace hq := Int.not_le.1 hq | replace hq := Nat.not_lt.1 hq | replace hq := Nat.not_le.1 hq); try (exfalso; omega))) | (refine plan_q rfl rfl ?_)))
        clear y_e_0 y_e_1 y_e_2 y_e_3 y_e_4
        clear y_q_n_0 y_q_n_1 y_q_n_2
        clear hq
        all_goals refine plan_done ?_
        all_goals (try simp only [List.drop_succ_cons, List.drop_zero])
        all_goals (try go_wp2_with fail)
        all_goals refine NoPanic.normal ?_
        all_goals (try go_wp2_with fail)
        go_roundw
        case rel => exact ⟨k + 1, by omega, by go_num, HB_wr.drew, Lib.hid (HS.out.below (Below.refl _ _).drew), Lib.hid H_n.out.drew, Lib.hid (HUS.out.trans rfl)⟩
        case measure => simp [intOf]; omega
      · have HCV := Lib.hid (show HB_wr = HB_wr from rfl)
        refine wp_region_plan (C := fun w' => ∃ p : Regrown, w' = grow (redrawn wr p.d) p.os) (.q 0 (.q 1 (.q 2 (.q 3 (.q 4 (.q 5 (.q 6 (.q 7 (.q 8 (.q 9 (.q 10 (.q 11 (.q 12 (.e 13 (.q 14 (.done)))))))))))))))) 15 (by kernel_rfl) (by kernel_rfl) (grew_drew _) ?_
        repeat (any_goals (first | (go_big_quiet_skip; refine wpQuiet_nil ?_) | (go_big_quiet_want; go_big_quiet_op; go_big_quiet_on; refine wpQuiet_nil ?_) | ((with_reducible apply q_split); exact rfl; intro q hq; cases q <;> (rw [hq]; (try first | replace hq := bnot_t hq | replace hq := bnot_f hq); (try first | replace hq := of_decide_eq_true hq | replace hq := of_decide_eq_false hq | replace hq := eq_of_beq hq); (try first | replace hq := Int.not_lt.1 hq | replace hq := Int.not_le.1 hq | replace hq := Nat.not_lt.1 hq | replace hq := Nat.not_le.1 hq); try (exfalso; omega))) | (refine plan_q rfl rfl ?_)))
        refine plan_e rfl ?_
        go_wp2_with fail
        refine (rcovers_any a' b' c' f g t _).mono ?_
        rintro e w3 ⟨rfl, hb_w3⟩
        have HW_w3 : Below wr.heap.size wr w3 := below_undrew hb_w3
        clear hb_w3
        go_wp2_with fail
        refine MixPost.intro (grew_of_below HW_w3) ?_
        repeat (any_goals (first | (go_big_quiet_skip; refine wpQuiet_nil ?_) | (go_big_quiet_want; go_big_quiet_op; go_big_quiet_on; refine wpQuiet_nil ?_) | ((with_reducible apply q_split); exact rfl; intro q hq; cases q <;> (rw [hq]; (try first | replace hq := bnot_t hq | replace hq := bnot_f hq); (try first | replace hq := of_decide_eq_true hq | replace hq := of_decide_eq_false hq | replace hq := eq_of_beq hq); (try first | replace hq := Int.not_lt.1 hq | replace hq := Int.not_le.1 hq | replace hq := Nat.not_lt.1 hq | replace hq := Nat.not_le.1 hq); try (exfalso; omega))) | (refine plan_q rfl rfl ?_)))
        clear y_e_0 y_e_1 y_e_2 y_e_3 y_e_4
        clear y_q_n_0 y_q_n_1 y_q_n_2
        have HB_w3 : Below w.heap.size w w3 := after0 HB_wr HW_w3
        have HS3 := Lib.hid (HS.out.below HW_w3)
        have H_n3 := Lib.hid (H_n.out.below HW_w3)
        generalize covI f g t = cv at *
        clear hq HCV HW_w3
        cases cv
        ·
          all_goals refine plan_done ?_
          all_goals (try simp only [List.drop_succ_cons, List.drop_zero])
          all_goals (try go_wp2_with fail)
          all_goals refine NoPanic.normal ?_
          all_goals (try go_wp2_with fail)
          go_roundw
          case rel => exact ⟨k + 1, by omega, by go_num, HB_w3, HS3, H_n3, Lib.hid (HUS.out.trans rfl)⟩
          case measure => simp [intOf]; omega
        · have HM2 := Lib.hid (HMEM.out rfl)
          clear HMEM HUS
          all_goals refine plan_done ?_
          all_goals (try simp only [List.drop_succ_cons, List.drop_zero])
          all_goals (try go_wp2_with fail)
          all_goals refine NoPanic.normal ?_
          all_goals (try go_wp2_with fail)
          go_ret
          exact ⟨ret_bool' (by rw [HM2.out]; rfl), HB_w3⟩
    · have HE := Lib.hid (show p = false by rw [← HP.out, ← HU.out, List.take_of_length_le (by omega)])
      go_wp2_with fail
      go_ret
      exact ⟨ret_bool' (by rw [HE.out]; rfl), HB_wr⟩

/-- what the loop of Rows has met before place i -/
def RR (l : List Us) (i : Nat) : Prop := ∀ j (h : j < l.length), j < i → rowI l[j].nm.st l[j].nm.kd l[j].nm.nu l[j].fr l[j].fe = true ∧ (∀ k (h' : k < l.length), k + 1 = j → l[k].fr ≤ l[j].fr) ∧ ∀ k (h' : k < l.length), k < j → l[k].nm = l[j].nm → l[k].fe ≤ l[j].fr
theorem rowI_iff {u : Us} : rowI u.nm.st u.nm.kd u.nm.nu u.fr u.fe = true ↔ okN u.nm = true ∧ 0 ≤ u.fr ∧ u.fr < u.fe ∧ u.fe ≤ 10000000 := by
  unfold rowI
  simp only [Bool.and_eq_true, tm_iff, decide_eq_true_eq]
  constructor
  · rintro ⟨⟨⟨h1, h2⟩, h3⟩, h4⟩; exact ⟨h1, h2.1, h4, h3.2⟩
  · rintro ⟨h1, h2, h3, h4⟩; exact ⟨⟨⟨h1, by omega⟩, by omega⟩, h3⟩
theorem rr_ok {l : List Us} (h2 : l.length ≤ 200) (h : RR l l.length) : RowsOk l := by
  refine ⟨h2, fun u hu => ?_, ?_, ?_⟩
  · obtain ⟨j, hj, rfl⟩ := List.getElem_of_mem hu
    exact rowI_iff.1 (h j hj hj).1
  · rw [List.pairwise_iff_getElem]
    intro i j hi hj hij
    have key : ∀ d, ∀ (hd : i + d < l.length), l[i].fr ≤ l[i + d].fr := by
      intro d
      induction d with
      | zero => intro hd; exact Int.le_refl _
      | succ d ih =>
        intro hd
        have := ih (by omega)
        have := (h (i + (d + 1)) hd hd).2.1 (i + d) (by omega) (by omega)
        omega
    have := key (j - i) (by omega)
    have e : i + (j - i) = j := by omega
    simpa only [e] using this
  · rw [List.pairwise_iff_getElem]
    intro i j hi hj hij hn
    exact (h j hj hj).2.2 i hi hij hn
theorem ok_rr {l : List Us} (h : RowsOk l) (i : Nat) : RR l i := fun j hj _ =>
  ⟨rowI_iff.2 (h.ok _ (List.getElem_mem hj)), fun k hk e => List.pairwise_iff_getElem.1 h.mono k j hk hj (by omega), fun k hk e => List.pairwise_iff_getElem.1 h.disj k j hk hj e⟩

set_option maxRecDepth 100000 in
set_option maxHeartbeats 2000000 in
theorem rrows_any (ao : Option Addr) (n cap : Nat) (l : List Us) (w : World) (hs : Sl w 5 cU ao n cap l) :
    Calls Tryz.prog 42 #[.slice ao n cap] w (Ret w (.bool (rows l))) := by
  obtain rfl := hs.len
  have hcap := hs.max
  have hle := hs.le
  unfold maxLen at hcap
  have HS := Lib.hid hs
  clear hs
  by_cases h200 : 200 < l.length
  · go_enter Tryz.func42, Tryz.ntmps42
    go_wp2
    go_ret
    exact ⟨ret_bool (by simp [rows]; omega), Below.refl _ _⟩
  have h200' : l.length ≤ 200 := by omega
  have HNO : Hid (¬ RR l l.length → rows l = false) := fun h => by
    rw [Bool.eq_false_iff]; exact fun h' => h (ok_rr (rows_iff.1 h') _)
  have HYES : Hid (RR l l.length → rows l = true) := fun h => rows_iff.2 (rr_ok h200' h)
  generalize rows l = res at *
  go_enter Tryz.func42, Tryz.ntmps42
  go_wp2_with fail
  go_loopw [3] (fun i wr => ∃ k : Nat, k ≤ l.length ∧ i = .int .i64 k ∧ Below w.heap.size w wr ∧ Hid (RR l k)) (fun i _ => l.length - (intOf i).toNat)
  case atStart => exact ⟨0, by omega, rfl, Below.refl _ _, fun j _ h => absurd h (Nat.not_lt_zero _)⟩
  case round =>
    obtain ⟨i, hi, rfl, HB_wr, HR⟩ := hrel
    by_cases hil : i < l.length
    · have HSr := Lib.hid (HS.out.below HB_wr)
      have HROW := Lib.hid (show ∀ q, rowI l[i].nm.st l[i].nm.kd l[i].nm.nu l[i].fr l[i].fe = q → q = false → res = false from fun q hq h => HNO.out (fun h' => by have := (h' i hil hil).1; rw [hq, h] at this; cases this))
      have HSTEP := Lib.hid (show rowI l[i].nm.st l[i].nm.kd l[i].nm.nu l[i].fr l[i].fe = true → (∀ k (h' : k < l.length), k + 1 = i → l[k].fr ≤ l[i].fr) → (∀ k (h' : k < l.length), k < i → l[k].nm = l[i].nm → l[k].fe ≤ l[i].fr) → RR l (i + 1) from fun h1 h2 h3 j hj hji => by
        rcases Nat.lt_succ_iff_lt_or_eq.1 hji with h | rfl
        · exact HR.out j hj h
        · exact ⟨h1, h2, h3⟩)
      have HMONO := Lib.hid (show ∀ k (h' : k < l.length), k + 1 = i → l[i].fr < l[k].fr → res = false from fun k hk e h => HNO.out (fun h' => by have := (h' i hil hil).2.1 k hk e; omega))
      have HDISJ := Lib.hid (show ∀ k (h' : k < l.length), k < i → l[k].nm = l[i].nm → l[i].fr < l[k].fe → res = false from fun k hk e hn h => HNO.out (fun h' => by have := (h' i hil hil).2.2 k hk e hn; omega))
      obtain ⟨bb, off, rfl, hbb, hrow⟩ := HSr.out.get hil
      have HROWS := Lib.hid hrow
      obtain ⟨e_0, e_1, e_2, e_3, e_4⟩ := (hrow i hil).c5
      obtain ⟨u, hu⟩ : ∃ u, l[i] = u := ⟨_, rfl⟩
      have HUI := Lib.hid hu
      rw [hu] at HROW HSTEP HMONO HDISJ e_0 e_1 e_2 e_3 e_4
      clear hrow hu
      obtain ⟨⟨a, b, c⟩, f, g⟩ := u
      dsimp only at e_0 e_1 e_2 e_3 e_4 HROW HSTEP HMONO HDISJ
      cases hrw : rowI a b c f g
      · have HC := Lib.hid (show ∀ W, Calls Tryz.prog 81 #[.agg #[.int .i64 a, .int .i64 b, .int .i64 c, .int .i64 f, .int .i64 g]] W (Ret W (.bool false)) from fun W => by have := rrow_any a b c f g W; rwa [hrw] at this)
        have HF := Lib.hid (HROW.out _ hrw rfl)
        clear hrw
        go_wp2_with fail
        have y_e_0 := cell_regrown e_0
        have y_e_1 := cell_regrown e_1
        have y_e_2 := cell_regrown e_2
        have y_e_3 := cell_regrown e_3
        have y_e_4 := cell_regrown e_4
        clear e_0 e_1 e_2 e_3 e_4
        refine wp_region_plan (C := fun w' => ∃ p : Regrown, w' = grow (redrawn wr p.d) p.os) (.q 0 (.q 1 (.q 2 (.q 3 (.e 4 (.q 5 (.q 6 (.q 7 (.q 8 (.q 9 (.q 10 (.q 11 (.q 12 (.q 13 (.q 14 (.q 15 (.q 16 (.q 17 (.q 18 (.q 19 (.q 20 (.q 21 (.q 22 (.q 23 (.done))))))))))))))))))))))))) 24 (by kernel_rfl) (by kernel_rfl) (grew_drew _) ?_
        repeat (any_goals (first | (go_big_quiet_skip; refine wpQuiet_nil ?_) | (go_big_quiet_want; go_big_quiet_op; go_big_quiet_on; refine wpQuiet_nil ?_) | ((with_reducible apply q_split); exact rfl; intro q hq; cases q <;> (rw [hq]; (try first | replace hq := bnot_t hq | replace hq := bnot_f hq); (try first | replace hq := of_decide_eq_true hq | replace hq := of_decide_eq_false hq | replace hq := eq_of_beq hq); (try first | replace hq := Int.not_lt.1 hq | replace hq := Int.not_le.1 hq | replace hq := Nat.not_lt.1 hq | replace hq := Nat.not_le.1 hq); try (exfalso; omega))) | (refine plan_q rfl rfl ?_)))
        refine plan_e rfl ?_
        go_wp2_with fail
        refine (HC.out _).mono ?_
        rintro e w3 ⟨rfl, hb_w3⟩
        have HW_w3 : Below wr.heap.size wr w3 := below_undrew hb_w3
        clear hb_w3
        go_wp2_with fail
        refine MixPost.intro (grew_of_below HW_w3) ?_
        repeat (any_goals (first | (go_big_quiet_skip; refine wpQuiet_nil ?_) | (go_big_quiet_want; go_big_quiet_op; go_big_quiet_on; refine wpQuiet_nil ?_) | ((with_reducible apply q_split); exact rfl; intro q hq; cases q <;> (rw [hq]; (try first | replace hq := bnot_t hq | replace hq := bnot_f hq); (try first | replace hq := of_decide_eq_true hq | replace hq := of_decide_eq_false hq | replace hq := eq_of_beq hq); (try first | replace hq := Int.not_lt.1 hq | replace hq := Int.not_le.1 hq | replace hq := Nat.not_lt.1 hq | replace hq := Nat.not_le.1 hq); try (exfalso; omega))) | (refine plan_q rfl rfl ?_)))
        clear y_e_0 y_e_1 y_e_2 y_e_3 y_e_4
        all_goals refine plan_done ?_
        all_goals (try simp only [List.drop_succ_cons, List.drop_zero])
        all_goals (try go_wp2_with fail)
        all_goals refine NoPanic.normal ?_
        all_goals (try go_wp2_with fail)
        go_ret
        exact ⟨ret_bool' HF.out.symm, after0 HB_wr HW_w3⟩
      have HC := Lib.hid (show ∀ W, Calls Tryz.prog 81 #[.agg #[.int .i64 a, .int .i64 b, .int .i64 c, .int .i64 f, .int .i64 g]] W (Ret W (.bool true)) from fun W => by have := rrow_any a b c f g W; rwa [hrw] at this)
      have HST := Lib.hid (HSTEP.out hrw)
      clear hrw HROW HSTEP
      by_cases hmono : ∀ k (h' : k < l.length), k + 1 = i → l[k].fr ≤ f
      case neg =>
        have hex : ∃ k, ∃ (h' : k < l.length), k + 1 = i ∧ f < l[k].fr := by
          refine Classical.byContradiction fun hne => hmono fun k h' e => ?_
          rcases Int.lt_or_le f l[k].fr with h | h
          · exact absurd ⟨k, h', e, h⟩ hne
          · exact h
        obtain ⟨k, hk, e, hlt⟩ := hex
        have HF := Lib.hid (HMONO.out k hk e hlt)
        obtain ⟨p_0, p_1, p_2, p_3, p_4⟩ := (HROWS.out k hk).c5
        generalize l[k].fr = fp at *
        have hk0 : 0 < i := by omega
        obtain rfl : k = i - 1 := by omega
        clear hmono e
        go_wp2_with fail
        have y_e_0 := cell_regrown e_0
        have y_e_1 := cell_regrown e_1
        have y_e_2 := cell_regrown e_2
        have y_e_3 := cell_regrown e_3
        have y_e_4 := cell_regrown e_4
        clear e_0 e_1 e_2 e_3 e_4
        have y_p_0 := cell_regrown p_0
        have y_p_1 := cell_regrown p_1
        have y_p_2 := cell_regrown p_2
        have y_p_3 := cell_regrown p_3
        have y_p_4 := cell_regrown p_4
        clear p_0 p_1 p_2 p_3 p_4
        refine wp_region_plan (C := fun w' => ∃ p : Regrown, w' = grow (redrawn wr p.d) p.os) (.q 0 (.q 1 (.q 2 (.q 3 (.e 4 (.q 5 (.q 6 (.q 7 (.q 8 (.q 9 (.q 10 (.q 11 (.q 12 (.q 13 (.q 14 (.q 15 (.q 16 (.q 17 (.q 18 (.q 19 (.q 20 (.q 21 (.q 22 (.q 23 (.done))))))))))))))))))))))))) 24 (by kernel_rfl) (by kernel_rfl) (grew_drew _) ?_
        repeat (any_goals (first | (go_big_quiet_skip; refine wpQuiet_nil ?_) | (go_big_quiet_want; go_big_quiet_op; go_big_quiet_on; refine wpQuiet_nil ?_) | ((with_reducible apply q_split); exact rfl; intro q hq; cases q <;> (rw [hq]; (try first | replace hq := bnot_t hq | replace hq := bnot_f hq); (try first | replace hq := of_decide_eq_true hq | replace hq := of_decide_eq_false hq | replace hq := eq_of_beq hq); (try first | replace hq := Int.not_lt.1 hq | replace hq := Int.not_le.1 hq | replace hq := Nat.not_lt.1 hq | replace hq := Nat.not_le.1 hq); try (exfalso; omega))) | (refine plan_q rfl rfl ?_)))
        refine plan_e rfl ?_
        go_wp2_with fail
        refine (HC.out _).mono ?_
        rintro e w3 ⟨rfl, hb_w3⟩
        have HW_w3 : Below wr.heap.size wr w3 := below_undrew hb_w3
        clear hb_w3
        go_wp2_with fail
        refine MixPost.intro (grew_of_below HW_w3) ?_
        repeat (any_goals (first | (go_big_quiet_skip; refine wpQuiet_nil ?_) | (go_big_quiet_want; go_big_quiet_op; go_big_quiet_on; refine wpQuiet_nil ?_) | ((with_reducible apply q_split); exact rfl; intro q hq; cases q <;> (rw [hq]; (try first | replace hq := bnot_t hq | replace hq := bnot_f hq); (try first | replace hq := of_decide_eq_true hq | replace hq := of_decide_eq_false hq | replace hq := eq_of_beq hq); (try first | replace hq := Int.not_lt.1 hq | replace hq := Int.not_le.1 hq | replace hq := Nat.not_lt.1 hq | replace hq := Nat.not_le.1 hq); try (exfalso; omega))) | (refine plan_q rfl rfl ?_)))
        clear y_e_0 y_e_1 y_e_2 y_e_3 y_e_4
        clear y_p_0 y_p_1 y_p_2 y_p_3 y_p_4
        all_goals refine plan_done ?_
        all_goals (try simp only [List.drop_succ_cons, List.drop_zero])
        all_goals (try go_wp2_with fail)
        all_goals refine NoPanic.normal ?_
        all_goals (try go_wp2_with fail)
        go_ret
        exact ⟨ret_bool' HF.out.symm, after0 HB_wr HW_w3⟩
      have HMO := Lib.hid hmono
      have HST2 := Lib.hid (HST.out hmono)
      clear hmono HST HMONO
      rcases Nat.eq_zero_or_pos i with h0 | h0
      case' inl =>
        have hi0 : i ≤ 0 := by omega
        clear h0
        go_wp2_with fail
        have y_e_0 := cell_regrown e_0
        have y_e_1 := cell_regrown e_1
        have y_e_2 := cell_regrown e_2
        have y_e_3 := cell_regrown e_3
        have y_e_4 := cell_regrown e_4
        clear e_0 e_1 e_2 e_3 e_4
        refine wp_region_plan (C := fun w' => ∃ p : Regrown, w' = grow (redrawn wr p.d) p.os) (.q 0 (.q 1 (.q 2 (.q 3 (.e 4 (.q 5 (.q 6 (.q 7 (.q 8 (.q 9 (.q 10 (.q 11 (.q 12 (.q 13 (.q 14 (.q 15 (.q 16 (.q 17 (.q 18 (.q 19 (.q 20 (.q 21 (.q 22 (.q 23 (.done))))))))))))))))))))))))) 24 (by kernel_rfl) (by kernel_rfl) (grew_drew _) ?_
        repeat (any_goals (first | (go_big_quiet_skip; refine wpQuiet_nil ?_) | (go_big_quiet_want; go_big_quiet_op; go_big_quiet_on; refine wpQuiet_nil ?_) | ((with_reducible apply q_split); exact rfl; intro q hq; cases q <;> (rw [hq]; (try first | replace hq := bnot_t hq | replace hq := bnot_f hq); (try first | replace hq := of_decide_eq_true hq | replace hq := of_decide_eq_false hq | replace hq := eq_of_beq hq); (try first | replace hq := Int.not_lt.1 hq | replace hq := Int.not_le.1 hq | replace hq := Nat.not_lt.1 hq | replace hq := Nat.not_le.1 hq); try (exfalso; omega))) | (refine plan_q rfl rfl ?_)))
        refine plan_e rfl ?_
        go_wp2_with fail
        refine (HC.out _).mono ?_
        rintro e w3 ⟨rfl, hb_w3⟩
        have HW_w3 : Below wr.heap.size wr w3 := below_undrew hb_w3
        clear hb_w3
        go_wp2_with fail
        refine MixPost.intro (grew_of_below HW_w3) ?_
        repeat (any_goals (first | (go_big_quiet_skip; refine wpQuiet_nil ?_) | (go_big_quiet_want; go_big_quiet_op; go_big_quiet_on; refine wpQuiet_nil ?_) | ((with_reducible apply q_split); exact rfl; intro q hq; cases q <;> (rw [hq]; (try first | replace hq := bnot_t hq | replace hq := bnot_f hq); (try first | replace hq := of_decide_eq_true hq | replace hq := of_decide_eq_false hq | replace hq := eq_of_beq hq); (try first | replace hq := Int.not_lt.1 hq | replace hq := Int.not_le.1 hq | replace hq := Nat.not_lt.1 hq | replace hq := Nat.not_le.1 hq); try (exfalso; omega))) | (refine plan_q rfl rfl ?_)))
        clear y_e_0 y_e_1 y_e_2 y_e_3 y_e_4
        all_goals refine plan_done ?_
        all_goals (try simp only [List.drop_succ_cons, List.drop_zero])
        all_goals (try go_wp2_with fail)
        all_goals refine NoPanic.normal ?_
        all_goals (try go_wp2_with fail)
        clear hi0
      case' inr =>
        obtain ⟨p_0, p_1, p_2, p_3, p_4⟩ := (HROWS.out (i - 1) (by omega)).c5
        have hfp := HMO.out (i - 1) (by omega) (by omega)
        generalize l[i - 1].fr = fp at *
        go_wp2_with fail
        have y_e_0 := cell_regrown e_0
        have y_e_1 := cell_regrown e_1
        have y_e_2 := cell_regrown e_2
        have y_e_3 := cell_regrown e_3
        have y_e_4 := cell_regrown e_4
        clear e_0 e_1 e_2 e_3 e_4
        have y_p_0 := cell_regrown p_0
        have y_p_1 := cell_regrown p_1
        have y_p_2 := cell_regrown p_2
        have y_p_3 := cell_regrown p_3
        have y_p_4 := cell_regrown p_4
        clear p_0 p_1 p_2 p_3 p_4
        refine wp_region_plan (C := fun w' => ∃ p : Regrown, w' = grow (redrawn wr p.d) p.os) (.q 0 (.q 1 (.q 2 (.q 3 (.e 4 (.q 5 (.q 6 (.q 7 (.q 8 (.q 9 (.q 10 (.q 11 (.q 12 (.q 13 (.q 14 (.q 15 (.q 16 (.q 17 (.q 18 (.q 19 (.q 20 (.q 21 (.q 22 (.q 23 (.done))))))))))))))))))))))))) 24 (by kernel_rfl) (by kernel_rfl) (grew_drew _) ?_
        repeat (any_goals (first | (go_big_quiet_skip; refine wpQuiet_nil ?_) | (go_big_quiet_want; go_big_quiet_op; go_big_quiet_on; refine wpQuiet_nil ?_) | ((with_reducible apply q_split); exact rfl; intro q hq; cases q <;> (rw [hq]; (try first | replace hq := bnot_t hq | replace hq := bnot_f hq); (try first | replace hq := of_decide_eq_true hq | replace hq := of_decide_eq_false hq | replace hq := eq_of_beq hq); (try first | replace hq := Int.not_lt.1 hq | replace hq := Int.not_le.1 hq | replace hq := Nat.not_lt.1 hq | replace hq := Nat.not_le.1 hq); try (exfalso; omega))) | (refine plan_q rfl rfl ?_)))
        refine plan_e rfl ?_
        go_wp2_with fail
        refine (HC.out _).mono ?_
        rintro e w3 ⟨rfl, hb_w3⟩
        have HW_w3 : Below wr.heap.size wr w3 := below_undrew hb_w3
        clear hb_w3
        go_wp2_with fail
        refine MixPost.intro (grew_of_below HW_w3) ?_
        repeat (any_goals (first | (go_big_quiet_skip; refine wpQuiet_nil ?_) | (go_big_quiet_want; go_big_quiet_op; go_big_quiet_on; refine wpQuiet_nil ?_) | ((with_reducible apply q_split); exact rfl; intro q hq; cases q <;> (rw [hq]; (try first | replace hq := bnot_t hq | replace hq := bnot_f hq); (try first | replace hq := of_decide_eq_true hq | replace hq := of_decide_eq_false hq | replace hq := eq_of_beq hq); (try first | replace hq := Int.not_lt.1 hq | replace hq := Int.not_le.1 hq | replace hq := Nat.not_lt.1 hq | replace hq := Nat.not_le.1 hq); try (exfalso; omega))) | (refine plan_q rfl rfl ?_)))
        clear y_e_0 y_e_1 y_e_2 y_e_3 y_e_4
        clear y_p_0 y_p_1 y_p_2 y_p_3 y_p_4
        all_goals refine plan_done ?_
        all_goals (try simp only [List.drop_succ_cons, List.drop_zero])
        all_goals (try go_wp2_with fail)
        all_goals refine NoPanic.normal ?_
        all_goals (try go_wp2_with fail)
      all_goals
        try clear hq
        have HB_w3 : Below w.heap.size w w3 := after0 HB_wr HW_w3
        have HS3 := Lib.hid (HSr.out.below HW_w3)
        clear HW_w3
        go_loopw [4] (fun k wq => ∃ m : Nat, m ≤ i ∧ k = .int .i64 m ∧ Below w.heap.size w wq ∧ Hid (Sl wq 5 cU (some ⟨bb, off, none⟩) l.length cap l) ∧ Hid (∀ x (h' : x < l.length), x < m → l[x].nm = ⟨a, b, c⟩ → l[x].fe ≤ f)) (fun k _ => i - (intOf k).toNat)
        case atStart => exact ⟨0, by omega, rfl, HB_w3, HS3, fun j _ h => absurd h (Nat.not_lt_zero _)⟩
        case round =>
          clear HS3
          obtain ⟨m, hm, rfl, HB_wq, HSq, HX⟩ := hrel
          by_cases hmi : m < i
          · have hml : m < l.length := by omega
            have HXS := Lib.hid (show (l[m].nm = ⟨a, b, c⟩ → l[m].fe ≤ f) → ∀ x (h' : x < l.length), x < m + 1 → l[x].nm = ⟨a, b, c⟩ → l[x].fe ≤ f from fun h x h' hx => by
              rcases Nat.lt_succ_iff_lt_or_eq.1 hx with h1 | rfl
              · exact HX.out x h' h1
              · exact h)
            have HDJ := Lib.hid (HDISJ.out m hml hmi)
            obtain ⟨b2, off2, e2, hb2, hrow⟩ := HSq.out.get hml
            simp only [Option.some.injEq, Addr.mk.injEq] at e2
            obtain ⟨rfl, rfl, _⟩ := e2
            obtain ⟨d_0, d_1, d_2, d_3, d_4⟩ := (hrow m hml).c5
            have hri := hrow i hil
            rw [HUI.out] at hri
            obtain ⟨e_0, e_1, e_2, e_3, e_4⟩ := hri.c5
            dsimp only at e_0 e_1 e_2 e_3 e_4
            clear hrow hri
            generalize l[m] = v at *
            obtain ⟨⟨a', b', c'⟩, f', g'⟩ := v
            dsimp only at d_0 d_1 d_2 d_3 d_4 HXS HDJ
            have hq := eql_name a' b' c' a b c
            obtain ⟨q, hqd⟩ : ∃ q, decide ((⟨a', b', c'⟩ : Nm) = ⟨a, b, c⟩) = q := ⟨_, rfl⟩
            have HQD := Lib.hid hqd
            rw [hqd] at hq
            clear hqd
            go_wp2_with fail
            have y_d_0 := cell_regrown d_0
            have y_d_1 := cell_regrown d_1
            have y_d_2 := cell_regrown d_2
            have y_d_3 := cell_regrown d_3
            have y_d_4 := cell_regrown d_4
            clear d_0 d_1 d_2 d_3 d_4
            have y_e_0 := cell_regrown e_0
            have y_e_1 := cell_regrown e_1
            have y_e_2 := cell_regrown e_2
            have y_e_3 := cell_regrown e_3
            have y_e_4 := cell_regrown e_4
            clear e_0 e_1 e_2 e_3 e_4
            cases q
            · have HXN := Lib.hid (HXS.out fun h => absurd h (of_decide_eq_false HQD.out))
              refine wp_region_plan (C := fun w' => ∃ p : Regrown, w' = grow (redrawn wr p.d) p.os) (.q 0 (.q 1 (.q 2 (.q 3 (.q 4 (.q 5 (.q 6 (.q 7 (.q 8 (.q 9 (.q 10 (.q 11 (.q 12 (.q 13 (.q 14 (.q 15 (.q 16 (.q 17 (.q 18 (.q 19 (.q 20 (.q 21 (.q 22 (.q 23 (.done))))))))))))))))))))))))) 24 (by kernel_rfl) (by kernel_rfl) (grew_drew _) ?_
              repeat (any_goals (first | (go_big_quiet_skip; refine wpQuiet_nil ?_) | (go_big_quiet_want; go_big_quiet_op; go_big_quiet_on; refine wpQuiet_nil ?_) | ((with_reducible apply q_split); exact rfl; intro q hq; cases q <;> (rw [hq]; (try first | replace hq := bnot_t hq | replace hq := bnot_f hq); (try first | replace hq := of_decide_eq_true hq | replace hq := of_decide_eq_false hq | replace hq := eq_of_beq hq); (try first | replace hq := Int.not_lt.1 hq | replace hq := Int.not_le.1 hq | replace hq := Nat.not_lt.1 hq | replace hq := Nat.not_le.1 hq); try (exfalso; omega))) | (refine plan_q rfl rfl ?_)))
              clear y_d_0 y_d_1 y_d_2 y_d_3 y_d_4
              clear y_e_0 y_e_1 y_e_2 y_e_3 y_e_4
              clear hq
              all_goals refine plan_done ?_
              all_goals (try simp only [List.drop_succ_cons, List.drop_zero])
              all_goals (try go_wp2_with fail)
              all_goals refine NoPanic.normal ?_
              all_goals (try go_wp2_with fail)
              go_roundw
              case rel => exact ⟨m + 1, by omega, by go_num, HB_wq.drew, Lib.hid (HSq.out.below (Below.refl _ _).drew), HXN⟩
              case measure => simp [intOf]; omega
            · by_cases hlt : f < g'
              · have HF := Lib.hid (HDJ.out (of_decide_eq_true HQD.out) hlt)
                refine wp_region_plan (C := fun w' => ∃ p : Regrown, w' = grow (redrawn wr p.d) p.os) (.q 0 (.q 1 (.q 2 (.q 3 (.q 4 (.q 5 (.q 6 (.q 7 (.q 8 (.q 9 (.q 10 (.q 11 (.q 12 (.q 13 (.q 14 (.q 15 (.q 16 (.q 17 (.q 18 (.q 19 (.q 20 (.q 21 (.q 22 (.q 23 (.done))))))))))))))))))))))))) 24 (by kernel_rfl) (by kernel_rfl) (grew_drew _) ?_
                repeat (any_goals (first | (go_big_quiet_skip; refine wpQuiet_nil ?_) | (go_big_quiet_want; go_big_quiet_op; go_big_quiet_on; refine wpQuiet_nil ?_) | ((with_reducible apply q_split); exact rfl; intro q hq; cases q <;> (rw [hq]; (try first | replace hq := bnot_t hq | replace hq := bnot_f hq); (try first | replace hq := of_decide_eq_true hq | replace hq := of_decide_eq_false hq | replace hq := eq_of_beq hq); (try first | replace hq := Int.not_lt.1 hq | replace hq := Int.not_le.1 hq | replace hq := Nat.not_lt.1 hq | replace hq := Nat.not_le.1 hq); try (exfalso; omega))) | (refine plan_q rfl rfl ?_)))
                clear y_d_0 y_d_1 y_d_2 y_d_3 y_d_4
                clear y_e_0 y_e_1 y_e_2 y_e_3 y_e_4
                clear hq
                all_goals refine plan_done ?_
                all_goals (try simp only [List.drop_succ_cons, List.drop_zero])
                all_goals (try go_wp2_with fail)
                all_goals refine NoPanic.normal ?_
                all_goals (try go_wp2_with fail)
                go_ret
                exact ⟨ret_bool' HF.out.symm, HB_wq.drew⟩
              · have hle2 : g' ≤ f := by omega
                have hdf : decide (f < g') = false := decide_eq_false hlt
                clear hlt
                have HXN := Lib.hid (HXS.out fun h => hle2)
                refine wp_region_plan (C := fun w' => ∃ p : Regrown, w' = grow (redrawn wr p.d) p.os) (.q 0 (.q 1 (.q 2 (.q 3 (.q 4 (.q 5 (.q 6 (.q 7 (.q 8 (.q 9 (.q 10 (.q 11 (.q 12 (.q 13 (.q 14 (.q 15 (.q 16 (.q 17 (.q 18 (.q 19 (.q 20 (.q 21 (.q 22 (.q 23 (.done))))))))))))))))))))))))) 24 (by kernel_rfl) (by kernel_rfl) (grew_drew _) ?_
                repeat (any_goals (first | (go_big_quiet_skip; refine wpQuiet_nil ?_) | (go_big_quiet_want; go_big_quiet_op; go_big_quiet_on; refine wpQuiet_nil ?_) | ((with_reducible apply q_split); exact rfl; intro q hq; cases q <;> (rw [hq]; (try first | replace hq := bnot_t hq | replace hq := bnot_f hq); (try first | replace hq := of_decide_eq_true hq | replace hq := of_decide_eq_false hq | replace hq := eq_of_beq hq); (try first | replace hq := Int.not_lt.1 hq | replace hq := Int.not_le.1 hq | replace hq := Nat.not_lt.1 hq | replace hq := Nat.not_le.1 hq); try (exfalso; omega))) | (refine plan_q rfl rfl ?_)))
                clear y_d_0 y_d_1 y_d_2 y_d_3 y_d_4
                clear y_e_0 y_e_1 y_e_2 y_e_3 y_e_4
                clear hq
                all_goals refine plan_done ?_
                all_goals (try simp only [List.drop_succ_cons, List.drop_zero])
                all_goals (try go_wp2_with fail)
                all_goals refine NoPanic.normal ?_
                all_goals (try go_wp2_with fail)
                go_roundw
                case rel => exact ⟨m + 1, by omega, by go_num, HB_wq.drew, Lib.hid (HSq.out.below (Below.refl _ _).drew), HXN⟩
                case measure => simp [intOf]; omega
          · have HRN := Lib.hid (HST2.out (fun k hk h => HX.out k hk (by omega)))
            go_wp2_with fail
            go_roundw
            case rel => exact ⟨i + 1, by omega, by go_num, HB_wq, HRN⟩
            case measure => simp [intOf]; omega
    · have HE := Lib.hid (HYES.out (by have := HR.out; rwa [show i = l.length by omega] at this))
      go_wp2_with fail
      go_ret
      exact ⟨ret_bool' HE.out.symm, HB_wr⟩

theorem asked_bad {l : List Us} {st kd now : Int} (h : (rows l && okN ⟨st, kd, 1⟩ && tm now) = false) : asked l st kd now = 1 := by
  simp only [Bool.and_eq_false_iff] at h
  rcases h with (h | h) | h
  · exact asked_one (.inl h)
  · exact asked_one (.inr (.inl h))
  · exact asked_one (.inr (.inr h))

set_option maxRecDepth 100000 in
set_option maxHeartbeats 2000000 in
theorem rasked_any (ao : Option Addr) (n cap : Nat) (l : List Us) (st kd now : Int) (w : World) (hs : Sl w 5 cU ao n cap l) :
    Calls Tryz.prog 72 #[.slice ao n cap, .int .i64 st, .int .i64 kd, .int .i64 now] w (Ret w (.int .i64 (asked l st kd now))) := by
  obtain rfl := hs.len
  have hcap := hs.max
  have hle := hs.le
  unfold maxLen at hcap
  have HS := Lib.hid hs
  clear hs
  have HB_w : Below w.heap.size w w := Below.refl _ _
  have HBAD := Lib.hid (@asked_bad l st kd now)
  have HOK := Lib.hid (@asked_rest l st kd now)
  generalize asked l st kd now = r at *
  go_enter Tryz.func72, Tryz.ntmps72
  go_wp2_with fail
  refine (rrows_any _ _ _ l _ HS.out).mono ?_
  rintro e wa ⟨rfl, hb_wa⟩
  have HB_wa : Below w.heap.size w wa := by first | exact after0 HB_w hb_wa | exact after1 HB_w hb_wa | exact after2 HB_w hb_wa | exact after3 HB_w hb_wa | exact after4 HB_w hb_wa | exact after5 HB_w hb_wa
  replace HS := Lib.hid (show Sl wa _ _ _ _ _ _ by first | exact HS.out.below hb_wa | exact (HS.out.below (grew1 (Below.refl _ _))).below hb_wa | exact (HS.out.below (grew2 (Below.refl _ _))).below hb_wa | exact (HS.out.below (grew3 (Below.refl _ _))).below hb_wa)
  cases h1 : rows l
  · go_wp2_with fail
    go_ret
    exact ⟨ret_int (HBAD.out (by rw [h1]; rfl)).symm, HB_wa⟩
  go_wp2_with fail
  refine (rvalid_any st kd 1 _).mono ?_
  rintro e wb ⟨rfl, hb_wb⟩
  have HB_wb : Below w.heap.size w wb := by first | exact after0 HB_wa hb_wb | exact after1 HB_wa hb_wb | exact after2 HB_wa hb_wb | exact after3 HB_wa hb_wb | exact after4 HB_wa hb_wb | exact after5 HB_wa hb_wb
  replace HS := Lib.hid (show Sl wb _ _ _ _ _ _ by first | exact HS.out.below hb_wb | exact (HS.out.below (grew1 (Below.refl _ _))).below hb_wb | exact (HS.out.below (grew2 (Below.refl _ _))).below hb_wb | exact (HS.out.below (grew3 (Below.refl _ _))).below hb_wb)
  cases h2 : okN ⟨st, kd, 1⟩
  · go_wp2_with fail
    go_ret
    exact ⟨ret_int (HBAD.out (by rw [h1, h2]; rfl)).symm, HB_wb⟩
  go_wp2_with fail
  refine (rtime_any now _).mono ?_
  rintro e wc ⟨rfl, hb_wc⟩
  have HB_wc : Below w.heap.size w wc := by first | exact after0 HB_wb hb_wc | exact after1 HB_wb hb_wc | exact after2 HB_wb hb_wc | exact after3 HB_wb hb_wc | exact after4 HB_wb hb_wc | exact after5 HB_wb hb_wc
  replace HS := Lib.hid (show Sl wc _ _ _ _ _ _ by first | exact HS.out.below hb_wc | exact (HS.out.below (grew1 (Below.refl _ _))).below hb_wc | exact (HS.out.below (grew2 (Below.refl _ _))).below hb_wc | exact (HS.out.below (grew3 (Below.refl _ _))).below hb_wc)
  cases h3 : tm now
  · go_wp2_with fail
    go_ret
    exact ⟨ret_int (HBAD.out (by rw [h1, h2, h3]; rfl)).symm, HB_wc⟩
  have HR := Lib.hid (HOK.out h1 h2 h3)
  clear h1 h2 h3 HBAD HOK
  rcases Nat.eq_zero_or_pos l.length with h0 | h0
  · have HZ := Lib.hid (show r = 0 by rw [HR.out, List.eq_nil_of_length_eq_zero h0]; rfl)
    have h0' : l.length ≤ 0 := by omega
    clear h0
    go_wp2_with fail
    go_ret
    exact ⟨ret_int HZ.out.symm, HB_wc⟩
  · obtain ⟨bb, off, rfl, hbb, hrow⟩ := HS.out.get h0
    obtain ⟨e_0, e_1, e_2, e_3, e_4⟩ := (hrow (l.length - 1) (by omega)).c5
    have HZ := Lib.hid (show r = if now < (l[l.length - 1]'(by omega)).fr then 13 else 0 by
      rw [HR.out, List.getLast?_eq_some_getLast (by intro e; rw [e] at h0; simp at h0), List.getLast_eq_getElem])
    clear HR hrow
    generalize (l[l.length - 1]'(by omega)) = u at *
    by_cases hlt : now < u.fr
    · have HZ2 := Lib.hid (HZ.out.trans (if_pos hlt))
      go_wp2_with fail
      go_ret
      exact ⟨ret_int HZ2.out.symm, HB_wc⟩
    · have HZ2 := Lib.hid (HZ.out.trans (if_neg hlt))
      have hlt' : u.fr ≤ now := by omega
      clear hlt
      go_wp2_with fail
      go_ret
      exact ⟨ret_int HZ2.out.symm, HB_wc⟩
end Go.Proofs.YtpdecgbfnhaojaaGreat
