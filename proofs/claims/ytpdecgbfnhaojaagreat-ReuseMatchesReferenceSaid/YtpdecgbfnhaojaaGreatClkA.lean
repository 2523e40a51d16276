/-
  Walks of the layer 'clock': the search, slip, low, high, first, Valid: what each returns; nothing that was there turns.
-/
import Derived.Test.YtpdecgbfnhaojaaGreatNumA
import Derived.Test.YtpdecgbfnhaojaaGreatCk
import Derived.Test.YtpdecgbfnhaojaaGreatPlan
set_option linter.unusedVariables false
namespace Go.Proofs.YtpdecgbfnhaojaaGreat
open Go.RowKit Nb Sk Ck Go.Sort

abbrev eC (c : Clk) : Value := .agg #[.int .i64 c.at_, .int .i64 c.lo, .int .i64 c.hi, .int .i64 c.dr]
abbrev cC (c : Clk) : List Value := [.int .i64 c.at_, .int .i64 c.lo, .int .i64 c.hi, .int .i64 c.dr]

set_option maxRecDepth 100000 in
set_option maxHeartbeats 1000000 in
theorem search_any (n k : Int) (g : Nat) (pr lb : Array Value) (w : World) (hn : n ≤ 1000000000) (hk0 : 0 ≤ k) (hkn : k ≤ n)
    (hp : ∀ W (x : Int), Below w.heap.size w W → 0 ≤ x → x < n → Calls Tryz.prog g (pr.push (.int .i64 x) ++ lb) W (Ret W (.bool (decide (k ≤ x)))))
    (eg : ∀ args w, (callFunc g args).run Tryz.prog w = .ok (.enter g args) w) :
    Calls Tryz.prog 49 #[.int .i64 n, .func (.func g) pr lb] w (Ret w (.int .i64 k)) := by
  have HP := Lib.hid hp
  clear hp
  go_enter Tryz.func49, Tryz.ntmps49
  go_wp2_with fail
  go_loopw [5, 6] (fun i j wr => ∃ a b : Int, i = .int .i64 a ∧ j = .int .i64 b ∧ 0 ≤ a ∧ a ≤ k ∧ k ≤ b ∧ b ≤ n ∧ Below w.heap.size w wr) (fun i j _ => (match i, j with | .int _ a, .int _ b => (b - a).toNat | _, _ => 0))
  case atStart => exact ⟨0, n, rfl, rfl, by omega, hk0, hkn, by omega, Below.refl _ _⟩
  case round =>
    obtain ⟨a, b, rfl, rfl, ha, hak, hkb, hbn, HB_wr⟩ := hrel
    by_cases hab : a < b
    · have h1 : a ≤ (a + b) / 2 ∧ (a + b) / 2 < b := by omega
      obtain ⟨h1a, h1b⟩ := h1
      go_wp2_with fail
      refine (HP.out wr ((a + b) / 2) HB_wr (by omega) (by omega)).mono ?_
      rintro e w2 ⟨rfl, hb2⟩
      have HB_w2 := after0 HB_wr hb2
      generalize (a + b) / 2 = h at *
      by_cases hkh : k ≤ h
      · have hd : decide (k ≤ h) = true := decide_eq_true hkh
        rw [hd]
        clear hd
        go_wp2_with fail
        go_roundw
        case rel => exact ⟨a, h, rfl, rfl, by omega, by omega, by omega, by omega, HB_w2⟩
        case measure => simp; omega
      · have hd : decide (k ≤ h) = false := decide_eq_false hkh
        rw [hd]
        clear hd
        go_wp2_with fail
        go_roundw
        case rel => exact ⟨h + 1, b, rfl, rfl, by omega, by omega, by omega, by omega, HB_w2⟩
        case measure => simp; omega
    · have h1 : k = a := by omega
      subst h1
      go_wp2_with fail
      go_ret
      exact ⟨rfl, HB_wr⟩

theorem cmoment_any (t : Int) (w : World) : Calls Tryz.prog 46 #[.int .i64 t] w (Ret w (.bool (tm t))) := by
  go_enter Tryz.func46, Tryz.ntmps46
  go_wp2
  all_goals
    go_ret
    refine ⟨ret_bool ?_, (Below.refl _ _)⟩
    simp [tm]; omega

theorem cvalid_any (c : Clk) (w : World) : Calls Tryz.prog 18 #[eC c] w (Ret w (.bool (okC c))) := by
  obtain ⟨a, b, d, e⟩ := c
  obtain ⟨W0, hW0, HB_W0, hZ, hn⟩ := boxes1 w [.int .i64 a, .int .i64 b, .int .i64 d, .int .i64 e] 27
  have H_n := Lib.hid hn
  clear hn hZ
  obtain ⟨q_n_0, q_n_1, q_n_2, q_n_3⟩ := H_n.out.c4
  go_enter Tryz.func18, Tryz.ntmps18
  go_wp2_with fail
  refine (cmoment_any _ _).mono ?_
  rintro e wa ⟨rfl, hb_wa⟩
  have HB_wa : Below w.heap.size w wa := by first | exact after0 HB_W0 hb_wa | exact after1 HB_W0 hb_wa | exact after2 HB_W0 hb_wa | exact after3 HB_W0 hb_wa | exact after4 HB_W0 hb_wa | exact after5 HB_W0 hb_wa
  try clear q_n_0 q_n_1 q_n_2 q_n_3
  have H_n := Lib.hid (Box.below (by first | exact H_n.out | exact H_n.out.alloc _ | exact (H_n.out.alloc _).alloc _ | exact ((H_n.out.alloc _).alloc _).alloc _) hb_wa)
  obtain ⟨q_n_0, q_n_1, q_n_2, q_n_3⟩ := H_n.out.c4
  clear hW0
  obtain ⟨v, hv⟩ : ∃ v, tm a = v := ⟨_, rfl⟩
  have HV := Lib.hid hv
  rw [hv]
  clear hv
  cases v
  all_goals
    go_wp2_with fail
  all_goals
    go_ret
    refine ⟨ret_bool ?_, HB_wa⟩
    have := HV.out
    simp [tm] at this
    simp [okC]; omega

theorem slip_any (c : Clk) (r : Int) (w : World) (h : okC c = true) (h1 : c.at_ ≤ r) (h2 : r ≤ 10000001) : Calls Tryz.prog 85 #[eC c, .int .i64 r] w (Ret w (.int .i64 (slip c r))) := by
  obtain ⟨b1, b2, b3, b4⟩ := slip_bd h h1 h2
  have ho := okC_iff.1 h
  obtain ⟨a, b, d, e⟩ := c
  dsimp only at *
  have HS := Lib.hid (show slip ⟨a, b, d, e⟩ r = e * (r - a) / 1000000 from rfl)
  generalize slip ⟨a, b, d, e⟩ r = s at *
  clear h
  go_enter Tryz.func85, Tryz.ntmps85
  go_wp2_with fail
  go_ret
  exact ⟨ret_int HS.out.symm, grew1 (Below.refl _ _)⟩
set_option maxRecDepth 100000 in
set_option maxHeartbeats 1000000 in
theorem low_any (c : Clk) (r : Int) (w : World) (h : okC c = true) (h1 : c.at_ ≤ r) (h2 : r ≤ 10000001) : Calls Tryz.prog 61 #[eC c, .int .i64 r] w (Ret w (.int .i64 (low c r))) := by
  obtain ⟨b1, b2, b3, b4⟩ := slip_bd h h1 h2
  have ho := okC_iff.1 h
  have HC := Lib.hid (fun W => slip_any c r W h h1 h2)
  obtain ⟨a, b, d, e⟩ := c
  dsimp only at *
  have HS := Lib.hid (show low ⟨a, b, d, e⟩ r = r + b - slip ⟨a, b, d, e⟩ r from rfl)
  generalize slip ⟨a, b, d, e⟩ r = s at *
  obtain ⟨W0, hW0, HB_W0, hZ, hn⟩ := boxes1 w [.int .i64 a, .int .i64 b, .int .i64 d, .int .i64 e] 66
  have H_n := Lib.hid hn
  clear hn hZ h b3 b4
  go_enter Tryz.func61, Tryz.ntmps61
  go_wp2_with fail
  obtain ⟨q_n_0, q_n_1, q_n_2, q_n_3⟩ := H_n.out.c4
  have y_q_n_0 := cell_regrown q_n_0
  have y_q_n_1 := cell_regrown q_n_1
  have y_q_n_2 := cell_regrown q_n_2
  have y_q_n_3 := cell_regrown q_n_3
  clear q_n_0 q_n_1 q_n_2 q_n_3
  clear hW0
  refine wp_region_plan (C := fun w' => ∃ p : Regrown, w' = grow (redrawn W0 p.d) p.os) (.q 0 (.q 1 (.q 2 (.q 3 (.q 4 (.q 5 (.q 6 (.e 7 (.q 8 (.q 9 (.done))))))))))) 10 (by kernel_rfl) (by kernel_rfl) (grew_drew _) ?_
  repeat (any_goals (first | (go_big_quiet_skip; refine wpQuiet_nil ?_) | (go_big_quiet_want; go_big_quiet_op; go_big_quiet_on; refine wpQuiet_nil ?_) | ((with_reducible apply q_split); exact rfl; intro q hq; cases q <;> (rw [hq]; (try first | replace hq := bnot_t hq | replace hq := bnot_f hq); (try first | replace hq := of_decide_eq_true hq | replace hq := of_decide_eq_false hq | replace hq := eq_of_beq hq); (try first | replace hq := Int.not_lt.1 hq | replace hq := Int.not_le.1 hq | replace hq := Nat.not_lt.1 hq | replace hq := Nat.not_le.1 hq); try (exfalso; omega))) | (refine plan_q rfl rfl ?_)))
  refine plan_e rfl ?_
  go_wp2_with fail
  refine (HC.out _).mono ?_
  rintro e w1 ⟨rfl, hb_w1⟩
  have HW_w1 : Below W0.heap.size W0 w1 := below_undrew hb_w1
  clear hb_w1
  go_wp2_with fail
  refine MixPost.intro (grew_of_below HW_w1) ?_
  repeat (any_goals (first | (go_big_quiet_skip; refine wpQuiet_nil ?_) | (go_big_quiet_want; go_big_quiet_op; go_big_quiet_on; refine wpQuiet_nil ?_) | ((with_reducible apply q_split); exact rfl; intro q hq; cases q <;> (rw [hq]; (try first | replace hq := bnot_t hq | replace hq := bnot_f hq); (try first | replace hq := of_decide_eq_true hq | replace hq := of_decide_eq_false hq | replace hq := eq_of_beq hq); (try first | replace hq := Int.not_lt.1 hq | replace hq := Int.not_le.1 hq | replace hq := Nat.not_lt.1 hq | replace hq := Nat.not_le.1 hq); try (exfalso; omega))) | (refine plan_q rfl rfl ?_)))
  clear y_q_n_0 y_q_n_1 y_q_n_2 y_q_n_3
  all_goals refine plan_done ?_
  all_goals (try simp only [List.drop_succ_cons, List.drop_zero])
  all_goals (try go_wp2_with fail)
  all_goals refine NoPanic.normal ?_
  all_goals (try go_wp2_with fail)
  go_ret
  exact ⟨ret_int HS.out.symm, after0 HB_W0 HW_w1⟩

set_option maxRecDepth 100000 in
set_option maxHeartbeats 1000000 in
theorem high_any (c : Clk) (r : Int) (w : World) (h : okC c = true) (h1 : c.at_ ≤ r) (h2 : r ≤ 10000001) : Calls Tryz.prog 60 #[eC c, .int .i64 r] w (Ret w (.int .i64 (high c r))) := by
  obtain ⟨b1, b2, b3, b4⟩ := slip_bd h h1 h2
  have ho := okC_iff.1 h
  have HC := Lib.hid (fun W => slip_any c r W h h1 h2)
  obtain ⟨a, b, d, e⟩ := c
  dsimp only at *
  have HS := Lib.hid (show high ⟨a, b, d, e⟩ r = r + d + slip ⟨a, b, d, e⟩ r from rfl)
  generalize slip ⟨a, b, d, e⟩ r = s at *
  obtain ⟨W0, hW0, HB_W0, hZ, hn⟩ := boxes1 w [.int .i64 a, .int .i64 b, .int .i64 d, .int .i64 e] 66
  have H_n := Lib.hid hn
  clear hn hZ h b3 b4
  go_enter Tryz.func60, Tryz.ntmps60
  go_wp2_with fail
  obtain ⟨q_n_0, q_n_1, q_n_2, q_n_3⟩ := H_n.out.c4
  have y_q_n_0 := cell_regrown q_n_0
  have y_q_n_1 := cell_regrown q_n_1
  have y_q_n_2 := cell_regrown q_n_2
  have y_q_n_3 := cell_regrown q_n_3
  clear q_n_0 q_n_1 q_n_2 q_n_3
  clear hW0
  refine wp_region_plan (C := fun w' => ∃ p : Regrown, w' = grow (redrawn W0 p.d) p.os) (.q 0 (.q 1 (.q 2 (.q 3 (.q 4 (.q 5 (.q 6 (.e 7 (.q 8 (.q 9 (.done))))))))))) 10 (by kernel_rfl) (by kernel_rfl) (grew_drew _) ?_
  repeat (any_goals (first | (go_big_quiet_skip; refine wpQuiet_nil ?_) | (go_big_quiet_want; go_big_quiet_op; go_big_quiet_on; refine wpQuiet_nil ?_) | ((with_reducible apply q_split); exact rfl; intro q hq; cases q <;> (rw [hq]; (try first | replace hq := bnot_t hq | replace hq := bnot_f hq); (try first | replace hq := of_decide_eq_true hq | replace hq := of_decide_eq_false hq | replace hq := eq_of_beq hq); (try first | replace hq := Int.not_lt.1 hq | replace hq := Int.not_le.1 hq | replace hq := Nat.not_lt.1 hq | replace hq := Nat.not_le.1 hq); try (exfalso; omega))) | (refine plan_q rfl rfl ?_)))
  refine plan_e rfl ?_
  go_wp2_with fail
  refine (HC.out _).mono ?_
  rintro e w1 ⟨rfl, hb_w1⟩
  have HW_w1 : Below W0.heap.size W0 w1 := below_undrew hb_w1
  clear hb_w1
  go_wp2_with fail
  refine MixPost.intro (grew_of_below HW_w1) ?_
  repeat (any_goals (first | (go_big_quiet_skip; refine wpQuiet_nil ?_) | (go_big_quiet_want; go_big_quiet_op; go_big_quiet_on; refine wpQuiet_nil ?_) | ((with_reducible apply q_split); exact rfl; intro q hq; cases q <;> (rw [hq]; (try first | replace hq := bnot_t hq | replace hq := bnot_f hq); (try first | replace hq := of_decide_eq_true hq | replace hq := of_decide_eq_false hq | replace hq := eq_of_beq hq); (try first | replace hq := Int.not_lt.1 hq | replace hq := Int.not_le.1 hq | replace hq := Nat.not_lt.1 hq | replace hq := Nat.not_le.1 hq); try (exfalso; omega))) | (refine plan_q rfl rfl ?_)))
  clear y_q_n_0 y_q_n_1 y_q_n_2 y_q_n_3
  all_goals refine plan_done ?_
  all_goals (try simp only [List.drop_succ_cons, List.drop_zero])
  all_goals (try go_wp2_with fail)
  all_goals refine NoPanic.normal ?_
  all_goals (try go_wp2_with fail)
  go_ret
  exact ⟨ret_int HS.out.symm, after0 HB_W0 HW_w1⟩

/-- an end of the possible times, as a function value -/
def IsEnd (g : Nat) (pr : Array Value) (E : Int → Int) (lo : Int) : Prop := ∀ W (r : Int), lo ≤ r → r ≤ 10000000 → Calls Tryz.prog g (pr.push (.int .i64 r)) W (Ret W (.int .i64 (E r)))

set_option maxRecDepth 100000 in
set_option maxHeartbeats 1000000 in
theorem first1_any (g : Nat) (pr : Array Value) (E : Int → Int) (a b d e t x : Int) (NE NC NT TE TC TT : Nat) (w : World) (hE : IsEnd g pr E a) (eg : ∀ args w, (callFunc g args).run Tryz.prog w = .ok (.enter g args) w)
    (h1 : Box w NE TE [.func (.func g) pr #[]]) (h2 : Box w NC TC [.int .i64 a, .int .i64 b, .int .i64 d, .int .i64 e]) (h3 : Box w NT TT [.int .i64 t]) (hx : 0 ≤ x) (ha : 0 ≤ a) (hax : a + x ≤ 10000000) :
    Calls Tryz.prog 84 #[.int .i64 x, .pointer (some ⟨NE, 0, none⟩), .pointer (some ⟨NC, 0, none⟩), .pointer (some ⟨NT, 0, none⟩)] w (Ret w (.bool (decide (t ≤ E (a + x))))) := by
  have H_e := Lib.hid h1
  have H_c := Lib.hid h2
  have H_t := Lib.hid h3
  have HC := Lib.hid (fun W => hE W (a + x) (by omega) hax)
  clear h1 h2 h3 hE
  generalize E (a + x) = v at *
  go_enter Tryz.func84, Tryz.ntmps84
  go_wp2_with fail
  have q_e_0 := H_e.out.c1
  obtain ⟨q_c_0, q_c_1, q_c_2, q_c_3⟩ := H_c.out.c4
  have q_t_0 := H_t.out.c1
  have y_q_e_0 := cell_regrown q_e_0
  clear q_e_0
  have y_q_c_0 := cell_regrown q_c_0
  have y_q_c_1 := cell_regrown q_c_1
  have y_q_c_2 := cell_regrown q_c_2
  have y_q_c_3 := cell_regrown q_c_3
  clear q_c_0 q_c_1 q_c_2 q_c_3
  have y_q_t_0 := cell_regrown q_t_0
  clear q_t_0
  refine wp_region_plan (C := fun w' => ∃ p : Regrown, w' = grow (redrawn w p.d) p.os) (.q 0 (.q 1 (.q 2 (.q 3 (.q 4 (.q 6 (.e 5 (.q 7 (.q 8 (.done)))))))))) 9 (by kernel_rfl) (by kernel_rfl) (grew_drew _) ?_
  repeat (any_goals (first | (go_big_quiet_skip; refine wpQuiet_nil ?_) | (go_big_quiet_want; go_big_quiet_op; go_big_quiet_on; refine wpQuiet_nil ?_) | ((with_reducible apply q_split); exact rfl; intro q hq; cases q <;> (rw [hq]; (try first | replace hq := bnot_t hq | replace hq := bnot_f hq); (try first | replace hq := of_decide_eq_true hq | replace hq := of_decide_eq_false hq | replace hq := eq_of_beq hq); (try first | replace hq := Int.not_lt.1 hq | replace hq := Int.not_le.1 hq | replace hq := Nat.not_lt.1 hq | replace hq := Nat.not_le.1 hq); try (exfalso; omega))) | (refine plan_q rfl rfl ?_)))
  refine plan_e rfl ?_
  go_wp2_with fail
  refine (HC.out _).mono ?_
  rintro e w1 ⟨rfl, hb_w1⟩
  have HW_w1 : Below w.heap.size w w1 := below_undrew hb_w1
  clear hb_w1
  go_wp2_with fail
  refine MixPost.intro (grew_of_below HW_w1) ?_
  repeat (any_goals (first | (go_big_quiet_skip; refine wpQuiet_nil ?_) | (go_big_quiet_want; go_big_quiet_op; go_big_quiet_on; refine wpQuiet_nil ?_) | ((with_reducible apply q_split); exact rfl; intro q hq; cases q <;> (rw [hq]; (try first | replace hq := bnot_t hq | replace hq := bnot_f hq); (try first | replace hq := of_decide_eq_true hq | replace hq := of_decide_eq_false hq | replace hq := eq_of_beq hq); (try first | replace hq := Int.not_lt.1 hq | replace hq := Int.not_le.1 hq | replace hq := Nat.not_lt.1 hq | replace hq := Nat.not_le.1 hq); try (exfalso; omega))) | (refine plan_q rfl rfl ?_)))
  clear y_q_e_0
  clear y_q_c_0 y_q_c_1 y_q_c_2 y_q_c_3
  clear y_q_t_0
  all_goals refine plan_done ?_
  all_goals (try simp only [List.drop_succ_cons, List.drop_zero])
  all_goals (try go_wp2_with fail)
  all_goals refine NoPanic.normal ?_
  all_goals (try go_wp2_with fail)
  go_ret
  exact ⟨rfl, HW_w1⟩

set_option maxRecDepth 100000 in
set_option maxHeartbeats 1000000 in
theorem first_any (c : Clk) (g : Nat) (pr : Array Value) (E : Int → Int) (t k : Int) (w : World) (hc : okC c = true) (hE : IsEnd g pr E c.at_) (eg : ∀ args w, (callFunc g args).run Tryz.prog w = .ok (.enter g args) w)
    (hk1 : c.at_ ≤ k) (hk2 : k ≤ 10000001) (hk : ∀ r, c.at_ ≤ r → r < 10000001 → (t ≤ E r ↔ k ≤ r)) :
    Calls Tryz.prog 59 #[eC c, .func (.func g) pr #[], .int .i64 t] w (Ret w (.int .i64 k)) := by
  obtain ⟨b1, b2, _⟩ := okC_iff.1 hc
  obtain ⟨a, b, d, e⟩ := c
  dsimp only at *
  obtain ⟨W0, hW0, HB_W0, hZ, hn, hf, ht⟩ := boxes3 w [.int .i64 a, .int .i64 b, .int .i64 d, .int .i64 e] [.func (.func g) pr #[]] [.int .i64 t] 66 68 3
  have H_c := Lib.hid hn
  have H_f := Lib.hid hf
  have H_t := Lib.hid ht
  have HK := Lib.hid hk
  have HS := Lib.hid (show ∀ W, Below W0.heap.size W0 W → Calls Tryz.prog 49 #[.int .i64 (10000001 - a), .func (.func 84) #[] #[.pointer (some ⟨w.heap.size + 1, 0, none⟩), .pointer (some ⟨w.heap.size, 0, none⟩), .pointer (some ⟨w.heap.size + 1 + 1, 0, none⟩)]] W (Ret W (.int .i64 (k - a))) from fun W hW => by
    refine search_any (10000001 - a) (k - a) 84 #[] _ W (by omega) (by omega) (by omega) (fun W' x hW' hx1 hx2 => ?_) (by intro args w; kernel_rfl)
    have h := first1_any g pr E a b d e t x _ _ _ _ _ _ W' hE eg ((H_f.out.below hW).below hW') ((H_c.out.below hW).below hW') ((H_t.out.below hW).below hW') hx1 b1 (by omega)
    rw [show decide (t ≤ E (a + x)) = decide (k - a ≤ x) by rw [decide_eq_decide, HK.out (a + x) (by omega) (by omega)]; omega] at h
    exact h)
  clear hn hf ht hZ hk hE
  go_enter Tryz.func59, Tryz.ntmps59
  go_wp2_with fail
  obtain ⟨q_c_0, q_c_1, q_c_2, q_c_3⟩ := H_c.out.c4
  have y_q_c_0 := cell_regrown q_c_0
  have y_q_c_1 := cell_regrown q_c_1
  have y_q_c_2 := cell_regrown q_c_2
  have y_q_c_3 := cell_regrown q_c_3
  clear q_c_0 q_c_1 q_c_2 q_c_3
  clear hW0
  refine wp_region_plan (C := fun w' => ∃ p : Regrown, w' = grow (redrawn W0 p.d) p.os) (.q 0 (.q 1 (.q 2 (.q 3 (.q 4 (.q 5 (.e 6 (.q 7 (.q 8 (.done)))))))))) 9 (by kernel_rfl) (by kernel_rfl) (grew_drew _) ?_
  repeat (any_goals (first | (go_big_quiet_skip; refine wpQuiet_nil ?_) | (go_big_quiet_want; go_big_quiet_op; go_big_quiet_on; refine wpQuiet_nil ?_) | ((with_reducible apply q_split); exact rfl; intro q hq; cases q <;> (rw [hq]; (try first | replace hq := bnot_t hq | replace hq := bnot_f hq); (try first | replace hq := of_decide_eq_true hq | replace hq := of_decide_eq_false hq | replace hq := eq_of_beq hq); (try first | replace hq := Int.not_lt.1 hq | replace hq := Int.not_le.1 hq | replace hq := Nat.not_lt.1 hq | replace hq := Nat.not_le.1 hq); try (exfalso; omega))) | (refine plan_q rfl rfl ?_)))
  refine plan_e rfl ?_
  go_wp2_with fail
  refine (HS.out _ below_drew).mono ?_
  rintro e w1 ⟨rfl, hb_w1⟩
  have HW_w1 : Below W0.heap.size W0 w1 := below_undrew hb_w1
  clear hb_w1
  go_wp2_with fail
  refine MixPost.intro (grew_of_below HW_w1) ?_
  repeat (any_goals (first | (go_big_quiet_skip; refine wpQuiet_nil ?_) | (go_big_quiet_want; go_big_quiet_op; go_big_quiet_on; refine wpQuiet_nil ?_) | ((with_reducible apply q_split); exact rfl; intro q hq; cases q <;> (rw [hq]; (try first | replace hq := bnot_t hq | replace hq := bnot_f hq); (try first | replace hq := of_decide_eq_true hq | replace hq := of_decide_eq_false hq | replace hq := eq_of_beq hq); (try first | replace hq := Int.not_lt.1 hq | replace hq := Int.not_le.1 hq | replace hq := Nat.not_lt.1 hq | replace hq := Nat.not_le.1 hq); try (exfalso; omega))) | (refine plan_q rfl rfl ?_)))
  clear y_q_c_0 y_q_c_1 y_q_c_2 y_q_c_3
  all_goals refine plan_done ?_
  all_goals (try simp only [List.drop_succ_cons, List.drop_zero])
  all_goals (try go_wp2_with fail)
  all_goals refine NoPanic.normal ?_
  all_goals (try go_wp2_with fail)
  go_ret
  exact ⟨ret_int (by omega), after0 HB_W0 HW_w1⟩
end Go.Proofs.YtpdecgbfnhaojaaGreat
