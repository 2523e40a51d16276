/-
  Walks of the layer 'schedule': whether the slots of a plan rise, whether it names pieces of jobs, whether a piece is in time; Done.
-/
import Derived.Test.YtheioedggjbphaaScI
set_option linter.unusedVariables false
namespace Sc
def rise (last : Int) : List Sn → Bool
  | [] => true
  | s :: l => decide (last < s.slot ∧ s.slot < 400) && rise s.slot l
def riseB (l : List Sn) : Bool := rise (-1) l
def nameB (J : List Jb) (s : Sn) : Bool := decide (0 ≤ s.job ∧ s.job < J.length ∧ 0 ≤ s.piece ∧ s.piece < (jat J s.job.toNat).pieces)
def namesB (J : List Jb) (l : List Sn) : Bool := riseB l && l.all (nameB J)
def inT (J : List Jb) (s : Sn) : Bool := decide ((jat J s.job.toNat).ready ≤ s.slot ∧ s.slot ≤ (jat J s.job.toNat).due)
theorem rise_drop {l : List Sn} {k : Nat} (h : k < l.length) (last : Int) : rise last (l.drop k) = (decide (last < l[k].slot ∧ l[k].slot < 400) && rise l[k].slot (l.drop (k + 1))) := by
  rw [List.drop_eq_getElem_cons h]; rfl
theorem namesB_eq (J : List Jb) (l : List Sn) : namesB J l = (riseB l && !l.any (fun s => !nameB J s)) := by
  unfold namesB
  rw [List.any_eq_not_all_not, Bool.not_not]
  simp only [Bool.not_not]
end Sc
namespace Go.Proofs.Ytheioedggjbphaa
open Go Go.RowKit Sc Sk Go.Sort
set_option maxRecDepth 100000 in
set_option maxHeartbeats 4000000 in
theorem rising_any (ao : Option Addr) (n cap : Nat) (l : List Sn) (w : World) (hs : Sl w 3 cS ao n cap l) : Calls Try.prog 52 #[.slice ao n cap] w (Ret w (.bool (riseB l))) := by
  obtain rfl := hs.len
  have hcap := hs.max
  have hle := hs.le
  unfold maxLen at hcap
  have HS := Lib.hid hs
  have HB_w : Below w.heap.size w w := Below.refl _ _
  have HD := Lib.hid (fun k h last => @rise_drop l k h last)
  clear hs
  obtain ⟨v, hv⟩ : ∃ v, riseB l = v := ⟨_, rfl⟩
  rw [hv]
  go_enter Try.func52, Try.ntmps52
  go_wp2_with fail
  go_loopw [3, 8] (fun la i wr => ∃ (k : Nat) (last : Int), k ≤ l.length ∧ la = .int .i64 last ∧ i = .int .i64 k ∧ Below w.heap.size w wr ∧ Hid (rise last (l.drop k) = v)) (fun _ i _ => l.length - (intOf i).toNat)
  case atStart => exact ⟨0, -1, Nat.zero_le _, rfl, rfl, HB_w, hv⟩
  case round =>
    clear hv
    obtain ⟨k, last, hk, rfl, rfl, HB_wr, HR⟩ := hrel
    by_cases hlt : k < l.length
    · obtain ⟨b, off, rfl, hb, hrow⟩ := HS.out.get hlt
      obtain ⟨e_0, e_1, e_2⟩ := ((hrow k hlt).below HB_wr hb).c3
      have HX := Lib.hid ((HD.out k hlt last).symm.trans HR.out)
      clear hrow HR
      generalize l[k] = x at *
      obtain ⟨x0, x1, x2⟩ := x
      dsimp only at e_0 e_1 e_2 HX
      obtain ⟨R, hR⟩ : ∃ R, wr.heap.size = R := ⟨_, rfl⟩
      obtain ⟨W1, hW1, hB1, hZ1, hb1⟩ := boxes1 wr [.int .i64 x0, .int .i64 x1, .int .i64 x2] 46
      rw [hR] at hb1
      have HB_W1 : Below w.heap.size w W1 := after0 HB_wr hB1
      obtain ⟨f_0, f_1, f_2⟩ := hb1.c3
      clear hb1 hB1 hZ1
      by_cases h1 : last < x0
      case neg =>
        have HP := Lib.hid (show v = false by rw [← HX.out, decide_eq_false (fun h => h1 h.1)]; rfl)
        replace h1 := Int.not_lt.1 h1
        go_wp2_with fail
        all_goals try (exfalso; omega)
        go_ret
        exact ⟨ret_bool' HP.out.symm, HB_W1⟩
      by_cases h2 : x0 < 400
      case neg =>
        have HP := Lib.hid (show v = false by rw [← HX.out, decide_eq_false (fun h => h2 h.2)]; rfl)
        replace h2 := Int.not_lt.1 h2
        go_wp2_with fail
        all_goals try (exfalso; omega)
        go_ret
        exact ⟨ret_bool' HP.out.symm, HB_W1⟩
      have HN := Lib.hid (show rise x0 (l.drop (k + 1)) = v by rw [← HX.out, decide_eq_true ⟨h1, h2⟩]; rfl)
      go_wp2_with fail
      all_goals try (exfalso; omega)
      go_roundw
      case rel => exact ⟨k + 1, x0, hlt, rfl, by go_num, HB_W1, HN⟩
      case measure => simp [intOf] <;> omega
    · obtain rfl : k = l.length := by omega
      have HP := Lib.hid (show true = v by have := HR.out; rw [List.drop_length] at this; exact this)
      go_wp2_with fail
      all_goals try (exfalso; omega)
      go_ret
      exact ⟨ret_bool' HP.out, HB_wr⟩
set_option maxRecDepth 100000 in
set_option maxHeartbeats 8000000 in
theorem names1_any (b : Nat) (jo : Option Addr) (n cap : Nat) (J : List Jb) (s : Sn) (w : World) (h : Box w b 22 [.slice jo n cap]) (hj : Sl w 4 cJ jo n cap J) :
    Calls Try.prog 57 (#[eS s] ++ #[.pointer (some ⟨b, 0, none⟩)]) w (Ret w (.bool (!nameB J s))) := by
  obtain rfl := hj.len
  have hcap := hj.max
  have hle := hj.le
  unfold maxLen at hcap
  obtain ⟨x0, x1, x2⟩ := s
  have HN := Lib.hid (show ¬ (0 ≤ x1 ∧ x1 < J.length ∧ 0 ≤ x2 ∧ x2 < (jat J x1.toNat).pieces) → (!nameB J ⟨x0, x1, x2⟩) = true from fun h => by unfold nameB; rw [decide_eq_false h]; rfl)
  have HY := Lib.hid (show (0 ≤ x1 ∧ x1 < J.length ∧ 0 ≤ x2 ∧ x2 < (jat J x1.toNat).pieces) → (!nameB J ⟨x0, x1, x2⟩) = false from fun h => by unfold nameB; rw [decide_eq_true h]; rfl)
  generalize (!nameB J ⟨x0, x1, x2⟩) = p at *
  show Calls Try.prog 57 #[.agg #[.int .i64 x0, .int .i64 x1, .int .i64 x2], .pointer (some ⟨b, 0, none⟩)] w (Ret w (.bool p))
  obtain ⟨W0, hW0, HB_W0, hZ, hn⟩ := boxes1 w [.int .i64 x0, .int .i64 x1, .int .i64 x2] 46
  obtain ⟨n_0, n_1, n_2⟩ := hn.c3
  have y_j := cell_regrown (h.below HB_W0).c1
  have HJ := Lib.hid (hj.below HB_W0)
  clear hZ hn h hj
  go_enter Try.func57, Try.ntmps57
  go_wp2_with fail
  clear hW0
  have y_n_0 := cell_regrown n_0
  have y_n_1 := cell_regrown n_1
  have y_n_2 := cell_regrown n_2
  clear n_0 n_1 n_2
  by_cases c1 : 0 ≤ x1
  case neg =>
    have HP := Lib.hid (HN.out (fun h => c1 h.1))
    replace c1 := Int.not_le.1 c1
    clear HN HY
    refine wp_region_plan (C := fun w' => ∃ p : Regrown, w' = grow (redrawn W0 p.d) p.os) (.q 0 (.q 1 (.q 2 (.q 3 (.q 4 (.q 5 (.q 6 (.q 7 (.q 8 (.q 9 (.q 10 (.q 11 (.q 12 (.q 13 (.q 14 (.q 15 (.q 16 (.q 17 (.q 18 (.q 19 (.q 20 (.q 21 (.q 22 (.q 23 (.q 24 (.q 25 (.q 26 (.done)))))))))))))))))))))))))))) 27 (by kernel_rfl) (by kernel_rfl) (grew_drew _) ?_
    repeat (any_goals (first | (go_big_quiet_skip; refine wpQuiet_nil ?_) | (go_big_quiet_want; go_big_quiet_op; go_big_quiet_on; refine wpQuiet_nil ?_) | ((with_reducible apply q_split); exact rfl; intro q hq; cases q <;> (rw [hq]; (try first | replace hq := bnot_t hq | replace hq := bnot_f hq); (try first | replace hq := of_decide_eq_true hq | replace hq := of_decide_eq_false hq | replace hq := eq_of_beq hq); (try first | replace hq := Int.not_lt.1 hq | replace hq := Int.not_le.1 hq | replace hq := Nat.not_lt.1 hq | replace hq := Nat.not_le.1 hq); try (exfalso; omega))) | (refine plan_q rfl rfl ?_)))
    clear y_n_0 y_n_1 y_n_2
    clear y_j
    all_goals refine plan_done ?_
    all_goals (try simp only [List.drop_succ_cons, List.drop_zero])
    all_goals (try go_wp2_with fail)
    all_goals refine NoPanic.normal ?_
    all_goals (try go_wp2_with fail)
    all_goals
      go_ret
      exact ⟨ret_bool' (by first | exact HP.out.symm | (rw [HP.out]; exact decide_eq_false (by omega)) | (rw [HP.out]; exact decide_eq_true (by omega))), HB_W0.drew⟩
  by_cases c2 : x1 < J.length
  case neg =>
    have HP := Lib.hid (HN.out (fun h => c2 h.2.1))
    replace c2 := Int.not_lt.1 c2
    clear HN HY
    refine wp_region_plan (C := fun w' => ∃ p : Regrown, w' = grow (redrawn W0 p.d) p.os) (.q 0 (.q 1 (.q 2 (.q 3 (.q 4 (.q 5 (.q 6 (.q 7 (.q 8 (.q 9 (.q 10 (.q 11 (.q 12 (.q 13 (.q 14 (.q 15 (.q 16 (.q 17 (.q 18 (.q 19 (.q 20 (.q 21 (.q 22 (.q 23 (.q 24 (.q 25 (.q 26 (.done)))))))))))))))))))))))))))) 27 (by kernel_rfl) (by kernel_rfl) (grew_drew _) ?_
    repeat (any_goals (first | (go_big_quiet_skip; refine wpQuiet_nil ?_) | (go_big_quiet_want; go_big_quiet_op; go_big_quiet_on; refine wpQuiet_nil ?_) | ((with_reducible apply q_split); exact rfl; intro q hq; cases q <;> (rw [hq]; (try first | replace hq := bnot_t hq | replace hq := bnot_f hq); (try first | replace hq := of_decide_eq_true hq | replace hq := of_decide_eq_false hq | replace hq := eq_of_beq hq); (try first | replace hq := Int.not_lt.1 hq | replace hq := Int.not_le.1 hq | replace hq := Nat.not_lt.1 hq | replace hq := Nat.not_le.1 hq); try (exfalso; omega))) | (refine plan_q rfl rfl ?_)))
    clear y_n_0 y_n_1 y_n_2
    clear y_j
    all_goals refine plan_done ?_
    all_goals (try simp only [List.drop_succ_cons, List.drop_zero])
    all_goals (try go_wp2_with fail)
    all_goals refine NoPanic.normal ?_
    all_goals (try go_wp2_with fail)
    all_goals
      go_ret
      exact ⟨ret_bool' (by first | exact HP.out.symm | (rw [HP.out]; exact decide_eq_false (by omega)) | (rw [HP.out]; exact decide_eq_true (by omega))), HB_W0.drew⟩
  by_cases c3 : 0 ≤ x2
  case neg =>
    have HP := Lib.hid (HN.out (fun h => c3 h.2.2.1))
    replace c3 := Int.not_le.1 c3
    clear HN HY
    refine wp_region_plan (C := fun w' => ∃ p : Regrown, w' = grow (redrawn W0 p.d) p.os) (.q 0 (.q 1 (.q 2 (.q 3 (.q 4 (.q 5 (.q 6 (.q 7 (.q 8 (.q 9 (.q 10 (.q 11 (.q 12 (.q 13 (.q 14 (.q 15 (.q 16 (.q 17 (.q 18 (.q 19 (.q 20 (.q 21 (.q 22 (.q 23 (.q 24 (.q 25 (.q 26 (.done)))))))))))))))))))))))))))) 27 (by kernel_rfl) (by kernel_rfl) (grew_drew _) ?_
    repeat (any_goals (first | (go_big_quiet_skip; refine wpQuiet_nil ?_) | (go_big_quiet_want; go_big_quiet_op; go_big_quiet_on; refine wpQuiet_nil ?_) | ((with_reducible apply q_split); exact rfl; intro q hq; cases q <;> (rw [hq]; (try first | replace hq := bnot_t hq | replace hq := bnot_f hq); (try first | replace hq := of_decide_eq_true hq | replace hq := of_decide_eq_false hq | replace hq := eq_of_beq hq); (try first | replace hq := Int.not_lt.1 hq | replace hq := Int.not_le.1 hq | replace hq := Nat.not_lt.1 hq | replace hq := Nat.not_le.1 hq); try (exfalso; omega))) | (refine plan_q rfl rfl ?_)))
    clear y_n_0 y_n_1 y_n_2
    clear y_j
    all_goals refine plan_done ?_
    all_goals (try simp only [List.drop_succ_cons, List.drop_zero])
    all_goals (try go_wp2_with fail)
    all_goals refine NoPanic.normal ?_
    all_goals (try go_wp2_with fail)
    all_goals
      go_ret
      exact ⟨ret_bool' (by first | exact HP.out.symm | (rw [HP.out]; exact decide_eq_false (by omega)) | (rw [HP.out]; exact decide_eq_true (by omega))), HB_W0.drew⟩
  obtain ⟨i, rfl⟩ : ∃ i : Nat, x1 = i := ⟨x1.toNat, by omega⟩
  have hil : i < J.length := by omega
  rw [Int.toNat_natCast, jat_get hil] at HN HY
  obtain ⟨bj, offj, rfl, hbj, hrow⟩ := HJ.out.get hil
  obtain ⟨e_0, e_1, e_2, e_3⟩ := (hrow i hil).c4
  clear hrow
  generalize J[i] = y at *
  obtain ⟨y0, y1, y2, y3⟩ := y
  dsimp only at e_0 e_1 e_2 e_3 HN HY
  have y_e_2 := cell_regrown e_2
  by_cases c4 : x2 < y2
  case neg =>
    have HP := Lib.hid (HN.out (fun h => c4 h.2.2.2))
    replace c4 := Int.not_lt.1 c4
    clear HN HY
    refine wp_region_plan (C := fun w' => ∃ p : Regrown, w' = grow (redrawn W0 p.d) p.os) (.q 0 (.q 1 (.q 2 (.q 3 (.q 4 (.q 5 (.q 6 (.q 7 (.q 8 (.q 9 (.q 10 (.q 11 (.q 12 (.q 13 (.q 14 (.q 15 (.q 16 (.q 17 (.q 18 (.q 19 (.q 20 (.q 21 (.q 22 (.q 23 (.q 24 (.q 25 (.q 26 (.done)))))))))))))))))))))))))))) 27 (by kernel_rfl) (by kernel_rfl) (grew_drew _) ?_
    repeat (any_goals (first | (go_big_quiet_skip; refine wpQuiet_nil ?_) | (go_big_quiet_want; go_big_quiet_op; go_big_quiet_on; refine wpQuiet_nil ?_) | ((with_reducible apply q_split); exact rfl; intro q hq; cases q <;> (rw [hq]; (try first | replace hq := bnot_t hq | replace hq := bnot_f hq); (try first | replace hq := of_decide_eq_true hq | replace hq := of_decide_eq_false hq | replace hq := eq_of_beq hq); (try first | replace hq := Int.not_lt.1 hq | replace hq := Int.not_le.1 hq | replace hq := Nat.not_lt.1 hq | replace hq := Nat.not_le.1 hq); try (exfalso; omega))) | (refine plan_q rfl rfl ?_)))
    clear y_n_0 y_n_1 y_n_2
    clear y_j
    all_goals refine plan_done ?_
    all_goals (try simp only [List.drop_succ_cons, List.drop_zero])
    all_goals (try go_wp2_with fail)
    all_goals refine NoPanic.normal ?_
    all_goals (try go_wp2_with fail)
    all_goals
      go_ret
      exact ⟨ret_bool' (by first | exact HP.out.symm | (rw [HP.out]; exact decide_eq_false (by omega)) | (rw [HP.out]; exact decide_eq_true (by omega))), HB_W0.drew⟩
  have HP := Lib.hid (HY.out ⟨c1, c2, c3, c4⟩)
  clear HN HY
  refine wp_region_plan (C := fun w' => ∃ p : Regrown, w' = grow (redrawn W0 p.d) p.os) (.q 0 (.q 1 (.q 2 (.q 3 (.q 4 (.q 5 (.q 6 (.q 7 (.q 8 (.q 9 (.q 10 (.q 11 (.q 12 (.q 13 (.q 14 (.q 15 (.q 16 (.q 17 (.q 18 (.q 19 (.q 20 (.q 21 (.q 22 (.q 23 (.q 24 (.q 25 (.q 26 (.done)))))))))))))))))))))))))))) 27 (by kernel_rfl) (by kernel_rfl) (grew_drew _) ?_
  repeat (any_goals (first | (go_big_quiet_skip; refine wpQuiet_nil ?_) | (go_big_quiet_want; go_big_quiet_op; go_big_quiet_on; refine wpQuiet_nil ?_) | ((with_reducible apply q_split); exact rfl; intro q hq; cases q <;> (rw [hq]; (try first | replace hq := bnot_t hq | replace hq := bnot_f hq); (try first | replace hq := of_decide_eq_true hq | replace hq := of_decide_eq_false hq | replace hq := eq_of_beq hq); (try first | replace hq := Int.not_lt.1 hq | replace hq := Int.not_le.1 hq | replace hq := Nat.not_lt.1 hq | replace hq := Nat.not_le.1 hq); try (exfalso; omega))) | (refine plan_q rfl rfl ?_)))
  clear y_n_0 y_n_1 y_n_2
  clear y_j
  all_goals refine plan_done ?_
  all_goals (try simp only [List.drop_succ_cons, List.drop_zero])
  all_goals (try go_wp2_with fail)
  all_goals refine NoPanic.normal ?_
  all_goals (try go_wp2_with fail)
  all_goals
    go_ret
    exact ⟨ret_bool' (by first | exact HP.out.symm | (rw [HP.out]; exact decide_eq_false (by omega)) | (rw [HP.out]; exact decide_eq_true (by omega))), HB_W0.drew⟩
end Go.Proofs.Ytheioedggjbphaa
