/-
  Walks of the reference implementation of 'schedule': Slot, Job, Valid, Before, InTime, Load, Done.
-/
import Derived.Test.YtheioedggjbphaaScL
import Derived.Test.YtheioedggjbphaaScR
set_option linter.unusedVariables false
namespace Sc
theorem load_take {f a b : Int} {l : List Jb} {k : Nat} (h : k < l.length) : loadP f a b (l.take (k + 1)) = loadP f a b (l.take k) + (if a ≤ max l[k].ready f ∧ l[k].due ≤ b then l[k].pieces else 0) := by
  unfold loadP
  rw [List.take_add_one, List.getElem?_eq_getElem h, Option.toList_some, List.filter_append, sumP_append]
  congr 1
  rw [List.filter_cons]
  simp only [decide_eq_true_eq, List.filter_nil]
  split <;> simp [sumP]
theorem load_yes {f a b : Int} {l : List Jb} {k : Nat} (h : k < l.length) {m : Int} (hm : max l[k].ready f = m) (h1 : a ≤ m) (h2 : l[k].due ≤ b) : loadP f a b (l.take (k + 1)) = loadP f a b (l.take k) + l[k].pieces := by
  rw [load_take h, if_pos ⟨by omega, h2⟩]
theorem load_no {f a b : Int} {l : List Jb} {k : Nat} (h : k < l.length) {m : Int} (hm : max l[k].ready f = m) (h1 : ¬ (a ≤ m ∧ l[k].due ≤ b)) : loadP f a b (l.take (k + 1)) = loadP f a b (l.take k) := by
  rw [load_take h, if_neg (by rw [hm]; exact h1), Int.add_zero]
theorem valid_all {l : List Jb} (hl : l.length ≤ 100) (h : ∀ j (h : j < l.length), j < l.length → jobB l[j] = true) : validJ l = true := validJ_iff.2 ⟨hl, fun x hx => by
  obtain ⟨j, hj, rfl⟩ := List.mem_iff_getElem.1 hx
  exact h j hj hj⟩
theorem valid_not {l : List Jb} {k : Nat} (hk : k < l.length) (h : jobB l[k] = false) : validJ l = false := by
  cases e : validJ l with
  | false => rfl
  | true => rw [(validJ_iff.1 e).2 _ (List.getElem_mem hk)] at h; cases h
theorem valid_long {l : List Jb} (h : 100 < l.length) : validJ l = false := by
  cases e : validJ l with
  | false => rfl
  | true => have := (validJ_iff.1 e).1; omega
/-- the slots rise, seen from each one -/
theorem rise_at {l : List Sn} (h : ∀ j (h : j < l.length), (0 ≤ l[j].slot ∧ l[j].slot < 400) ∧ (0 < j → l[j - 1].slot < l[j].slot)) : riseB l = true := by
  unfold riseB
  suffices H : ∀ (l : List Sn) (last : Int), (∀ j (h : j < l.length), l[j].slot < 400 ∧ (0 < j → l[j - 1].slot < l[j].slot)) → (∀ h : 0 < l.length, last < l[0].slot) → rise last l = true by
    exact H l (-1) (fun j hj => ⟨(h j hj).1.2, (h j hj).2⟩) (fun h0 => by have := (h 0 h0).1.1; omega)
  intro l
  induction l with
  | nil => intro last _ _; rfl
  | cons s l ih =>
    intro last h1 h2
    unfold rise
    rw [Bool.and_eq_true, decide_eq_true_eq]
    refine ⟨⟨h2 (by simp), (h1 0 (by simp)).1⟩, ih s.slot (fun j hj => ?_) (fun h0 => ?_)⟩
    · have := h1 (j + 1) (by simp; omega)
      refine ⟨by simpa using this.1, fun h0 => ?_⟩
      have h3 := this.2 (by omega)
      obtain ⟨i, rfl⟩ : ∃ i, j = i + 1 := ⟨j - 1, by omega⟩
      simpa using h3
    · have h3 := (h1 1 (by simp; omega)).2 (by omega)
      simpa using h3
theorem rise_head {l : List Sn} : ∀ {last : Int}, rise last l = true → ∀ j (h : j < l.length), (last < l[j].slot ∧ l[j].slot < 400) ∧ (0 < j → l[j - 1].slot < l[j].slot) := by
  induction l with
  | nil => intro last _ j h; exact absurd h (Nat.not_lt_zero _)
  | cons s l ih =>
    intro last h j hj
    unfold rise at h
    rw [Bool.and_eq_true, decide_eq_true_eq] at h
    cases j with
    | zero => exact ⟨h.1, fun h => absurd h (Nat.lt_irrefl _)⟩
    | succ j =>
      have h1 := ih h.2 j (by simpa using hj)
      refine ⟨⟨by simp; omega, by simpa using h1.1.2⟩, fun _ => ?_⟩
      cases j with
      | zero => simpa using h1.1.1
      | succ j => simpa using h1.2 (by omega)
theorem rise_no {l : List Sn} {k : Nat} (hk : k < l.length) (h : (l[k].slot < 0 ∨ 400 ≤ l[k].slot) ∨ (∃ i, k = i + 1 ∧ l[k].slot ≤ l[k - 1].slot)) : riseB l = false := by
  cases e : riseB l with
  | false => rfl
  | true =>
    have := rise_head e k hk
    rcases h with h | ⟨i, rfl, h⟩
    · omega
    · have := this.2 (by omega); omega
end Sc
namespace Go.Proofs.Ytheioedggjbphaa
open Go Go.RowKit Sc Sk Go.Sort
theorem rslot_any (n : Int) (w : World) : Calls Try.prog 38 #[.int .i64 n] w (Ret w (.bool (slotB n))) := by
  unfold slotB
  go_enter Try.func38, Try.ntmps38
  go_wp2
  all_goals
    go_ret
    exact ⟨ret_bool (by simp <;> omega), Below.refl _ _⟩
set_option maxRecDepth 100000 in
set_option maxHeartbeats 4000000 in
theorem rjob_any (j : Jb) (w : World) : Calls Try.prog 35 #[eJ j] w (Ret w (.bool (jobB j))) := by
  obtain ⟨x0, x1, x2, x3⟩ := j
  have HN := Lib.hid (show ¬ (0 ≤ x0 ∧ x0 ≤ x1 ∧ x1 < 400 ∧ 1 ≤ x2 ∧ x2 ≤ 32 ∧ 0 ≤ x3 ∧ x3 ≤ 9) → jobB ⟨x0, x1, x2, x3⟩ = false from fun h => decide_eq_false h)
  have HY := Lib.hid (show (0 ≤ x0 ∧ x0 ≤ x1 ∧ x1 < 400 ∧ 1 ≤ x2 ∧ x2 ≤ 32 ∧ 0 ≤ x3 ∧ x3 ≤ 9) → jobB ⟨x0, x1, x2, x3⟩ = true from fun h => decide_eq_true h)
  generalize jobB ⟨x0, x1, x2, x3⟩ = p at *
  dsimp only [eJ]
  obtain ⟨W0, hW0, HB_W0, hZ, hn⟩ := boxes1 w [.int .i64 x0, .int .i64 x1, .int .i64 x2, .int .i64 x3] 44
  have H_n := Lib.hid hn
  clear hn hZ
  obtain ⟨q_n_0, q_n_1, q_n_2, q_n_3⟩ := H_n.out.c4
  go_enter Try.func35, Try.ntmps35
  by_cases c1 : 0 ≤ x0
  case neg =>
    have HP := Lib.hid (HN.out (fun h => c1 h.1))
    try replace c1 := Int.not_le.1 c1
    clear HN HY
    go_wp2_with fail
    all_goals try (exfalso; omega)
    all_goals
      go_ret
      exact ⟨ret_bool' (by first | exact HP.out.symm | (rw [HP.out]; exact decide_eq_false (by omega)) | (rw [HP.out]; exact decide_eq_true (by omega))), HB_W0⟩
  by_cases c2 : x0 ≤ x1
  case neg =>
    have HP := Lib.hid (HN.out (fun h => c2 h.2.1))
    replace c2 := Int.not_le.1 c2
    go_wp2_with fail
    all_goals try (exfalso; omega)
    all_goals
      go_ret
      exact ⟨ret_bool' (by first | exact HP.out.symm | (rw [HP.out]; exact decide_eq_false (by omega)) | (rw [HP.out]; exact decide_eq_true (by omega))), HB_W0⟩
  by_cases c3 : x1 < 400
  case neg =>
    have HP := Lib.hid (HN.out (fun h => c3 h.2.2.1))
    replace c3 := Int.not_lt.1 c3
    go_wp2_with fail
    all_goals try (exfalso; omega)
    all_goals
      go_ret
      exact ⟨ret_bool' (by first | exact HP.out.symm | (rw [HP.out]; exact decide_eq_false (by omega)) | (rw [HP.out]; exact decide_eq_true (by omega))), HB_W0⟩
  by_cases c4 : 1 ≤ x2
  case neg =>
    have HP := Lib.hid (HN.out (fun h => c4 h.2.2.2.1))
    replace c4 := Int.not_le.1 c4
    go_wp2_with fail
    all_goals try (exfalso; omega)
    all_goals
      go_ret
      exact ⟨ret_bool' (by first | exact HP.out.symm | (rw [HP.out]; exact decide_eq_false (by omega)) | (rw [HP.out]; exact decide_eq_true (by omega))), HB_W0⟩
  by_cases c5 : x2 ≤ 32
  case neg =>
    have HP := Lib.hid (HN.out (fun h => c5 h.2.2.2.2.1))
    replace c5 := Int.not_le.1 c5
    go_wp2_with fail
    all_goals try (exfalso; omega)
    all_goals
      go_ret
      exact ⟨ret_bool' (by first | exact HP.out.symm | (rw [HP.out]; exact decide_eq_false (by omega)) | (rw [HP.out]; exact decide_eq_true (by omega))), HB_W0⟩
  by_cases c6 : 0 ≤ x3
  case neg =>
    have HP := Lib.hid (HN.out (fun h => c6 h.2.2.2.2.2.1))
    replace c6 := Int.not_le.1 c6
    go_wp2_with fail
    all_goals try (exfalso; omega)
    all_goals
      go_ret
      exact ⟨ret_bool' (by first | exact HP.out.symm | (rw [HP.out]; exact decide_eq_false (by omega)) | (rw [HP.out]; exact decide_eq_true (by omega))), HB_W0⟩
  by_cases c7 : x3 ≤ 9
  case neg =>
    have HP := Lib.hid (HN.out (fun h => c7 h.2.2.2.2.2.2))
    replace c7 := Int.not_le.1 c7
    go_wp2_with fail
    all_goals try (exfalso; omega)
    all_goals
      go_ret
      exact ⟨ret_bool' (by first | exact HP.out.symm | (rw [HP.out]; exact decide_eq_false (by omega)) | (rw [HP.out]; exact decide_eq_true (by omega))), HB_W0⟩
  have HP := Lib.hid (HY.out ⟨c1, c2, c3, c4, c5, c6, c7⟩)
  go_wp2_with fail
  all_goals try (exfalso; omega)
  all_goals
    go_ret
    exact ⟨ret_bool' (by first | exact HP.out.symm | (rw [HP.out]; exact decide_eq_false (by omega)) | (rw [HP.out]; exact decide_eq_true (by omega))), HB_W0⟩

set_option maxRecDepth 100000 in
set_option maxHeartbeats 4000000 in
theorem rvalid_any (ao : Option Addr) (n cap : Nat) (l : List Jb) (w : World) (hs : Sl w 4 cJ ao n cap l) : Calls Try.prog 14 #[.slice ao n cap] w (Ret w (.bool (validJ l))) := by
  obtain rfl := hs.len
  have hcap := hs.max
  have hle := hs.le
  unfold maxLen at hcap
  have HS := Lib.hid hs
  have HB_w : Below w.heap.size w w := Below.refl _ _
  have HLG := Lib.hid (@valid_long l)
  have HAL := Lib.hid (@valid_all l)
  have HNT := Lib.hid (fun k hk h => @valid_not l k hk h)
  generalize validJ l = v at *
  clear hs
  go_enter Try.func14, Try.ntmps14
  by_cases hl : 100 < (l.length : Int)
  · obtain rfl := HLG.out (by omega)
    go_wp2_with fail
    all_goals try (exfalso; omega)
    go_ret
    exact ⟨rfl, HB_w⟩
  have hl2 : l.length ≤ 100 := by omega
  replace hl := Int.not_lt.1 hl
  go_wp2_with fail
  all_goals try (exfalso; omega)
  go_loopw [3] (fun i wr => ∃ k : Nat, k ≤ l.length ∧ i = .int .i64 k ∧ Below w.heap.size w wr ∧ Hid (∀ j (h : j < l.length), j < k → jobB l[j] = true)) (fun i _ => l.length - (intOf i).toNat)
  case atStart => exact ⟨0, Nat.zero_le _, rfl, HB_w, fun j _ h => absurd h (Nat.not_lt_zero _)⟩
  case round =>
    obtain ⟨k, hk, rfl, HB_wr, HN⟩ := hrel
    by_cases hlt : k < l.length
    · obtain ⟨b, off, rfl, hb, hrow⟩ := HS.out.get hlt
      obtain ⟨e_0, e_1, e_2, e_3⟩ := ((hrow k hlt).below HB_wr hb).c4
      have HC := Lib.hid (rjob_any l[k] wr)
      cases hjk : jobB l[k] with
      | false =>
        have HR := Lib.hid (HNT.out k hlt hjk)
        rw [hjk] at HC
        clear hrow hjk HN
        generalize l[k] = x at *
        obtain ⟨x0, x1, x2, x3⟩ := x
        dsimp only [eJ] at e_0 e_1 e_2 e_3 HC
        go_wp2_with fail
        clear e_0 e_1 e_2 e_3
        refine (HC.out).mono ?_
        rintro e wa ⟨rfl, hb_wa⟩
        have HB_wa : Below w.heap.size w wa := by first | exact after0 HB_wr hb_wa | exact after1 HB_wr hb_wa | exact after2 HB_wr hb_wa | exact after3 HB_wr hb_wa | exact after4 HB_wr hb_wa | exact after5 HB_wr hb_wa
        go_wp2_with fail
        all_goals try (exfalso; omega)
        go_ret
        exact ⟨ret_bool' HR.out.symm, HB_wa⟩
      | true =>
        have HN2 : Hid (∀ j (h : j < l.length), j < k + 1 → jobB l[j] = true) := fun j h hj => by
          by_cases hjk2 : j = k
          · subst hjk2; exact hjk
          · exact HN.out j h (by omega)
        rw [hjk] at HC
        clear hrow hjk HN
        generalize l[k] = x at *
        obtain ⟨x0, x1, x2, x3⟩ := x
        dsimp only [eJ] at e_0 e_1 e_2 e_3 HC
        go_wp2_with fail
        clear e_0 e_1 e_2 e_3
        refine (HC.out).mono ?_
        rintro e wa ⟨rfl, hb_wa⟩
        have HB_wa : Below w.heap.size w wa := by first | exact after0 HB_wr hb_wa | exact after1 HB_wr hb_wa | exact after2 HB_wr hb_wa | exact after3 HB_wr hb_wa | exact after4 HB_wr hb_wa | exact after5 HB_wr hb_wa
        go_wp2_with fail
        all_goals try (exfalso; omega)
        go_roundw
        case rel => exact ⟨k + 1, hlt, by go_num, HB_wa, HN2⟩
        case measure => simp [intOf] <;> omega
    · obtain rfl := HAL.out hl2 (fun j h hj => HN.out j h (by omega))
      go_wp2_with fail
      all_goals try (exfalso; omega)
      go_ret
      exact ⟨rfl, HB_wr⟩

set_option maxRecDepth 100000 in
set_option maxHeartbeats 4000000 in
theorem rbefore_any (ao : Option Addr) (n cap : Nat) (J : List Jb) (i k : Nat) (w : World) (hs : Sl w 4 cJ ao n cap J) (hi : i < J.length) (hk : k < J.length) :
    Calls Try.prog 39 #[.slice ao n cap, .int .i64 i, .int .i64 k] w (Ret w (.bool (less J i k))) := by
  obtain rfl := hs.len
  have hcap := hs.max
  have hle := hs.le
  unfold maxLen at hcap
  obtain ⟨b, off, rfl, hb, hrow⟩ := hs.get hi
  have HE := Lib.hid (fun W (h : Below w.heap.size w W) => ((hrow i hi).below h hb).c4)
  have HF := Lib.hid (fun W (h : Below w.heap.size w W) => ((hrow k hk).below h hb).c4)
  have HP := Lib.hid (show less J i k = decide (J[i].due < J[k].due ∨ J[i].due = J[k].due ∧ (J[k].prio < J[i].prio ∨ J[k].prio = J[i].prio ∧ i < k)) by unfold less; rw [jat_get hi, jat_get hk])
  clear hrow hs
  generalize less J i k = p at *
  generalize J[i] = x at *
  generalize J[k] = y at *
  obtain ⟨x0, x1, x2, x3⟩ := x
  obtain ⟨y0, y1, y2, y3⟩ := y
  dsimp only at HE HF HP
  have hii : (i : Int) < (J.length : Int) := by omega
  have hki : (k : Int) < (J.length : Int) := by omega
  generalize J.length = len at *
  go_enter Try.func39, Try.ntmps39
  go_wp2_with fail
  obtain ⟨e_0, e_1, e_2, e_3⟩ := HE.out w (Below.refl _ _)
  obtain ⟨f_0, f_1, f_2, f_3⟩ := HF.out w (Below.refl _ _)
  have y_e_0 := cell_regrown e_0
  have y_e_1 := cell_regrown e_1
  have y_e_2 := cell_regrown e_2
  have y_e_3 := cell_regrown e_3
  clear e_0 e_1 e_2 e_3
  have y_f_0 := cell_regrown f_0
  have y_f_1 := cell_regrown f_1
  have y_f_2 := cell_regrown f_2
  have y_f_3 := cell_regrown f_3
  clear f_0 f_1 f_2 f_3
  refine wp_region_plan (C := fun w' => ∃ p : Regrown, w' = grow (redrawn w p.d) p.os) (.q 0 (.q 1 (.q 2 (.q 3 (.q 4 (.q 5 (.q 6 (.q 7 (.q 8 (.q 9 (.q 10 (.done)))))))))))) 11 (by kernel_rfl) (by kernel_rfl) (grew_drew _) ?_
  repeat (any_goals (first | (go_big_quiet_skip; refine wpQuiet_nil ?_) | (go_big_quiet_want; go_big_quiet_op; go_big_quiet_on; refine wpQuiet_nil ?_) | ((with_reducible apply q_split); exact rfl; intro q hq; cases q <;> (rw [hq]; (try first | replace hq := bnot_t hq | replace hq := bnot_f hq); (try first | replace hq := of_decide_eq_true hq | replace hq := of_decide_eq_false hq | replace hq := eq_of_beq hq); (try first | replace hq := Int.not_lt.1 hq | replace hq := Int.not_le.1 hq | replace hq := Nat.not_lt.1 hq | replace hq := Nat.not_le.1 hq); try (exfalso; omega))) | (refine plan_q rfl rfl ?_)))
  clear y_e_0 y_e_1 y_e_2 y_e_3
  clear y_f_0 y_f_1 y_f_2 y_f_3
  by_cases hd : x1 = y1
  · subst hd
    all_goals refine plan_done ?_
    all_goals (try simp only [List.drop_succ_cons, List.drop_zero])
    all_goals (try go_wp2_with fail)
    all_goals refine NoPanic.normal ?_
    all_goals (try go_wp2_with fail)
    obtain ⟨e_0, e_1, e_2, e_3⟩ := HE.out w.drew (Below.refl _ _).drew
    obtain ⟨f_0, f_1, f_2, f_3⟩ := HF.out w.drew (Below.refl _ _).drew
    have y_e_0 := cell_regrown e_0
    have y_e_1 := cell_regrown e_1
    have y_e_2 := cell_regrown e_2
    have y_e_3 := cell_regrown e_3
    clear e_0 e_1 e_2 e_3
    have y_f_0 := cell_regrown f_0
    have y_f_1 := cell_regrown f_1
    have y_f_2 := cell_regrown f_2
    have y_f_3 := cell_regrown f_3
    clear f_0 f_1 f_2 f_3
    refine wp_region_plan (C := fun w' => ∃ p : Regrown, w' = grow (redrawn w.drew p.d) p.os) (.q 0 (.q 1 (.q 2 (.q 3 (.q 4 (.q 5 (.q 6 (.q 7 (.q 8 (.q 9 (.q 10 (.done)))))))))))) 11 (by kernel_rfl) (by kernel_rfl) (grew_drew _) ?_
    repeat (any_goals (first | (go_big_quiet_skip; refine wpQuiet_nil ?_) | (go_big_quiet_want; go_big_quiet_op; go_big_quiet_on; refine wpQuiet_nil ?_) | ((with_reducible apply q_split); exact rfl; intro q hq; cases q <;> (rw [hq]; (try first | replace hq := bnot_t hq | replace hq := bnot_f hq); (try first | replace hq := of_decide_eq_true hq | replace hq := of_decide_eq_false hq | replace hq := eq_of_beq hq); (try first | replace hq := Int.not_lt.1 hq | replace hq := Int.not_le.1 hq | replace hq := Nat.not_lt.1 hq | replace hq := Nat.not_le.1 hq); try (exfalso; omega))) | (refine plan_q rfl rfl ?_)))
    clear y_e_0 y_e_1 y_e_2 y_e_3
    clear y_f_0 y_f_1 y_f_2 y_f_3
    by_cases hpr : x3 = y3
    · subst hpr
      all_goals refine plan_done ?_
      all_goals (try simp only [List.drop_succ_cons, List.drop_zero])
      all_goals (try go_wp2_with fail)
      all_goals refine NoPanic.normal ?_
      all_goals (try go_wp2_with fail)
      go_ret
      exact ⟨ret_bool' (by rw [HP.out]; first | (simp; done) | (simp; omega) | (rw [decide_eq_decide]; omega)), by first | exact Below.refl _ _ | exact (Below.refl _ _).drew | exact (Below.refl _ _).drew.drew | exact (Below.refl _ _).drew.drew.drew⟩
    · have hb1 : (x3 != y3) = true := bne_iff_ne.2 hpr
      all_goals refine plan_done ?_
      all_goals (try simp only [List.drop_succ_cons, List.drop_zero])
      all_goals (try go_wp2_with fail)
      all_goals refine NoPanic.normal ?_
      all_goals (try go_wp2_with fail)
      obtain ⟨e_0, e_1, e_2, e_3⟩ := HE.out w.drew.drew (Below.refl _ _).drew.drew
      obtain ⟨f_0, f_1, f_2, f_3⟩ := HF.out w.drew.drew (Below.refl _ _).drew.drew
      have y_e_0 := cell_regrown e_0
      have y_e_1 := cell_regrown e_1
      have y_e_2 := cell_regrown e_2
      have y_e_3 := cell_regrown e_3
      clear e_0 e_1 e_2 e_3
      have y_f_0 := cell_regrown f_0
      have y_f_1 := cell_regrown f_1
      have y_f_2 := cell_regrown f_2
      have y_f_3 := cell_regrown f_3
      clear f_0 f_1 f_2 f_3
      refine wp_region_plan (C := fun w' => ∃ p : Regrown, w' = grow (redrawn w.drew.drew p.d) p.os) (.q 0 (.q 1 (.q 2 (.q 3 (.q 4 (.q 5 (.q 6 (.q 7 (.q 8 (.q 9 (.q 10 (.q 11 (.done))))))))))))) 12 (by kernel_rfl) (by kernel_rfl) (grew_drew _) ?_
      repeat (any_goals (first | (go_big_quiet_skip; refine wpQuiet_nil ?_) | (go_big_quiet_want; go_big_quiet_op; go_big_quiet_on; refine wpQuiet_nil ?_) | ((with_reducible apply q_split); exact rfl; intro q hq; cases q <;> (rw [hq]; (try first | replace hq := bnot_t hq | replace hq := bnot_f hq); (try first | replace hq := of_decide_eq_true hq | replace hq := of_decide_eq_false hq | replace hq := eq_of_beq hq); (try first | replace hq := Int.not_lt.1 hq | replace hq := Int.not_le.1 hq | replace hq := Nat.not_lt.1 hq | replace hq := Nat.not_le.1 hq); try (exfalso; omega))) | (refine plan_q rfl rfl ?_)))
      clear y_e_0 y_e_1 y_e_2 y_e_3
      clear y_f_0 y_f_1 y_f_2 y_f_3
      all_goals refine plan_done ?_
      all_goals (try simp only [List.drop_succ_cons, List.drop_zero])
      all_goals (try go_wp2_with fail)
      all_goals refine NoPanic.normal ?_
      all_goals (try go_wp2_with fail)
      go_ret
      exact ⟨ret_bool' (by rw [HP.out]; first | (simp; done) | (simp; omega) | (rw [decide_eq_decide]; omega)), by first | exact Below.refl _ _ | exact (Below.refl _ _).drew | exact (Below.refl _ _).drew.drew | exact (Below.refl _ _).drew.drew.drew⟩
  · have hb1 : (x1 != y1) = true := bne_iff_ne.2 hd
    all_goals refine plan_done ?_
    all_goals (try simp only [List.drop_succ_cons, List.drop_zero])
    all_goals (try go_wp2_with fail)
    all_goals refine NoPanic.normal ?_
    all_goals (try go_wp2_with fail)
    obtain ⟨e_0, e_1, e_2, e_3⟩ := HE.out w.drew (Below.refl _ _).drew
    obtain ⟨f_0, f_1, f_2, f_3⟩ := HF.out w.drew (Below.refl _ _).drew
    have y_e_0 := cell_regrown e_0
    have y_e_1 := cell_regrown e_1
    have y_e_2 := cell_regrown e_2
    have y_e_3 := cell_regrown e_3
    clear e_0 e_1 e_2 e_3
    have y_f_0 := cell_regrown f_0
    have y_f_1 := cell_regrown f_1
    have y_f_2 := cell_regrown f_2
    have y_f_3 := cell_regrown f_3
    clear f_0 f_1 f_2 f_3
    refine wp_region_plan (C := fun w' => ∃ p : Regrown, w' = grow (redrawn w.drew p.d) p.os) (.q 0 (.q 1 (.q 2 (.q 3 (.q 4 (.q 5 (.q 6 (.q 7 (.q 8 (.q 9 (.q 10 (.q 11 (.done))))))))))))) 12 (by kernel_rfl) (by kernel_rfl) (grew_drew _) ?_
    repeat (any_goals (first | (go_big_quiet_skip; refine wpQuiet_nil ?_) | (go_big_quiet_want; go_big_quiet_op; go_big_quiet_on; refine wpQuiet_nil ?_) | ((with_reducible apply q_split); exact rfl; intro q hq; cases q <;> (rw [hq]; (try first | replace hq := bnot_t hq | replace hq := bnot_f hq); (try first | replace hq := of_decide_eq_true hq | replace hq := of_decide_eq_false hq | replace hq := eq_of_beq hq); (try first | replace hq := Int.not_lt.1 hq | replace hq := Int.not_le.1 hq | replace hq := Nat.not_lt.1 hq | replace hq := Nat.not_le.1 hq); try (exfalso; omega))) | (refine plan_q rfl rfl ?_)))
    clear y_e_0 y_e_1 y_e_2 y_e_3
    clear y_f_0 y_f_1 y_f_2 y_f_3
    all_goals refine plan_done ?_
    all_goals (try simp only [List.drop_succ_cons, List.drop_zero])
    all_goals (try go_wp2_with fail)
    all_goals refine NoPanic.normal ?_
    all_goals (try go_wp2_with fail)
    go_ret
    exact ⟨ret_bool' (by rw [HP.out]; first | (simp; done) | (simp; omega) | (rw [decide_eq_decide]; omega)), by first | exact Below.refl _ _ | exact (Below.refl _ _).drew | exact (Below.refl _ _).drew.drew | exact (Below.refl _ _).drew.drew.drew⟩
set_option maxRecDepth 100000 in
set_option maxHeartbeats 8000000 in
theorem rintime_any (j : Jb) (s : Sn) (w : World) : Calls Try.prog 43 #[eJ j, eS s] w (Ret w (.bool (decide (j.ready ≤ s.slot ∧ s.slot ≤ j.due)))) := by
  obtain ⟨x0, x1, x2, x3⟩ := j
  obtain ⟨y0, y1, y2⟩ := s
  dsimp only [eJ, eS]
  have HE := Lib.hid (show decide (x0 ≤ y0 ∧ y0 ≤ x1) = decide (x0 ≤ y0 ∧ y0 ≤ x1) from rfl)
  obtain ⟨p, hp⟩ : ∃ p, decide (x0 ≤ y0 ∧ y0 ≤ x1) = p := ⟨_, rfl⟩
  rw [hp]
  replace HE := Lib.hid hp
  clear hp
  obtain ⟨W0, hW0, HB_W0, hZ, hn, he⟩ := boxes2 w [.int .i64 x0, .int .i64 x1, .int .i64 x2, .int .i64 x3] [.int .i64 y0, .int .i64 y1, .int .i64 y2] 44 46
  obtain ⟨n_0, n_1, n_2, n_3⟩ := hn.c4
  obtain ⟨e_0, e_1, e_2⟩ := he.c3
  clear hZ hn he
  go_enter Try.func43, Try.ntmps43
  by_cases c1 : x0 ≤ y0
  case neg =>
    have HP := Lib.hid (show p = false by rw [← HE.out]; exact decide_eq_false (fun h => c1 h.1))
    replace c1 := Int.not_le.1 c1
    clear HE
    go_wp2_with fail
    all_goals try (exfalso; omega)
    go_ret
    exact ⟨ret_bool' (by first | exact HP.out.symm | (rw [HP.out]; exact decide_eq_false (by omega)) | (rw [HP.out]; exact decide_eq_true (by omega))), HB_W0⟩
  by_cases c2 : y0 ≤ x1
  case neg =>
    have HP := Lib.hid (show p = false by rw [← HE.out]; exact decide_eq_false (fun h => c2 h.2))
    replace c2 := Int.not_le.1 c2
    clear HE
    go_wp2_with fail
    all_goals try (exfalso; omega)
    go_ret
    exact ⟨ret_bool' (by first | exact HP.out.symm | (rw [HP.out]; exact decide_eq_false (by omega)) | (rw [HP.out]; exact decide_eq_true (by omega))), HB_W0⟩
  have HP := Lib.hid (show p = true by rw [← HE.out]; exact decide_eq_true ⟨c1, c2⟩)
  clear HE
  go_wp2_with fail
  all_goals try (exfalso; omega)
  go_ret
  exact ⟨ret_bool' (by first | exact HP.out.symm | (rw [HP.out]; exact decide_eq_false (by omega)) | (rw [HP.out]; exact decide_eq_true (by omega))), HB_W0⟩

set_option maxRecDepth 100000 in
set_option maxHeartbeats 8000000 in
theorem rload_any (ao : Option Addr) (n cap : Nat) (l : List Jb) (f a b : Int) (w : World) (hs : Sl w 4 cJ ao n cap l) (hv : ∀ j ∈ l, jobB j = true) (hl : l.length ≤ 100) :
    Calls Try.prog 46 #[.slice ao n cap, .int .i64 f, .int .i64 a, .int .i64 b] w (Ret w (.int .i64 (loadP f a b l))) := by
  obtain rfl := hs.len
  have hcap := hs.max
  have hle := hs.le
  unfold maxLen at hcap
  have HS := Lib.hid hs
  have HV := Lib.hid hv
  have HB_w : Below w.heap.size w w := Below.refl _ _
  clear hs hv
  go_enter Try.func46, Try.ntmps46
  go_wp2_with fail
  go_loopw [9, 10] (fun s i wr => ∃ k : Nat, k ≤ l.length ∧ i = .int .i64 k ∧ s = .int .i64 (loadP f a b (l.take k)) ∧ Below w.heap.size w wr) (fun _ i _ => l.length - (intOf i).toNat)
  case atStart => exact ⟨0, by omega, rfl, rfl, HB_w⟩
  case round =>
    obtain ⟨k, hk, rfl, rfl, HB_wr⟩ := hrel
    have hlb := load_bound (f := f) (a := a) (b := b) (l := l.take k) (fun j hj => HV.out j (List.mem_of_mem_take hj))
    have hlk : (l.take k).length ≤ 100 := by rw [List.length_take]; omega
    by_cases hlt : k < l.length
    · obtain ⟨bb, off, rfl, hbb, hrow⟩ := (HS.out.below HB_wr).get hlt
      obtain ⟨e_0, e_1, e_2, e_3⟩ := (hrow k hlt).c4
      have HYES := Lib.hid (fun m hm h1 h2 => @load_yes f a b l k hlt m hm h1 h2)
      have HNO := Lib.hid (fun m hm h1 => @load_no f a b l k hlt m hm h1)
      have hjp := jobB_iff.1 (HV.out _ (List.getElem_mem hlt))
      have hp1 := hjp.2.2.2.1
      have hp2 := hjp.2.2.2.2.1
      clear hrow hjp
      generalize l[k] = x at *
      generalize loadP f a b (l.take k) = ld at *
      rcases Int.lt_or_le x.ready f with hmx | hmx
      ·
        have hm : max x.ready f = f := by omega
        by_cases ha : a ≤ f
        · by_cases hb : x.due ≤ b
          · have HN := Lib.hid (HYES.out _ hm ha hb)
            obtain ⟨x0, x1, x2, x3⟩ := x
            dsimp only at *
            clear HYES HNO hm
            go_wp2_with fail
            all_goals try (exfalso; omega)
            go_roundw
            case rel => exact ⟨k + 1, by omega, by go_num, by rw [HN.out], HB_wr⟩
            case measure => simp [intOf] <;> omega
          · have HN := Lib.hid (HNO.out _ hm (fun h => hb h.2))
            obtain ⟨x0, x1, x2, x3⟩ := x
            dsimp only at *
            replace hb := Int.not_le.1 hb
            clear HYES HNO hm
            go_wp2_with fail
            all_goals try (exfalso; omega)
            go_roundw
            case rel => exact ⟨k + 1, by omega, by go_num, by rw [HN.out], HB_wr⟩
            case measure => simp [intOf] <;> omega
        · have HN := Lib.hid (HNO.out _ hm (fun h => ha h.1))
          obtain ⟨x0, x1, x2, x3⟩ := x
          dsimp only at *
          replace ha := Int.not_le.1 ha
          clear HYES HNO hm
          go_wp2_with fail
          all_goals try (exfalso; omega)
          go_roundw
          case rel => exact ⟨k + 1, by omega, by go_num, by rw [HN.out], HB_wr⟩
          case measure => simp [intOf] <;> omega
      ·
        have hm : max x.ready f = x.ready := by omega
        by_cases ha : a ≤ x.ready
        · by_cases hb : x.due ≤ b
          · have HN := Lib.hid (HYES.out _ hm ha hb)
            obtain ⟨x0, x1, x2, x3⟩ := x
            dsimp only at *
            clear HYES HNO hm
            go_wp2_with fail
            all_goals try (exfalso; omega)
            go_roundw
            case rel => exact ⟨k + 1, by omega, by go_num, by rw [HN.out], HB_wr⟩
            case measure => simp [intOf] <;> omega
          · have HN := Lib.hid (HNO.out _ hm (fun h => hb h.2))
            obtain ⟨x0, x1, x2, x3⟩ := x
            dsimp only at *
            replace hb := Int.not_le.1 hb
            clear HYES HNO hm
            go_wp2_with fail
            all_goals try (exfalso; omega)
            go_roundw
            case rel => exact ⟨k + 1, by omega, by go_num, by rw [HN.out], HB_wr⟩
            case measure => simp [intOf] <;> omega
        · have HN := Lib.hid (HNO.out _ hm (fun h => ha h.1))
          obtain ⟨x0, x1, x2, x3⟩ := x
          dsimp only at *
          replace ha := Int.not_le.1 ha
          clear HYES HNO hm
          go_wp2_with fail
          all_goals try (exfalso; omega)
          go_roundw
          case rel => exact ⟨k + 1, by omega, by go_num, by rw [HN.out], HB_wr⟩
          case measure => simp [intOf] <;> omega
    · obtain rfl : k = l.length := by omega
      rw [List.take_length] at hlb ⊢
      generalize loadP f a b l = ld at *
      go_wp2_with fail
      all_goals try (exfalso; omega)
      go_ret
      exact ⟨rfl, HB_wr⟩
end Go.Proofs.Ytheioedggjbphaa
