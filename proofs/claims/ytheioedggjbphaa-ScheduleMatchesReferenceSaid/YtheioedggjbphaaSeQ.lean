/-
  Walks of the reference implementation of 'schedule': Slot, Job, Valid, Before, InTime, Load, Done.
  Plain mathematics of the layer 'schedule': what is admitted. No program in sight.
  Plain mathematics of the layer 'schedule': how the reference implementation comes to its answers. No program in sight.
  Walks: some, and Some, With of the reference implementation of 'schedule'.
  Walks of the reference implementation of 'schedule': Plan.
-/
import Derived.Test.YtheioedggjbphaaScL
import Derived.Test.YtheioedggjbphaaScR
import Derived.Test.YtheioedggjbphaaScZ
import Derived.Test.YtheioedggjbphaaSdP
import Derived.Test.YtheioedggjbphaaSdL
set_option linter.unusedVariables false
namespace Sc
theorem load_take {f a b : Int} {l : List Jb} {k : Nat} (h : k < l.length) : loadP f a b (l.take (k + 1)) = loadP f a b (l.take k) + (if a ≤ max l[k].ready f ∧ l[k].due ≤ b then l[k].pieces else 0) := by
  unfold loadP
  rw [List.take_add_one, List.getElem?_eq_getElem h, Option.toList_some, List.filter_append, sumP_append]
  congr 1
  rw [List.filter_cons]
  simp only [decide_eq_true_eq, List.filter_nil]
  split <;> simp [sumP]
theorem load_yes {f a b : Int} {l : List Jb} {k : Nat} (h : k < l.length) {m : Int} (hm : max l[k].ready f = m) (h1 : a ≤ m) (h2 : l[k].due ≤ b) : loadP f a b (l.take (k + 1)) = loadP f a b (l.take k) + l[k].pieces := by
  rw [load_take h, if_pos ⟨by omega, h2⟩]
theorem load_no {f a b : Int} {l : List Jb} {k : Nat} (h : k < l.length) {m : Int} (hm : max l[k].ready f = m) (h1 : ¬ (a ≤ m ∧ l[k].due ≤ b)) : loadP f a b (l.take (k + 1)) = loadP f a b (l.take k) := by
  rw [load_take h, if_neg (by rw [hm]; exact h1), Int.add_zero]
theorem valid_all {l : List Jb} (hl : l.length ≤ 100) (h : ∀ j (h : j < l.length), j < l.length → jobB l[j] = true) : validJ l = true := validJ_iff.2 ⟨hl, fun x hx => by
  obtain ⟨j, hj, rfl⟩ := List.mem_iff_getElem.1 hx
  exact h j hj hj⟩
theorem valid_not {l : List Jb} {k : Nat} (hk : k < l.length) (h : jobB l[k] = false) : validJ l = false := by
  cases e : validJ l with
  | false => rfl
  | true => rw [(validJ_iff.1 e).2 _ (List.getElem_mem hk)] at h; cases h
theorem valid_long {l : List Jb} (h : 100 < l.length) : validJ l = false := by
  cases e : validJ l with
  | false => rfl
  | true => have := (validJ_iff.1 e).1; omega
/-- the slots rise, seen from each one -/
theorem rise_at {l : List Sn} (h : ∀ j (h : j < l.length), (0 ≤ l[j].slot ∧ l[j].slot < 400) ∧ (0 < j → l[j - 1].slot < l[j].slot)) : riseB l = true := by
  unfold riseB
  suffices H : ∀ (l : List Sn) (last : Int), (∀ j (h : j < l.length), l[j].slot < 400 ∧ (0 < j → l[j - 1].slot < l[j].slot)) → (∀ h : 0 < l.length, last < l[0].slot) → rise last l = true by
    exact H l (-1) (fun j hj => ⟨(h j hj).1.2, (h j hj).2⟩) (fun h0 => by have := (h 0 h0).1.1; omega)
  intro l
  induction l with
  | nil => intro last _ _; rfl
  | cons s l ih =>
    intro last h1 h2
    unfold rise
    rw [Bool.and_eq_true, decide_eq_true_eq]
    refine ⟨⟨h2 (by simp), (h1 0 (by simp)).1⟩, ih s.slot (fun j hj => ?_) (fun h0 => ?_)⟩
    · have := h1 (j + 1) (by simp; omega)
      refine ⟨by simpa using this.1, fun h0 => ?_⟩
      have h3 := this.2 (by omega)
      obtain ⟨i, rfl⟩ : ∃ i, j = i + 1 := ⟨j - 1, by omega⟩
      simpa using h3
    · have h3 := (h1 1 (by simp; omega)).2 (by omega)
      simpa using h3
theorem rise_head {l : List Sn} : ∀ {last : Int}, rise last l = true → ∀ j (h : j < l.length), (last < l[j].slot ∧ l[j].slot < 400) ∧ (0 < j → l[j - 1].slot < l[j].slot) := by
  induction l with
  | nil => intro last _ j h; exact absurd h (Nat.not_lt_zero _)
  | cons s l ih =>
    intro last h j hj
    unfold rise at h
    rw [Bool.and_eq_true, decide_eq_true_eq] at h
    cases j with
    | zero => exact ⟨h.1, fun h => absurd h (Nat.lt_irrefl _)⟩
    | succ j =>
      have h1 := ih h.2 j (by simpa using hj)
      refine ⟨⟨by simp; omega, by simpa using h1.1.2⟩, fun _ => ?_⟩
      cases j with
      | zero => simpa using h1.1.1
      | succ j => simpa using h1.2 (by omega)
theorem rise_no {l : List Sn} {k : Nat} (hk : k < l.length) (h : (l[k].slot < 0 ∨ 400 ≤ l[k].slot) ∨ (∃ i, k = i + 1 ∧ l[k].slot ≤ l[k - 1].slot)) : riseB l = false := by
  cases e : riseB l with
  | false => rfl
  | true =>
    have := rise_head e k hk
    rcases h with h | ⟨i, rfl, h⟩
    · omega
    · have := this.2 (by omega); omega
end Sc
namespace Go.Proofs.Ytheioedggjbphaa
open Go Go.RowKit Sc Sk Go.Sort
theorem rslot_any (n : Int) (w : World) : Calls Try.prog 38 #[.int .i64 n] w (Ret w (.bool (slotB n))) := by
  unfold slotB
  go_enter Try.func38, Try.ntmps38
  go_wp2
  all_goals
    go_ret
    exact ⟨ret_bool (by simp <;> omega), Below.refl _ _⟩
set_option maxRecDepth 100000 in
set_option maxHeartbeats 4000000 in
theorem rjob_any (j : Jb) (w : World) : Calls Try.prog 35 #[eJ j] w (Ret w (.bool (jobB j))) := by
  obtain ⟨x0, x1, x2, x3⟩ := j
  have HN := Lib.hid (show ¬ (0 ≤ x0 ∧ x0 ≤ x1 ∧ x1 < 400 ∧ 1 ≤ x2 ∧ x2 ≤ 32 ∧ 0 ≤ x3 ∧ x3 ≤ 9) → jobB ⟨x0, x1, x2, x3⟩ = false from fun h => decide_eq_false h)
  have HY := Lib.hid (show (0 ≤ x0 ∧ x0 ≤ x1 ∧ x1 < 400 ∧ 1 ≤ x2 ∧ x2 ≤ 32 ∧ 0 ≤ x3 ∧ x3 ≤ 9) → jobB ⟨x0, x1, x2, x3⟩ = true from fun h => decide_eq_true h)
  generalize jobB ⟨x0, x1, x2, x3⟩ = p at *
  dsimp only [eJ]
  obtain ⟨W0, hW0, HB_W0, hZ, hn⟩ := boxes1 w [.int .i64 x0, .int .i64 x1, .int .i64 x2, .int .i64 x3] 44
  have H_n := Lib.hid hn
  clear hn hZ
  obtain ⟨q_n_0, q_n_1, q_n_2, q_n_3⟩ := H_n.out.c4
  go_enter Try.func35, Try.ntmps35
  by_cases c1 : 0 ≤ x0
  case neg =>
    have HP := Lib.hid (HN.out (fun h => c1 h.1))
    try replace c1 := Int.not_le.1 c1
    clear HN HY
    go_wp2_with fail
    all_goals try (exfalso; omega)
    all_goals
      go_ret
      exact ⟨ret_bool' (by first | exact HP.out.symm | (rw [HP.out]; exact decide_eq_false (by omega)) | (rw [HP.out]; exact decide_eq_true (by omega))), HB_W0⟩
  by_cases c2 : x0 ≤ x1
  case neg =>
    have HP := Lib.hid (HN.out (fun h => c2 h.2.1))
    replace c2 := Int.not_le.1 c2
    go_wp2_with fail
    all_goals try (exfalso; omega)
    all_goals
      go_ret
      exact ⟨ret_bool' (by first | exact HP.out.symm | (rw [HP.out]; exact decide_eq_false (by omega)) | (rw [HP.out]; exact decide_eq_true (by omega))), HB_W0⟩
  by_cases c3 : x1 < 400
  case neg =>
    have HP := Lib.hid (HN.out (fun h => c3 h.2.2.1))
    replace c3 := Int.not_lt.1 c3
    go_wp2_with fail
    all_goals try (exfalso; omega)
    all_goals
      go_ret
      exact ⟨ret_bool' (by first | exact HP.out.symm | (rw [HP.out]; exact decide_eq_false (by omega)) | (rw [HP.out]; exact decide_eq_true (by omega))), HB_W0⟩
  by_cases c4 : 1 ≤ x2
  case neg =>
    have HP := Lib.hid (HN.out (fun h => c4 h.2.2.2.1))
    replace c4 := Int.not_le.1 c4
    go_wp2_with fail
    all_goals try (exfalso; omega)
    all_goals
      go_ret
      exact ⟨ret_bool' (by first | exact HP.out.symm | (rw [HP.out]; exact decide_eq_false (by omega)) | (rw [HP.out]; exact decide_eq_true (by omega))), HB_W0⟩
  by_cases c5 : x2 ≤ 32
  case neg =>
    have HP := Lib.hid (HN.out (fun h => c5 h.2.2.2.2.1))
    replace c5 := Int.not_le.1 c5
    go_wp2_with fail
    all_goals try (exfalso; omega)
    all_goals
      go_ret
      exact ⟨ret_bool' (by first | exact HP.out.symm | (rw [HP.out]; exact decide_eq_false (by omega)) | (rw [HP.out]; exact decide_eq_true (by omega))), HB_W0⟩
  by_cases c6 : 0 ≤ x3
  case neg =>
    have HP := Lib.hid (HN.out (fun h => c6 h.2.2.2.2.2.1))
    replace c6 := Int.not_le.1 c6
    go_wp2_with fail
    all_goals try (exfalso; omega)
    all_goals
      go_ret
      exact ⟨ret_bool' (by first | exact HP.out.symm | (rw [HP.out]; exact decide_eq_false (by omega)) | (rw [HP.out]; exact decide_eq_true (by omega))), HB_W0⟩
  by_cases c7 : x3 ≤ 9
  case neg =>
    have HP := Lib.hid (HN.out (fun h => c7 h.2.2.2.2.2.2))
    replace c7 := Int.not_le.1 c7
    go_wp2_with fail
    all_goals try (exfalso; omega)
    all_goals
      go_ret
      exact ⟨ret_bool' (by first | exact HP.out.symm | (rw [HP.out]; exact decide_eq_false (by omega)) | (rw [HP.out]; exact decide_eq_true (by omega))), HB_W0⟩
  have HP := Lib.hid (HY.out ⟨c1, c2, c3, c4, c5, c6, c7⟩)
  go_wp2_with fail
  all_goals try (exfalso; omega)
  all_goals
    go_ret
    exact ⟨ret_bool' (by first | exact HP.out.symm | (rw [HP.out]; exact decide_eq_false (by omega)) | (rw [HP.out]; exact decide_eq_true (by omega))), HB_W0⟩

set_option maxRecDepth 100000 in
set_option maxHeartbeats 4000000 in
theorem rvalid_any (ao : Option Addr) (n cap : Nat) (l : List Jb) (w : World) (hs : Sl w 4 cJ ao n cap l) : Calls Try.prog 14 #[.slice ao n cap] w (Ret w (.bool (validJ l))) := by
  obtain rfl := hs.len
  have hcap := hs.max
  have hle := hs.le
  unfold maxLen at hcap
  have HS := Lib.hid hs
  have HB_w : Below w.heap.size w w := Below.refl _ _
  have HLG := Lib.hid (@valid_long l)
  have HAL := Lib.hid (@valid_all l)
  have HNT := Lib.hid (fun k hk h => @valid_not l k hk h)
  generalize validJ l = v at *
  clear hs
  go_enter Try.func14, Try.ntmps14
  by_cases hl : 100 < (l.length : Int)
  · obtain rfl := HLG.out (by omega)
    go_wp2_with fail
    all_goals try (exfalso; omega)
    go_ret
    exact ⟨rfl, HB_w⟩
  have hl2 : l.length ≤ 100 := by omega
  replace hl := Int.not_lt.1 hl
  go_wp2_with fail
  all_goals try (exfalso; omega)
  go_loopw [3] (fun i wr => ∃ k : Nat, k ≤ l.length ∧ i = .int .i64 k ∧ Below w.heap.size w wr ∧ Hid (∀ j (h : j < l.length), j < k → jobB l[j] = true)) (fun i _ => l.length - (intOf i).toNat)
  case atStart => exact ⟨0, Nat.zero_le _, rfl, HB_w, fun j _ h => absurd h (Nat.not_lt_zero _)⟩
  case round =>
    obtain ⟨k, hk, rfl, HB_wr, HN⟩ := hrel
    by_cases hlt : k < l.length
    · obtain ⟨b, off, rfl, hb, hrow⟩ := HS.out.get hlt
      obtain ⟨e_0, e_1, e_2, e_3⟩ := ((hrow k hlt).below HB_wr hb).c4
      have HC := Lib.hid (rjob_any l[k] wr)
      cases hjk : jobB l[k] with
      | false =>
        have HR := Lib.hid (HNT.out k hlt hjk)
        rw [hjk] at HC
        clear hrow hjk HN
        generalize l[k] = x at *
        obtain ⟨x0, x1, x2, x3⟩ := x
        dsimp only [eJ] at e_0 e_1 e_2 e_3 HC
        go_wp2_with fail
        clear e_0 e_1 e_2 e_3
        refine (HC.out).mono ?_
        rintro e wa ⟨rfl, hb_wa⟩
        have HB_wa : Below w.heap.size w wa := by first | exact after0 HB_wr hb_wa | exact after1 HB_wr hb_wa | exact after2 HB_wr hb_wa | exact after3 HB_wr hb_wa | exact after4 HB_wr hb_wa | exact after5 HB_wr hb_wa
        go_wp2_with fail
        all_goals try (exfalso; omega)
        go_ret
        exact ⟨ret_bool' HR.out.symm, HB_wa⟩
      | true =>
        have HN2 : Hid (∀ j (h : j < l.length), j < k + 1 → jobB l[j] = true) := fun j h hj => by
          by_cases hjk2 : j = k
          · subst hjk2; exact hjk
          · exact HN.out j h (by omega)
        rw [hjk] at HC
        clear hrow hjk HN
        generalize l[k] = x at *
        obtain ⟨x0, x1, x2, x3⟩ := x
        dsimp only [eJ] at e_0 e_1 e_2 e_3 HC
        go_wp2_with fail
        clear e_0 e_1 e_2 e_3
        refine (HC.out).mono ?_
        rintro e wa ⟨rfl, hb_wa⟩
        have HB_wa : Below w.heap.size w wa := by first | exact after0 HB_wr hb_wa | exact after1 HB_wr hb_wa | exact after2 HB_wr hb_wa | exact after3 HB_wr hb_wa | exact after4 HB_wr hb_wa | exact after5 HB_wr hb_wa
        go_wp2_with fail
        all_goals try (exfalso; omega)
        go_roundw
        case rel => exact ⟨k + 1, hlt, by go_num, HB_wa, HN2⟩
        case measure => simp [intOf] <;> omega
    · obtain rfl := HAL.out hl2 (fun j h hj => HN.out j h (by omega))
      go_wp2_with fail
      all_goals try (exfalso; omega)
      go_ret
      exact ⟨rfl, HB_wr⟩

set_option maxRecDepth 100000 in
set_option maxHeartbeats 4000000 in
theorem rbefore_any (ao : Option Addr) (n cap : Nat) (J : List Jb) (i k : Nat) (w : World) (hs : Sl w 4 cJ ao n cap J) (hi : i < J.length) (hk : k < J.length) :
    Calls Try.prog 39 #[.slice ao n cap, .int .i64 i, .int .i64 k] w (Ret w (.bool (less J i k))) := by
  obtain rfl := hs.len
  have hcap := hs.max
  have hle := hs.le
  unfold maxLen at hcap
  obtain ⟨b, off, rfl, hb, hrow⟩ := hs.get hi
  have HE := Lib.hid (fun W (h : Below w.heap.size w W) => ((hrow i hi).below h hb).c4)
  have HF := Lib.hid (fun W (h : Below w.heap.size w W) => ((hrow k hk).below h hb).c4)
  have HP := Lib.hid (show less J i k = decide (J[i].due < J[k].due ∨ J[i].due = J[k].due ∧ (J[k].prio < J[i].prio ∨ J[k].prio = J[i].prio ∧ i < k)) by unfold less; rw [jat_get hi, jat_get hk])
  clear hrow hs
  generalize less J i k = p at *
  generalize J[i] = x at *
  generalize J[k] = y at *
  obtain ⟨x0, x1, x2, x3⟩ := x
  obtain ⟨y0, y1, y2, y3⟩ := y
  dsimp only at HE HF HP
  have hii : (i : Int) < (J.length : Int) := by omega
  have hki : (k : Int) < (J.length : Int) := by omega
  generalize J.length = len at *
  go_enter Try.func39, Try.ntmps39
  go_wp2_with fail
  obtain ⟨e_0, e_1, e_2, e_3⟩ := HE.out w (Below.refl _ _)
  obtain ⟨f_0, f_1, f_2, f_3⟩ := HF.out w (Below.refl _ _)
  have y_e_0 := cell_regrown e_0
  have y_e_1 := cell_regrown e_1
  have y_e_2 := cell_regrown e_2
  have y_e_3 := cell_regrown e_3
  clear e_0 e_1 e_2 e_3
  have y_f_0 := cell_regrown f_0
  have y_f_1 := cell_regrown f_1
  have y_f_2 := cell_regrown f_2
  have y_f_3 := cell_regrown f_3
  clear f_0 f_1 f_2 f_3
  refine wp_region_plan (C := fun w' => ∃ p : Regrown, w' = grow (redrawn w p.d) p.os) (.q 0 (.q 1 (.q 2 (.q 3 (.q 4 (.q 5 (.q 6 (.q 7 (.q 8 (.q 9 (.q 10 (.done)))))))))))) 11 (by kernel_rfl) (by kernel_rfl) (grew_drew _) ?_
  repeat (any_goals (first | (go_big_quiet_skip; refine wpQuiet_nil ?_) | (go_big_quiet_want; go_big_quiet_op; go_big_quiet_on; refine wpQuiet_nil ?_) | ((with_reducible apply q_split); exact rfl; intro q hq; cases q <;> (rw [hq]; (try first | replace hq := bnot_t hq | replace hq := bnot_f hq); (try first | replace hq := of_decide_eq_true hq | replace hq := of_decide_eq_false hq | replace hq := eq_of_beq hq); (try first | replace hq := Int.not_lt.1 hq | replace hq := Int.not_le.1 hq | replace hq := Nat.not_lt.1 hq | replace hq := Nat.not_le.1 hq); try (exfalso; omega))) | (refine plan_q rfl rfl ?_)))
  clear y_e_0 y_e_1 y_e_2 y_e_3
  clear y_f_0 y_f_1 y_f_2 y_f_3
  by_cases hd : x1 = y1
  · subst hd
    all_goals refine plan_done ?_
    all_goals (try simp only [List.drop_succ_cons, List.drop_zero])
    all_goals (try go_wp2_with fail)
    all_goals refine NoPanic.normal ?_
    all_goals (try go_wp2_with fail)
    obtain ⟨e_0, e_1, e_2, e_3⟩ := HE.out w.drew (Below.refl _ _).drew
    obtain ⟨f_0, f_1, f_2, f_3⟩ := HF.out w.drew (Below.refl _ _).drew
    have y_e_0 := cell_regrown e_0
    have y_e_1 := cell_regrown e_1
    have y_e_2 := cell_regrown e_2
    have y_e_3 := cell_regrown e_3
    clear e_0 e_1 e_2 e_3
    have y_f_0 := cell_regrown f_0
    have y_f_1 := cell_regrown f_1
    have y_f_2 := cell_regrown f_2
    have y_f_3 := cell_regrown f_3
    clear f_0 f_1 f_2 f_3
    refine wp_region_plan (C := fun w' => ∃ p : Regrown, w' = grow (redrawn w.drew p.d) p.os) (.q 0 (.q 1 (.q 2 (.q 3 (.q 4 (.q 5 (.q 6 (.q 7 (.q 8 (.q 9 (.q 10 (.done)))))))))))) 11 (by kernel_rfl) (by kernel_rfl) (grew_drew _) ?_
    repeat (any_goals (first | (go_big_quiet_skip; refine wpQuiet_nil ?_) | (go_big_quiet_want; go_big_quiet_op; go_big_quiet_on; refine wpQuiet_nil ?_) | ((with_reducible apply q_split); exact rfl; intro q hq; cases q <;> (rw [hq]; (try first | replace hq := bnot_t hq | replace hq := bnot_f hq); (try first | replace hq := of_decide_eq_true hq | replace hq := of_decide_eq_false hq | replace hq := eq_of_beq hq); (try first | replace hq := Int.not_lt.1 hq | replace hq := Int.not_le.1 hq | replace hq := Nat.not_lt.1 hq | replace hq := Nat.not_le.1 hq); try (exfalso; omega))) | (refine plan_q rfl rfl ?_)))
    clear y_e_0 y_e_1 y_e_2 y_e_3
    clear y_f_0 y_f_1 y_f_2 y_f_3
    by_cases hpr : x3 = y3
    · subst hpr
      all_goals refine plan_done ?_
      all_goals (try simp only [List.drop_succ_cons, List.drop_zero])
      all_goals (try go_wp2_with fail)
      all_goals refine NoPanic.normal ?_
      all_goals (try go_wp2_with fail)
      go_ret
      exact ⟨ret_bool' (by rw [HP.out]; first | (simp; done) | (simp; omega) | (rw [decide_eq_decide]; omega)), by first | exact Below.refl _ _ | exact (Below.refl _ _).drew | exact (Below.refl _ _).drew.drew | exact (Below.refl _ _).drew.drew.drew⟩
    · have hb1 : (x3 != y3) = true := bne_iff_ne.2 hpr
      all_goals refine plan_done ?_
      all_goals (try simp only [List.drop_succ_cons, List.drop_zero])
      all_goals (try go_wp2_with fail)
      all_goals refine NoPanic.normal ?_
      all_goals (try go_wp2_with fail)
      obtain ⟨e_0, e_1, e_2, e_3⟩ := HE.out w.drew.drew (Below.refl _ _).drew.drew
      obtain ⟨f_0, f_1, f_2, f_3⟩ := HF.out w.drew.drew (Below.refl _ _).drew.drew
      have y_e_0 := cell_regrown e_0
      have y_e_1 := cell_regrown e_1
      have y_e_2 := cell_regrown e_2
      have y_e_3 := cell_regrown e_3
      clear e_0 e_1 e_2 e_3
      have y_f_0 := cell_regrown f_0
      have y_f_1 := cell_regrown f_1
      have y_f_2 := cell_regrown f_2
      have y_f_3 := cell_regrown f_3
      clear f_0 f_1 f_2 f_3
      refine wp_region_plan (C := fun w' => ∃ p : Regrown, w' = grow (redrawn w.drew.drew p.d) p.os) (.q 0 (.q 1 (.q 2 (.q 3 (.q 4 (.q 5 (.q 6 (.q 7 (.q 8 (.q 9 (.q 10 (.q 11 (.done))))))))))))) 12 (by kernel_rfl) (by kernel_rfl) (grew_drew _) ?_
      repeat (any_goals (first | (go_big_quiet_skip; refine wpQuiet_nil ?_) | (go_big_quiet_want; go_big_quiet_op; go_big_quiet_on; refine wpQuiet_nil ?_) | ((with_reducible apply q_split); exact rfl; intro q hq; cases q <;> (rw [hq]; (try first | replace hq := bnot_t hq | replace hq := bnot_f hq); (try first | replace hq := of_decide_eq_true hq | replace hq := of_decide_eq_false hq | replace hq := eq_of_beq hq); (try first | replace hq := Int.not_lt.1 hq | replace hq := Int.not_le.1 hq | replace hq := Nat.not_lt.1 hq | replace hq := Nat.not_le.1 hq); try (exfalso; omega))) | (refine plan_q rfl rfl ?_)))
      clear y_e_0 y_e_1 y_e_2 y_e_3
      clear y_f_0 y_f_1 y_f_2 y_f_3
      all_goals refine plan_done ?_
      all_goals (try simp only [List.drop_succ_cons, List.drop_zero])
      all_goals (try go_wp2_with fail)
      all_goals refine NoPanic.normal ?_
      all_goals (try go_wp2_with fail)
      go_ret
      exact ⟨ret_bool' (by rw [HP.out]; first | (simp; done) | (simp; omega) | (rw [decide_eq_decide]; omega)), by first | exact Below.refl _ _ | exact (Below.refl _ _).drew | exact (Below.refl _ _).drew.drew | exact (Below.refl _ _).drew.drew.drew⟩
  · have hb1 : (x1 != y1) = true := bne_iff_ne.2 hd
    all_goals refine plan_done ?_
    all_goals (try simp only [List.drop_succ_cons, List.drop_zero])
    all_goals (try go_wp2_with fail)
    all_goals refine NoPanic.normal ?_
    all_goals (try go_wp2_with fail)
    obtain ⟨e_0, e_1, e_2, e_3⟩ := HE.out w.drew (Below.refl _ _).drew
    obtain ⟨f_0, f_1, f_2, f_3⟩ := HF.out w.drew (Below.refl _ _).drew
    have y_e_0 := cell_regrown e_0
    have y_e_1 := cell_regrown e_1
    have y_e_2 := cell_regrown e_2
    have y_e_3 := cell_regrown e_3
    clear e_0 e_1 e_2 e_3
    have y_f_0 := cell_regrown f_0
    have y_f_1 := cell_regrown f_1
    have y_f_2 := cell_regrown f_2
    have y_f_3 := cell_regrown f_3
    clear f_0 f_1 f_2 f_3
    refine wp_region_plan (C := fun w' => ∃ p : Regrown, w' = grow (redrawn w.drew p.d) p.os) (.q 0 (.q 1 (.q 2 (.q 3 (.q 4 (.q 5 (.q 6 (.q 7 (.q 8 (.q 9 (.q 10 (.q 11 (.done))))))))))))) 12 (by kernel_rfl) (by kernel_rfl) (grew_drew _) ?_
    repeat (any_goals (first | (go_big_quiet_skip; refine wpQuiet_nil ?_) | (go_big_quiet_want; go_big_quiet_op; go_big_quiet_on; refine wpQuiet_nil ?_) | ((with_reducible apply q_split); exact rfl; intro q hq; cases q <;> (rw [hq]; (try first | replace hq := bnot_t hq | replace hq := bnot_f hq); (try first | replace hq := of_decide_eq_true hq | replace hq := of_decide_eq_false hq | replace hq := eq_of_beq hq); (try first | replace hq := Int.not_lt.1 hq | replace hq := Int.not_le.1 hq | replace hq := Nat.not_lt.1 hq | replace hq := Nat.not_le.1 hq); try (exfalso; omega))) | (refine plan_q rfl rfl ?_)))
    clear y_e_0 y_e_1 y_e_2 y_e_3
    clear y_f_0 y_f_1 y_f_2 y_f_3
    all_goals refine plan_done ?_
    all_goals (try simp only [List.drop_succ_cons, List.drop_zero])
    all_goals (try go_wp2_with fail)
    all_goals refine NoPanic.normal ?_
    all_goals (try go_wp2_with fail)
    go_ret
    exact ⟨ret_bool' (by rw [HP.out]; first | (simp; done) | (simp; omega) | (rw [decide_eq_decide]; omega)), by first | exact Below.refl _ _ | exact (Below.refl _ _).drew | exact (Below.refl _ _).drew.drew | exact (Below.refl _ _).drew.drew.drew⟩
set_option maxRecDepth 100000 in
set_option maxHeartbeats 8000000 in
theorem rintime_any (j : Jb) (s : Sn) (w : World) : Calls Try.prog 43 #[eJ j, eS s] w (Ret w (.bool (decide (j.ready ≤ s.slot ∧ s.slot ≤ j.due)))) := by
  obtain ⟨x0, x1, x2, x3⟩ := j
  obtain ⟨y0, y1, y2⟩ := s
  dsimp only [eJ, eS]
  have HE := Lib.hid (show decide (x0 ≤ y0 ∧ y0 ≤ x1) = decide (x0 ≤ y0 ∧ y0 ≤ x1) from rfl)
  obtain ⟨p, hp⟩ : ∃ p, decide (x0 ≤ y0 ∧ y0 ≤ x1) = p := ⟨_, rfl⟩
  rw [hp]
  replace HE := Lib.hid hp
  clear hp
  obtain ⟨W0, hW0, HB_W0, hZ, hn, he⟩ := boxes2 w [.int .i64 x0, .int .i64 x1, .int .i64 x2, .int .i64 x3] [.int .i64 y0, .int .i64 y1, .int .i64 y2] 44 46
  obtain ⟨n_0, n_1, n_2, n_3⟩ := hn.c4
  obtain ⟨e_0, e_1, e_2⟩ := he.c3
  clear hZ hn he
  go_enter Try.func43, Try.ntmps43
  by_cases c1 : x0 ≤ y0
  case neg =>
    have HP := Lib.hid (show p = false by rw [← HE.out]; exact decide_eq_false (fun h => c1 h.1))
    replace c1 := Int.not_le.1 c1
    clear HE
    go_wp2_with fail
    all_goals try (exfalso; omega)
    go_ret
    exact ⟨ret_bool' (by first | exact HP.out.symm | (rw [HP.out]; exact decide_eq_false (by omega)) | (rw [HP.out]; exact decide_eq_true (by omega))), HB_W0⟩
  by_cases c2 : y0 ≤ x1
  case neg =>
    have HP := Lib.hid (show p = false by rw [← HE.out]; exact decide_eq_false (fun h => c2 h.2))
    replace c2 := Int.not_le.1 c2
    clear HE
    go_wp2_with fail
    all_goals try (exfalso; omega)
    go_ret
    exact ⟨ret_bool' (by first | exact HP.out.symm | (rw [HP.out]; exact decide_eq_false (by omega)) | (rw [HP.out]; exact decide_eq_true (by omega))), HB_W0⟩
  have HP := Lib.hid (show p = true by rw [← HE.out]; exact decide_eq_true ⟨c1, c2⟩)
  clear HE
  go_wp2_with fail
  all_goals try (exfalso; omega)
  go_ret
  exact ⟨ret_bool' (by first | exact HP.out.symm | (rw [HP.out]; exact decide_eq_false (by omega)) | (rw [HP.out]; exact decide_eq_true (by omega))), HB_W0⟩

set_option maxRecDepth 100000 in
set_option maxHeartbeats 8000000 in
theorem rload_any (ao : Option Addr) (n cap : Nat) (l : List Jb) (f a b : Int) (w : World) (hs : Sl w 4 cJ ao n cap l) (hv : ∀ j ∈ l, jobB j = true) (hl : l.length ≤ 100) :
    Calls Try.prog 46 #[.slice ao n cap, .int .i64 f, .int .i64 a, .int .i64 b] w (Ret w (.int .i64 (loadP f a b l))) := by
  obtain rfl := hs.len
  have hcap := hs.max
  have hle := hs.le
  unfold maxLen at hcap
  have HS := Lib.hid hs
  have HV := Lib.hid hv
  have HB_w : Below w.heap.size w w := Below.refl _ _
  clear hs hv
  go_enter Try.func46, Try.ntmps46
  go_wp2_with fail
  go_loopw [9, 10] (fun s i wr => ∃ k : Nat, k ≤ l.length ∧ i = .int .i64 k ∧ s = .int .i64 (loadP f a b (l.take k)) ∧ Below w.heap.size w wr) (fun _ i _ => l.length - (intOf i).toNat)
  case atStart => exact ⟨0, by omega, rfl, rfl, HB_w⟩
  case round =>
    obtain ⟨k, hk, rfl, rfl, HB_wr⟩ := hrel
    have hlb := load_bound (f := f) (a := a) (b := b) (l := l.take k) (fun j hj => HV.out j (List.mem_of_mem_take hj))
    have hlk : (l.take k).length ≤ 100 := by rw [List.length_take]; omega
    by_cases hlt : k < l.length
    · obtain ⟨bb, off, rfl, hbb, hrow⟩ := (HS.out.below HB_wr).get hlt
      obtain ⟨e_0, e_1, e_2, e_3⟩ := (hrow k hlt).c4
      have HYES := Lib.hid (fun m hm h1 h2 => @load_yes f a b l k hlt m hm h1 h2)
      have HNO := Lib.hid (fun m hm h1 => @load_no f a b l k hlt m hm h1)
      have hjp := jobB_iff.1 (HV.out _ (List.getElem_mem hlt))
      have hp1 := hjp.2.2.2.1
      have hp2 := hjp.2.2.2.2.1
      clear hrow hjp
      generalize l[k] = x at *
      generalize loadP f a b (l.take k) = ld at *
      rcases Int.lt_or_le x.ready f with hmx | hmx
      ·
        have hm : max x.ready f = f := by omega
        by_cases ha : a ≤ f
        · by_cases hb : x.due ≤ b
          · have HN := Lib.hid (HYES.out _ hm ha hb)
            obtain ⟨x0, x1, x2, x3⟩ := x
            dsimp only at *
            clear HYES HNO hm
            go_wp2_with fail
            all_goals try (exfalso; omega)
            go_roundw
            case rel => exact ⟨k + 1, by omega, by go_num, by rw [HN.out], HB_wr⟩
            case measure => simp [intOf] <;> omega
          · have HN := Lib.hid (HNO.out _ hm (fun h => hb h.2))
            obtain ⟨x0, x1, x2, x3⟩ := x
            dsimp only at *
            replace hb := Int.not_le.1 hb
            clear HYES HNO hm
            go_wp2_with fail
            all_goals try (exfalso; omega)
            go_roundw
            case rel => exact ⟨k + 1, by omega, by go_num, by rw [HN.out], HB_wr⟩
            case measure => simp [intOf] <;> omega
        · have HN := Lib.hid (HNO.out _ hm (fun h => ha h.1))
          obtain ⟨x0, x1, x2, x3⟩ := x
          dsimp only at *
          replace ha := Int.not_le.1 ha
          clear HYES HNO hm
          go_wp2_with fail
          all_goals try (exfalso; omega)
          go_roundw
          case rel => exact ⟨k + 1, by omega, by go_num, by rw [HN.out], HB_wr⟩
          case measure => simp [intOf] <;> omega
      ·
        have hm : max x.ready f = x.ready := by omega
        by_cases ha : a ≤ x.ready
        · by_cases hb : x.due ≤ b
          · have HN := Lib.hid (HYES.out _ hm ha hb)
            obtain ⟨x0, x1, x2, x3⟩ := x
            dsimp only at *
            clear HYES HNO hm
            go_wp2_with fail
            all_goals try (exfalso; omega)
            go_roundw
            case rel => exact ⟨k + 1, by omega, by go_num, by rw [HN.out], HB_wr⟩
            case measure => simp [intOf] <;> omega
          · have HN := Lib.hid (HNO.out _ hm (fun h => hb h.2))
            obtain ⟨x0, x1, x2, x3⟩ := x
            dsimp only at *
            replace hb := Int.not_le.1 hb
            clear HYES HNO hm
            go_wp2_with fail
            all_goals try (exfalso; omega)
            go_roundw
            case rel => exact ⟨k + 1, by omega, by go_num, by rw [HN.out], HB_wr⟩
            case measure => simp [intOf] <;> omega
        · have HN := Lib.hid (HNO.out _ hm (fun h => ha h.1))
          obtain ⟨x0, x1, x2, x3⟩ := x
          dsimp only at *
          replace ha := Int.not_le.1 ha
          clear HYES HNO hm
          go_wp2_with fail
          all_goals try (exfalso; omega)
          go_roundw
          case rel => exact ⟨k + 1, by omega, by go_num, by rw [HN.out], HB_wr⟩
          case measure => simp [intOf] <;> omega
    · obtain rfl : k = l.length := by omega
      rw [List.take_length] at hlb ⊢
      generalize loadP f a b l = ld at *
      go_wp2_with fail
      all_goals try (exfalso; omega)
      go_ret
      exact ⟨rfl, HB_wr⟩
end Go.Proofs.Ytheioedggjbphaa

set_option linter.unusedVariables false
namespace Sc
def befB (J : List Jb) (x y : Nat) : Bool := decide ((jat J y).prio < (jat J x).prio ∨ (jat J y).prio = (jat J x).prio ∧ x < y)
theorem befB_iff {J : List Jb} {x y : Nat} : befB J x y = true ↔ bef J x y := by unfold befB bef; rw [decide_eq_true_eq]
theorem bef_asym {J : List Jb} {x y : Nat} (h : bef J x y) (k : bef J y x) : False := by unfold bef at *; omega
theorem eq_of_rise {l k : List Nat} (hl : l.Pairwise (· < ·)) (hk : k.Pairwise (· < ·)) (h : ∀ x, x ∈ l ↔ x ∈ k) : l = k :=
  List.Perm.eq_of_pairwise (le := fun x y : Nat => x < y) (fun a b _ _ h1 h2 => by omega) hl hk ((List.perm_ext_iff_of_nodup (hl.imp (fun h => Nat.ne_of_lt h)) (hk.imp (fun h => Nat.ne_of_lt h))).2 h)
theorem srtN_rise {l : List Nat} (h : l.Nodup) : (srtN l).Pairwise (· < ·) := by
  have h1 := srtN_sorted l
  have h2 : (srtN l).Nodup := (List.mergeSort_perm l _).nodup_iff.2 h
  exact List.Pairwise.imp₂ (fun a b (h1 : a ≤ b) (h2 : a ≠ b) => Nat.lt_of_le_of_ne h1 h2) h1 h2
theorem admF_more {J : List Jb} {f : Int} {q : List Nat} {x : Nat} (h : x ∈ admF J f q) (r : List Nat) : x ∈ admF J f (q ++ r) := by
  induction r using foldl_snoc with
  | h0 => simpa using h
  | h1 r i ih =>
    rw [← List.append_assoc, admF_snoc]
    unfold admI
    split
    · rw [srtN_mem]; exact List.mem_append.2 (.inl ih)
    · exact ih
theorem admF_back {J : List Jb} {f : Int} {q r : List Nat} {x : Nat} (h : x ∈ admF J f (q ++ r)) : x ∈ admF J f q ∨ x ∈ r := by
  induction r using foldl_snoc with
  | h0 => rw [List.append_nil] at h; exact .inl h
  | h1 r i ih =>
    rw [← List.append_assoc, admF_snoc] at h
    rcases admI_mem h with h | rfl
    · exact (ih h).imp id (fun h => List.mem_append.2 (.inl h))
    · exact .inr (by simp)
theorem admF_rise {J : List Jb} {f : Int} {q : List Nat} : q.Nodup → (admF J f q).Pairwise (· < ·) := by
  induction q using foldl_snoc with
  | h0 => intro _; exact List.Pairwise.nil
  | h1 q i ih =>
    intro h
    rw [List.nodup_append] at h
    obtain ⟨h1, _, h3⟩ := h
    rw [admF_snoc]
    unfold admI
    split
    · refine srtN_rise (List.nodup_append.2 ⟨(ih h1).imp (fun h => Nat.ne_of_lt h), by simp, fun a ha b hb => ?_⟩)
      exact h3 a (admF_mem a ha) b hb
    · exact ih h1
theorem fits_nil (J : List Jb) (f : Int) : fits J f [] = true := by
  unfold fits pickJ lateF
  simp
theorem admF_fits {J : List Jb} {f : Int} {q : List Nat} : fits J f (admF J f q) = true := by
  induction q using foldl_snoc with
  | h0 => exact fits_nil J f
  | h1 q i ih =>
    rw [admF_snoc]
    unfold admI
    split
    · assumption
    · exact ih
theorem adm_law {J : List Jb} {f : Int} {q : List Nat} (h : AskL J q) {i : Nat} (hi : i < J.length) (hni : i ∉ admF J f q) :
    fits J f (srtN ((admF J f q).filter (fun x => befB J x i) ++ [i])) = false := by
  have hnd : q.Nodup := h.1.nodup_iff.2 List.nodup_range
  have hs := srt_pair h.2
  obtain ⟨pre, post, rfl⟩ := List.append_of_mem (h.1.mem_iff.2 (List.mem_range.2 hi))
  rw [List.pairwise_append] at hs
  obtain ⟨_, hs2, hs3⟩ := hs
  rw [List.pairwise_cons] at hs2
  rw [show pre ++ i :: post = (pre ++ [i]) ++ post by simp] at hnd hni ⊢
  have e : (admF J f ((pre ++ [i]) ++ post)).filter (fun x => befB J x i) = admF J f pre := by
    refine eq_of_rise ((admF_rise hnd).filter _) (admF_rise (by
      rw [List.append_assoc, List.nodup_append] at hnd
      exact hnd.1)) fun x => ?_
    rw [List.mem_filter, befB_iff]
    constructor
    · rintro ⟨h1, h2⟩
      rcases admF_back h1 with h1 | h1
      · rcases admF_back h1 with h1 | h1
        · exact h1
        · rw [List.mem_singleton] at h1
          subst h1
          exact absurd h2 (fun h => bef_asym h h)
      · exact absurd h2 (fun h => bef_asym h (hs2.1 x h1))
    · intro h1
      refine ⟨?_, hs3 x (admF_mem x h1) i List.mem_cons_self⟩
      rw [List.append_assoc]
      exact admF_more h1 _
  rw [e]
  cases hf : fits J f (srtN (admF J f pre ++ [i])) with
  | false => rfl
  | true =>
    refine absurd (admF_more (r := post) (x := i) ?_) hni
    rw [admF_snoc]
    unfold admI
    rw [if_pos hf, srtN_mem]
    simp
/-! ### a further index, put into its place -/
/-- the further index at the place k -/
def ins (l : List Nat) (n k : Nat) : List Nat := l.take k ++ n :: l.drop k
theorem ins_len {l : List Nat} {n k : Nat} (h : k ≤ l.length) : (ins l n k).length = l.length + 1 := by unfold ins; simp; omega
theorem ins_perm (l : List Nat) (n k : Nat) : (ins l n k).Perm (l ++ [n]) := by
  unfold ins
  refine List.perm_middle.trans ?_
  rw [List.take_append_drop]
  exact (List.perm_append_singleton n l).symm
theorem ins_all (l : List Nat) (n : Nat) : ins l n l.length = l ++ [n] := by unfold ins; simp
theorem ins_srt {l : List Nat} {n k : Nat} (hl : l.Pairwise (· < ·)) (h1 : ∀ x ∈ l.take k, x ≤ n) (h2 : ∀ x ∈ l.drop k, n ≤ x) : ins l n k = srtN (l ++ [n]) := by
  refine (srtN_eq (ins_perm l n k).symm ?_).symm
  unfold ins
  rw [List.pairwise_append, List.pairwise_cons]
  refine ⟨(hl.take).imp (fun h => Nat.le_of_lt h), ⟨h2, (hl.drop).imp (fun h => Nat.le_of_lt h)⟩, fun a ha b hb => ?_⟩
  rcases List.mem_cons.1 hb with rfl | hb
  · exact h1 a ha
  · exact Nat.le_trans (h1 a ha) (h2 b hb)
theorem ins_at {l : List Nat} {n k : Nat} (h : k ≤ l.length) : (ins l n k)[k]? = some n := by
  unfold ins
  rw [List.getElem?_append_right (by rw [List.length_take]; omega), List.length_take_of_le h, Nat.sub_self]
  rfl
theorem ins_bef {l : List Nat} {n k : Nat} (h : k < l.length) : (ins l n (k + 1))[k]? = some l[k] := by
  unfold ins
  rw [List.getElem?_append_left (by rw [List.length_take]; omega), List.getElem?_take_of_lt (Nat.lt_succ_self k), List.getElem?_eq_getElem h]
theorem ins_swap {l : List Nat} {n k : Nat} (h : k < l.length) : ((ins l n (k + 1)).set (k + 1) l[k]).set k n = ins l n k := by
  apply List.ext_getElem?
  intro i
  have hl1 : (l.take (k + 1)).length = k + 1 := by rw [List.length_take]; omega
  have hl2 : (l.take k).length = k := by rw [List.length_take]; omega
  unfold ins
  rw [List.getElem?_set, List.getElem?_set]
  simp only [List.length_set, List.length_append, List.length_cons, hl1, List.length_drop]
  by_cases h1 : k = i
  · subst h1
    rw [if_pos rfl, if_pos (by omega), List.getElem?_append_right (by omega), hl2, Nat.sub_self]
    rfl
  · rw [if_neg h1]
    by_cases h2 : k + 1 = i
    · subst h2
      rw [if_pos rfl, if_pos (by omega), List.getElem?_append_right (by omega), hl2, show k + 1 - k = 0 + 1 by omega, List.getElem?_cons_succ, List.getElem?_drop, List.getElem?_eq_getElem (by omega)]
      rfl
    · rw [if_neg h2]
      by_cases h3 : i < k
      · rw [List.getElem?_append_left (by omega), List.getElem?_append_left (by omega), List.getElem?_take_of_lt (by omega), List.getElem?_take_of_lt h3]
      · rw [List.getElem?_append_right (by omega), List.getElem?_append_right (by omega), hl1, hl2]
        obtain ⟨d, rfl⟩ : ∃ d, i = k + 2 + d := ⟨i - (k + 2), by omega⟩
        rw [show k + 2 + d - (k + 1) = d + 1 by omega, show k + 2 + d - k = (d + 1) + 1 by omega, List.getElem?_cons_succ, List.getElem?_cons_succ, List.getElem?_drop, List.getElem?_drop]
        congr 1
        omega
end Sc

set_option linter.unusedVariables false
namespace Sc
/-! ### the best job -/
def bestP (J : List Jb) (f t : Int) (c : List Nat) (i : Nat) : Option Nat := bestL J ((List.range i).filter (wts J f t c))
theorem bestP_all (J : List Jb) (f t : Int) (c : List Nat) : bestP J f t c J.length = best J f t c := rfl
theorem bestP_zero (J : List Jb) (f t : Int) (c : List Nat) : bestP J f t c 0 = none := rfl
theorem bestP_no {J : List Jb} {f t : Int} {c : List Nat} {i : Nat} (h : wts J f t c i = false) : bestP J f t c (i + 1) = bestP J f t c i := by
  unfold bestP
  rw [List.range_succ, List.filter_append]
  simp [h]
theorem bestP_yes {J : List Jb} {f t : Int} {c : List Nat} {i : Nat} (h : wts J f t c i = true) : bestP J f t c (i + 1) = match bestP J f t c i with | none => some i | some b => if less J i b then some i else some b := by
  unfold bestP
  rw [List.range_succ, List.filter_append]
  rw [show [i].filter (wts J f t c) = [i] by simp [h]]
  unfold bestL
  rw [List.foldl_append]
  rfl
theorem bestP_lt {J : List Jb} {f t : Int} {c : List Nat} {i b : Nat} (h : bestP J f t c i = some b) : b < i := by
  have := (bestL_some h).1
  rw [List.mem_filter, List.mem_range] at this
  exact this.1
def oI : Option Nat → Int
  | none => -1
  | some b => b
theorem wts_ref {J : List Jb} {f t : Int} {c : List Nat} {i : Nat} (hf : f ≤ t) : wts J f t c i = decide ((jat J i).ready ≤ t ∧ t ≤ (jat J i).due ∧ (at_ c i : Int) < (jat J i).pieces) := by
  unfold wts rdy
  rw [decide_eq_decide]
  omega
/-! ### what is late -/
def cntG (J : List Jb) (l : List Sn) (i p : Nat) : Nat := ((List.range p).filter (gotF J l i)).length
theorem cntG_le (J : List Jb) (l : List Sn) (i p : Nat) : cntG J l i p ≤ p := by
  unfold cntG
  exact Nat.le_trans (List.length_filter_le _ _) (by simp)
theorem cntG_yes {J : List Jb} {l : List Sn} {i p : Nat} (h : gotF J l i p = true) : cntG J l i (p + 1) = cntG J l i p + 1 := by
  unfold cntG
  rw [List.range_succ, List.filter_append, List.length_append]
  simp [h]
theorem cntG_no {J : List Jb} {l : List Sn} {i p : Nat} (h : gotF J l i p = false) : cntG J l i (p + 1) = cntG J l i p := by
  unfold cntG
  rw [List.range_succ, List.filter_append, List.length_append]
  simp [h]
theorem late_cnt {J : List Jb} {l : List Sn} {i n : Nat} (hn : (n : Int) = (jat J i).pieces) : lateB J l i = decide (cntG J l i n < n) := by
  have e : (jat J i).pieces.toNat = n := by omega
  unfold lateB
  rw [e]
  suffices H : ∀ n : Nat, ((List.range n).any (fun p => !gotF J l i p)) = decide (cntG J l i n < n) from H n
  intro n
  induction n with
  | zero => rfl
  | succ n ih =>
    have hle := cntG_le J l i n
    rw [List.range_succ, List.any_append, ih]
    cases h : gotF J l i n with
    | true =>
      rw [cntG_yes h]
      simp [h]
    | false =>
      rw [cntG_no h]
      simp [h]
      omega
theorem got_step {J : List Jb} {l : List Sn} {k : Nat} (h : k < l.length) (i p : Nat) : gotF J (l.take (k + 1)) i p = (gotF J (l.take k) i p || (inT J l[k] && decide (l[k].job = i ∧ l[k].piece = p))) := by
  unfold gotF
  rw [List.take_add_one, List.getElem?_eq_getElem h, Option.toList_some, List.any_append]
  simp
theorem got_all (J : List Jb) (l : List Sn) (i p : Nat) : gotF J (l.take l.length) i p = gotF J l i p := by rw [List.take_length]
/-! ### the rules -/
def sameP (a b : Sn) : Bool := decide (a.job = b.job ∧ a.piece = b.piece)
def refAt (J : List Jb) (l : List Sn) (k : Nat) (h : k < l.length) (m : Nat) : Bool := inT J l[k] && !(l.take m).any (fun s => sameP s l[k])
theorem refAt_zero {J : List Jb} {l : List Sn} {k : Nat} (h : k < l.length) : refAt J l k h 0 = inT J l[k] := by unfold refAt; simp
theorem refAt_step {J : List Jb} {l : List Sn} {k m : Nat} (h : k < l.length) (hm : m < l.length) : refAt J l k h (m + 1) = (refAt J l k h m && !sameP l[m] l[k]) := by
  unfold refAt
  rw [List.take_add_one, List.getElem?_eq_getElem hm, Option.toList_some, List.any_append]
  simp [Bool.and_assoc]
theorem nn_of {l : List Sn} {J : List Jb} (hn : l.all (nameB J) = true) {k : Nat} (h : k < l.length) : 0 ≤ l[k].job ∧ l[k].job < J.length ∧ 0 ≤ l[k].piece ∧ l[k].piece < (jat J l[k].job.toNat).pieces := by
  have := List.all_eq_true.1 hn _ (List.getElem_mem h)
  unfold nameB at this
  simpa using this
theorem check_ref_no {J : List Jb} {l : List Sn} (hn : l.all (nameB J) = true) {k : Nat} (h : k < l.length) (e : refAt J l k h k = false) : checkB J l = false := by
  have h1 := nn_of hn h
  obtain ⟨i, hi⟩ : ∃ i : Nat, l[k].job = i := ⟨l[k].job.toNat, by omega⟩
  obtain ⟨p, hp⟩ : ∃ p : Nat, l[k].piece = p := ⟨l[k].piece.toNat, by omega⟩
  unfold refAt at e
  cases hin : inT J l[k] with
  | false => exact check_no h (by rw [okAt_at h hi hp, hin]; rfl)
  | true =>
    rw [hin, Bool.true_and, Bool.not_eq_false', List.any_eq_true] at e
    obtain ⟨s, hs, hc⟩ := e
    obtain ⟨m, hm, rfl⟩ := List.mem_iff_getElem.1 hs
    rw [List.length_take] at hm
    have hml : m < l.length := by omega
    rw [List.getElem_take] at hc hs
    unfold sameP at hc
    rw [decide_eq_true_eq, hi, hp] at hc
    cases hin2 : inT J l[m] with
    | false => exact check_no hml (by rw [okAt_at hml hc.1 hc.2, hin2]; rfl)
    | true =>
      refine check_no h ?_
      rw [okAt_at h hi hp, hin, Bool.true_and, Bool.not_eq_false']
      unfold gotF
      rw [List.any_eq_true]
      exact ⟨l[m], hs, by simp [hin2, hc]⟩
theorem check_ref_yes {J : List Jb} {l : List Sn} (hn : l.all (nameB J) = true) (e : ∀ k (h : k < l.length), refAt J l k h k = true) : checkB J l = true := by
  refine check_yes fun k h => ?_
  have h1 := nn_of hn h
  obtain ⟨i, hi⟩ : ∃ i : Nat, l[k].job = i := ⟨l[k].job.toNat, by omega⟩
  obtain ⟨p, hp⟩ : ∃ p : Nat, l[k].piece = p := ⟨l[k].piece.toNat, by omega⟩
  have h2 := e k h
  unfold refAt at h2
  rw [Bool.and_eq_true, Bool.not_eq_true', List.any_eq_false] at h2
  rw [okAt_at h hi hp, h2.1, Bool.true_and, Bool.not_eq_true']
  unfold gotF
  rw [List.any_eq_false]
  intro s hs hc
  refine h2.2 s hs ?_
  unfold sameP
  simp only [Bool.and_eq_true, decide_eq_true_eq] at hc ⊢
  rw [hi, hp]
  exact hc.2
theorem names_not {J : List Jb} {l : List Sn} {k : Nat} (h : k < l.length) (e : nameB J l[k] = false) : namesB J l = false := by
  unfold namesB
  rw [Bool.and_eq_false_iff]
  refine .inr (List.all_eq_false.2 ⟨l[k], List.getElem_mem h, by simp [e]⟩)
theorem names_all {J : List Jb} {l : List Sn} (hr : riseB l = true) (e : ∀ k (h : k < l.length), k < l.length → nameB J l[k] = true) : namesB J l = true := by
  unfold namesB
  rw [hr, Bool.true_and, List.all_eq_true]
  intro s hs
  obtain ⟨k, hk, rfl⟩ := List.mem_iff_getElem.1 hs
  exact e k hk hk
theorem names_rise {J : List Jb} {l : List Sn} (e : riseB l = false) : namesB J l = false := by unfold namesB; rw [e]; rfl
/-! ### an overloaded interval -/
theorem sumP_pos {l : List Jb} (h : 0 < sumP l) : l ≠ [] := by rintro rfl; exact absurd h (by decide)
theorem ext_min (g : Jb → Int) : ∀ {l : List Jb}, l ≠ [] → ∃ x ∈ l, ∀ y ∈ l, g x ≤ g y
  | [], h => absurd rfl h
  | [x], _ => ⟨x, by simp, fun y hy => by rw [List.mem_singleton] at hy; rw [hy]; omega⟩
  | x :: z :: l, _ => by
    obtain ⟨m, h1, h2⟩ := ext_min g (l := z :: l) (by simp)
    by_cases e : g x ≤ g m
    · exact ⟨x, by simp, fun y hy => by
        rcases List.mem_cons.1 hy with rfl | hy
        · omega
        · have := h2 y hy; omega⟩
    · exact ⟨m, List.mem_cons_of_mem _ h1, fun y hy => by
        rcases List.mem_cons.1 hy with rfl | hy
        · omega
        · exact h2 y hy⟩
theorem over_pair {J : List Jb} {f a b : Int} (hv : ∀ j ∈ J, jobB j = true) (hd : ∀ j ∈ J, f ≤ j.due) (hab : a ≤ b) (h : over J f a b) :
    ∃ i k, i < J.length ∧ k < J.length ∧ a ≤ max (jat J i).ready f ∧ (jat J k).due ≤ b ∧ max (jat J i).ready f ≤ (jat J k).due ∧ over J f (max (jat J i).ready f) (jat J k).due := by
  unfold over at h
  obtain ⟨S, hS⟩ : ∃ S, J.filter (fun j => decide (a ≤ max j.ready f ∧ j.due ≤ b)) = S := ⟨_, rfl⟩
  have hne : S ≠ [] := by
    refine sumP_pos ?_
    rw [← hS]
    unfold loadP at h
    omega
  have hm : ∀ j, j ∈ S ↔ j ∈ J ∧ a ≤ max j.ready f ∧ j.due ≤ b := fun j => by rw [← hS, List.mem_filter, decide_eq_true_eq]
  obtain ⟨x, hx, hxm⟩ := ext_min (fun j => max j.ready f) hne
  obtain ⟨y, hy, hym⟩ := ext_min (fun j => - j.due) hne
  obtain ⟨hxJ, hx1, hx2⟩ := (hm x).1 hx
  obtain ⟨hyJ, hy1, hy2⟩ := (hm y).1 hy
  obtain ⟨i, hi, ei⟩ := List.mem_iff_getElem.1 hxJ
  obtain ⟨k, hk, ek⟩ := List.mem_iff_getElem.1 hyJ
  have e1 : jat J i = x := by rw [jat_get hi, ei]
  have e2 : jat J k = y := by rw [jat_get hk, ek]
  have h3 := hym x hx
  have h4 := jobB_iff.1 (hv x hxJ)
  have h5 := hd x hxJ
  refine ⟨i, k, hi, hk, by rw [e1]; exact hx1, by rw [e2]; exact hy2, by rw [e1, e2]; omega, ?_⟩
  rw [e1, e2]
  have hl : loadP f (max x.ready f) y.due J = loadP f a b J := by
    unfold loadP
    congr 1
    apply List.filter_congr
    intro j hj
    rw [decide_eq_decide]
    constructor
    · rintro ⟨g1, g2⟩
      omega
    · intro g
      have g1 := hxm j ((hm j).2 ⟨hj, g⟩)
      have g2 := hym j ((hm j).2 ⟨hj, g⟩)
      omega
  unfold over
  rw [hl]
  omega
/-- the pairs seen so far: all of the jobs before i with all, and the job i with those before k -/
def seen (J : List Jb) (i k x y : Nat) : Prop := x < J.length ∧ y < J.length ∧ (x < i ∨ x = i ∧ y < k)
/-- the best interval of the pairs seen -/
def BestI (J : List Jb) (f : Int) (i k : Nat) (lo hi : Int) : Prop :=
  (lo = -1 ∧ hi = 400 ∧ ∀ x y, seen J i k x y → max (jat J x).ready f ≤ (jat J y).due → ¬ over J f (max (jat J x).ready f) (jat J y).due) ∨
  (0 ≤ lo ∧ f ≤ lo ∧ lo ≤ hi ∧ hi < 400 ∧ over J f lo hi ∧ ∀ x y, seen J i k x y → max (jat J x).ready f ≤ (jat J y).due → over J f (max (jat J x).ready f) (jat J y).due → hi < (jat J y).due ∨ hi = (jat J y).due ∧ max (jat J x).ready f ≤ lo)
theorem best_start (J : List Jb) (f : Int) : BestI J f 0 0 (-1) 400 := .inl ⟨rfl, rfl, fun x y h => by unfold seen at h; omega⟩
theorem best_row {J : List Jb} {f : Int} {i : Nat} {lo hi : Int} (h : BestI J f i J.length lo hi) : BestI J f (i + 1) 0 lo hi := by
  have hs : ∀ x y, seen J (i + 1) 0 x y → seen J i J.length x y := fun x y h => by unfold seen at *; omega
  rcases h with ⟨h1, h2, h3⟩ | ⟨h0, h1, h2, h3, h4, h5⟩
  · exact .inl ⟨h1, h2, fun x y h => h3 x y (hs x y h)⟩
  · exact .inr ⟨h0, h1, h2, h3, h4, fun x y h => h5 x y (hs x y h)⟩
theorem seen_step {J : List Jb} {i k x y : Nat} (h : seen J i (k + 1) x y) : seen J i k x y ∨ (x = i ∧ y = k) := by unfold seen at *; omega
/-- the pair (i, k) serves no better -/
theorem best_keep {J : List Jb} {f : Int} {i k : Nat} {lo hi : Int} (h : BestI J f i k lo hi) (hn : ¬ (max (jat J i).ready f ≤ (jat J k).due ∧ over J f (max (jat J i).ready f) (jat J k).due ∧ ((jat J k).due < hi ∨ (jat J k).due = hi ∧ lo < max (jat J i).ready f))) (h4 : (jat J k).due < 400) : BestI J f i (k + 1) lo hi := by
  rcases h with ⟨h1, h2, h3⟩ | ⟨g0, g1, g2, g3, g4, g5⟩
  · refine .inl ⟨h1, h2, fun x y hs hle ho => ?_⟩
    rcases seen_step hs with hs | ⟨rfl, rfl⟩
    · exact h3 x y hs hle ho
    · exact hn ⟨hle, ho, .inl (by omega)⟩
  · refine .inr ⟨g0, g1, g2, g3, g4, fun x y hs hle ho => ?_⟩
    rcases seen_step hs with hs | ⟨rfl, rfl⟩
    · exact g5 x y hs hle ho
    · by_cases e : hi < (jat J y).due
      · exact .inl e
      · have hne : ¬ ((jat J y).due < hi ∨ (jat J y).due = hi ∧ lo < max (jat J x).ready f) := fun h => hn ⟨hle, ho, h⟩
        omega
/-- it serves better -/
theorem best_take {J : List Jb} {f : Int} {i k : Nat} {lo hi : Int} (h : BestI J f i k lo hi) (hle : max (jat J i).ready f ≤ (jat J k).due) (ho : over J f (max (jat J i).ready f) (jat J k).due) (hb : (jat J k).due < hi ∨ (jat J k).due = hi ∧ lo < max (jat J i).ready f)
    (h0 : 0 ≤ (jat J i).ready) (h4 : (jat J k).due < 400) : BestI J f i (k + 1) (max (jat J i).ready f) (jat J k).due := by
  refine .inr ⟨by omega, by omega, hle, h4, ho, fun x y hs hle2 ho2 => ?_⟩
  rcases seen_step hs with hs | ⟨rfl, rfl⟩
  · rcases h with ⟨h1, h2, h3⟩ | ⟨g0, g1, g2, g3, g4, g5⟩
    · exact absurd ho2 (h3 x y hs hle2)
    · have := g5 x y hs hle2 ho2
      omega
  · omega
theorem core_ref {J : List Jb} {f lo hi : Int} (h1 : validJ J = true) (h2 : slotB f = true) (hd : ∀ j ∈ J, f ≤ j.due) (h : BestI J f J.length 0 lo hi) : (lo < 0 ∧ CoreSp J f 0 0 4) ∨ (0 ≤ lo ∧ CoreSp J f lo hi 0) := by
  have hv := (validJ_iff.1 h1).2
  have hnd : ¬ ∃ j ∈ J, j.due < f := fun ⟨j, hj, e⟩ => by have := hd j hj; omega
  have hsn : ∀ i k, i < J.length → k < J.length → seen J J.length 0 i k := fun i k hi hk => ⟨hi, hk, .inl hi⟩
  have he : ∀ lo hi er, CoreSp J f lo hi er = ((er = 0 ∧ f ≤ lo ∧ lo ≤ hi ∧ hi < 400 ∧ over J f lo hi ∧ ∀ a b, f ≤ a → a ≤ b → b < 400 → (b < hi ∨ b = hi ∧ lo < a) → ¬ over J f a b) ∨ (er = 4 ∧ lo = 0 ∧ hi = 0 ∧ ∀ a b, f ≤ a → a ≤ b → b < 400 → ¬ over J f a b)) := fun lo hi er => by
    unfold CoreSp
    rw [if_pos ⟨h1, h2⟩, if_neg hnd]
  rw [he, he]
  rcases h with ⟨g1, g2, g3⟩ | ⟨g0, g1, g2, g3, g4, g5⟩
  · refine .inl ⟨by omega, .inr ⟨rfl, rfl, rfl, fun a b _ hab _ ho => ?_⟩⟩
    obtain ⟨i, k, p1, p2, p3, p4, p5, p6⟩ := over_pair hv hd hab ho
    exact g3 i k (hsn i k p1 p2) p5 p6
  · refine .inr ⟨g0, .inl ⟨rfl, g1, g2, g3, g4, fun a b _ hab _ hl ho => ?_⟩⟩
    obtain ⟨i, k, p1, p2, p3, p4, p5, p6⟩ := over_pair hv hd hab ho
    have := g5 i k (hsn i k p1 p2) p5 p6
    omega
theorem core_due {J : List Jb} {f : Int} (h1 : validJ J = true) (h2 : slotB f = true) {k : Nat} (hk : k < J.length) (h : (jat J k).due < f) : CoreSp J f 0 0 6 := by
  unfold CoreSp
  rw [if_pos ⟨h1, h2⟩, if_pos ⟨jat J k, by rw [jat_get hk]; exact List.getElem_mem hk, h⟩]
  exact ⟨rfl, rfl, rfl⟩
theorem core_uniq {J : List Jb} {f lo hi er lo' hi' er' : Int} (h : CoreSp J f lo hi er) (h' : CoreSp J f lo' hi' er') : lo = lo' ∧ hi = hi' ∧ er = er' := by
  unfold CoreSp at h h'
  split at h
  · rename_i hvs
    rw [if_pos hvs] at h'
    split at h
    · rename_i hx
      rw [if_pos hx] at h'
      omega
    · rename_i hx
      rw [if_neg hx] at h'
      rcases h with ⟨a1, a2, a3, a4, a5, a6⟩ | ⟨a1, a2, a3, a4⟩
      · rcases h' with ⟨b1, b2, b3, b4, b5, b6⟩ | ⟨b1, b2, b3, b4⟩
        · have e1 : ¬ (hi < hi' ∨ hi = hi' ∧ lo' < lo) := fun h => b6 lo hi a2 a3 a4 h a5
          have e2 : ¬ (hi' < hi ∨ hi' = hi ∧ lo < lo') := fun h => a6 lo' hi' b2 b3 b4 h b5
          omega
        · exact absurd a5 (b4 lo hi a2 a3 a4)
      · rcases h' with ⟨b1, b2, b3, b4, b5, b6⟩ | ⟨b1, b2, b3, b4⟩
        · exact absurd b5 (a4 lo' hi' b2 b3 b4)
        · omega
  · rename_i hvs
    rw [if_neg hvs] at h'
    omega
/-! ### the order of asking -/
def askP (J : List Jb) (p : Int) (n : Nat) : List Nat := (List.range n).filter (fun i => decide ((jat J i).prio = p))
theorem askP_mem {J : List Jb} {p : Int} {n x : Nat} : x ∈ askP J p n ↔ x < n ∧ (jat J x).prio = p := by unfold askP; rw [List.mem_filter, List.mem_range, decide_eq_true_eq]
def askD (J : List Jb) (d : Nat) : List Nat := (List.range d).flatMap (fun e : Nat => askP J (9 - (e : Int)) J.length)
theorem askD_succ (J : List Jb) (d : Nat) : askD J (d + 1) = askD J d ++ askP J (9 - (d : Int)) J.length := by
  unfold askD
  rw [List.range_succ, List.flatMap_append, List.flatMap_cons, List.flatMap_nil, List.append_nil]
theorem askP_yes {J : List Jb} {p : Int} {n : Nat} (h : (jat J n).prio = p) : askP J p (n + 1) = askP J p n ++ [n] := by
  unfold askP
  rw [List.range_succ, List.filter_append]
  simp [h]
theorem askP_no {J : List Jb} {p : Int} {n : Nat} (h : (jat J n).prio ≠ p) : askP J p (n + 1) = askP J p n := by
  unfold askP
  rw [List.range_succ, List.filter_append]
  simp [h]
theorem askP_srt (J : List Jb) (p : Int) (n : Nat) : (askP J p n).Pairwise (bef J) := by
  have h : (askP J p n).Pairwise (· < ·) := List.pairwise_lt_range.filter _
  refine h.imp_of_mem ?_
  intro a b ha hb hab
  have h1 := (askP_mem.1 ha).2
  have h2 := (askP_mem.1 hb).2
  unfold bef
  omega
theorem askD_srt (J : List Jb) (d : Nat) : (askD J d).Pairwise (bef J) := by
  unfold askD
  rw [List.pairwise_flatMap]
  refine ⟨fun e _ => askP_srt J _ _, ?_⟩
  refine List.pairwise_lt_range.imp ?_
  intro a b hab x hx y hy
  have h1 := (askP_mem.1 hx).2
  have h2 := (askP_mem.1 hy).2
  unfold bef
  omega
theorem bef_nodup {J : List Jb} {l : List Nat} (h : l.Pairwise (bef J)) : l.Nodup := h.imp (fun {a b} hb e => by subst e; exact bef_asym hb hb)
theorem askD_ask {J : List Jb} (hv : ∀ j ∈ J, jobB j = true) : AskL J (askD J 10) := by
  refine ask_of ?_ (askD_srt J 10)
  refine (List.perm_ext_iff_of_nodup (bef_nodup (askD_srt J 10)) List.nodup_range).2 fun x => ?_
  unfold askD
  rw [List.mem_flatMap, List.mem_range]
  constructor
  · rintro ⟨e, _, h⟩
    exact (askP_mem.1 h).1
  · intro h
    have := jobB_iff.1 (hv _ (List.getElem_mem h))
    rw [← jat_get h] at this
    exact ⟨(9 - (jat J x).prio).toNat, List.mem_range.2 (by omega), askP_mem.2 ⟨h, by omega⟩⟩
/-- who has been asked when the jobs up to i of the priority 9 - d have been -/
def askI (J : List Jb) (d i : Nat) : List Nat := askD J d ++ askP J (9 - (d : Int)) i
theorem askI_zero (J : List Jb) (d : Nat) : askI J d 0 = askD J d := by unfold askI askP; simp
theorem askI_all (J : List Jb) (d : Nat) : askI J d J.length = askI J (d + 1) 0 := by rw [askI_zero, askD_succ]; rfl
theorem askI_yes {J : List Jb} {d i : Nat} (h : (jat J i).prio = 9 - (d : Int)) : askI J d (i + 1) = askI J d i ++ [i] := by unfold askI; rw [askP_yes h, List.append_assoc]
theorem askI_no {J : List Jb} {d i : Nat} (h : (jat J i).prio ≠ 9 - (d : Int)) : askI J d (i + 1) = askI J d i := by unfold askI; rw [askP_no h]
theorem askI_nodup (J : List Jb) (d i : Nat) : (askI J d i).Nodup := by
  refine bef_nodup (J := J) ?_
  unfold askI
  rw [List.pairwise_append]
  refine ⟨askD_srt J d, askP_srt J _ i, fun x hx y hy => ?_⟩
  unfold askD at hx
  rw [List.mem_flatMap] at hx
  obtain ⟨e, he, hx⟩ := hx
  rw [List.mem_range] at he
  have h1 := (askP_mem.1 hx).2
  have h2 := (askP_mem.1 hy).2
  unfold bef
  omega
theorem askI_lt {J : List Jb} {d i : Nat} (hi : i ≤ J.length) : ∀ x ∈ askI J d i, x < J.length := by
  intro x hx
  unfold askI at hx
  rcases List.mem_append.1 hx with h | h
  · unfold askD at h
    rw [List.mem_flatMap] at h
    obtain ⟨e, _, h⟩ := h
    exact (askP_mem.1 h).1
  · have := (askP_mem.1 h).1; omega
end Sc

set_option linter.unusedVariables false
namespace Sc
theorem pick_take {J : List Jb} {q : List Nat} {k : Nat} (hk : k < q.length) (hx : q[k] < J.length) : pickJ J (q.take (k + 1)) = pickJ J (q.take k) ++ [J[q[k]]] := by
  unfold pickJ
  rw [List.take_add_one, List.getElem?_eq_getElem hk, Option.toList_some, List.map_append, List.map_singleton, jat_get hx]
theorem pick_len (J : List Jb) (q : List Nat) (k : Nat) : (pickJ J (q.take k)).length ≤ q.length := by
  unfold pickJ
  rw [List.length_map, List.length_take]
  omega
end Sc
namespace Go.Proofs.Ytheioedggjbphaa
open Go Go.RowKit Sc Sk Go.Sort
theorem cell_drew {w : World} {a : Addr} {v : Value} (h : w.cell? a = some v) : w.drew.cell? a = some v := h
/-- a row of jobs -/
def RowE (w : World) (l : List Jb) (e : Ending) (w' : World) : Prop := ∃ v, e = .returned v ∧ OwnL w' w.heap.size 44 4 cJ v l ∧ Below w.heap.size w w'
def RowB (w : World) (l : List Jb) (e : Ending) (w' : World) : Prop := ∃ v, e = .returned (.tuple #[v, .bool true]) ∧ OwnL w' w.heap.size 44 4 cJ v l ∧ Below w.heap.size w w'
def NatE (w : World) (l : List Nat) (e : Ending) (w' : World) : Prop := ∃ v, e = .returned v ∧ OwnL w' w.heap.size 3 1 cN v l ∧ Below w.heap.size w w'
set_option maxRecDepth 100000 in
set_option maxHeartbeats 8000000 in
theorem rsome_any (jo : Option Addr) (n cap : Nat) (J : List Jb) (qo : Option Addr) (m capq : Nat) (q : List Nat) (w : World) (hs : Sl w 4 cJ jo n cap J) (hq : Sl w 1 cN qo m capq q) (hm : ∀ x ∈ q, x < J.length) (hl : q.length ≤ 1000) :
    Calls Try.prog 51 #[.slice jo n cap, .slice qo m capq] w (RowE w (pickJ J q)) := by
  obtain rfl := hs.len
  obtain rfl := hq.len
  have hcap := hs.max
  have hle := hs.le
  have hcapq := hq.max
  have hleq := hq.le
  unfold maxLen at hcap hcapq
  have HS := Lib.hid hs
  have HQ := Lib.hid hq
  have HM := Lib.hid hm
  have HB_w : Below w.heap.size w w := Below.refl _ _
  clear hs hq hm
  obtain ⟨i0, hi, hz0, hz1, hz2⟩ := info_parts info_job
  have HI := Lib.hid hi
  have HZ0 := Lib.hid hz0
  have HZ1 := Lib.hid hz1
  have HZ2 := Lib.hid hz2
  obtain ⟨i1, hy, hy0, hy1, hy2⟩ := info_parts info_sent
  have HY := Lib.hid hy
  have HY0 := Lib.hid hy0
  have HY1 := Lib.hid hy1
  have HY2 := Lib.hid hy2
  clear hi hz0 hz1 hz2 hy hy0 hy1 hy2
  go_enter Try.func51, Try.ntmps51
  go_wp2_with fail
  go_loopw [5, 6] (fun o i wr => ∃ k : Nat, k ≤ q.length ∧ i = .int .i64 k ∧ Below w.heap.size w wr ∧ Hid (OwnL wr w.heap.size 44 4 cJ o (pickJ J (q.take k)))) (fun _ i _ => q.length - (intOf i).toNat)
  case atStart => exact ⟨0, Nat.zero_le _, rfl, HB_w, OwnL.nil⟩
  case round =>
    obtain ⟨k, hk, rfl, HB_wr, HO⟩ := hrel
    by_cases hlt : k < q.length
    ·
      obtain ⟨bq, offq, rfl, hbq, hrowq⟩ := (HQ.out.below HB_wr).get hlt
      have g_0 := (hrowq k hlt).c1
      have hyJ := HM.out _ (List.getElem_mem hlt)
      obtain ⟨bj, offj, rfl, hbj, hrow⟩ := (HS.out.below HB_wr).get hyJ
      obtain ⟨e_0, e_1, e_2, e_3⟩ := (hrow _ hyJ).c4
      have HSUC := Lib.hid (pick_take hlt hyJ)
      have hpl := pick_len J q (k)
      have hyi : (q[k] : Int) < (J.length : Int) := by omega
      rw [Nat.mul_one] at g_0
      try rw [Nat.add_zero] at g_0
      clear hrow
      generalize pickJ J (q.take k) = pre at *
      generalize J[q[k]] = y at *
      generalize q[k] = qk at *
      obtain ⟨y0, y1, y2, y3⟩ := y
      dsimp only at e_0 e_1 e_2 e_3
      have HOX := Lib.hid (HO.out.alloc (.cells #[.int .i64 y0, .int .i64 y1, .int .i64 y2, .int .i64 y3] 44))
      have HSX : Hid (Sl (wr.alloc (.cells #[.int .i64 y0, .int .i64 y1, .int .i64 y2, .int .i64 y3] 44)) 4 cJ (some ⟨wr.heap.size, 0, none⟩) 1 1 [(⟨y0, y1, y2, y3⟩ : Jb)]) := Sl.one (x := (⟨y0, y1, y2, y3⟩ : Jb)) cJ_len (Box.new wr (cJ ⟨y0, y1, y2, y3⟩) 44)
      have hsz : w.heap.size ≤ (wr.alloc (.cells #[.int .i64 y0, .int .i64 y1, .int .i64 y2, .int .i64 y3] 44)).heap.size := by have := HB_wr.size; simp; omega
      go_wp2_with (at_builtin; refine wpList_append_sl rfl _ _ 22 rfl w.heap.size 44 i0 _ 4 32 Try.underlying22 HI.out HZ0.out HZ1.out HZ2.out rfl (by decide) cJ_len cJ_one _ pre rfl HOX.out (some ⟨wr.heap.size, 0, none⟩) 1 1 [(⟨y0, y1, y2, y3⟩ : Jb)] rfl HSX.out (by unfold maxLen; omega) (by omega) hsz ?_)
      rintro v' w6 ho6 hg6 hgr6
      have HB_6 : Below w.heap.size w w6 := (grew1 HB_wr).trans (hg6 _ (Nat.le_refl _))
      have HO6 := Lib.hid (show OwnL w6 w.heap.size 44 4 cJ v' (pickJ J (q.take (k + 1))) by rw [HSUC.out]; exact ho6)
      clear hg6 hgr6 ho6 HOX HSX hsz HO
      clear e_0 e_1 e_2 e_3 g_0
      go_wp2_with fail
      go_roundw
      case rel => exact ⟨k + 1, hlt, by go_num, HB_6, HO6⟩
      case measure => simp [intOf] <;> omega
    · obtain rfl : k = q.length := by omega
      rw [List.take_length] at HO
      go_wp2_with fail
      all_goals try (exfalso; omega)
      go_ret
      exact ⟨_, rfl, HO.out, HB_wr⟩
set_option maxRecDepth 100000 in
set_option maxHeartbeats 8000000 in
theorem some_any (jo : Option Addr) (n cap : Nat) (J : List Jb) (qo : Option Addr) (m capq : Nat) (q : List Nat) (w : World) (hs : Sl w 4 cJ jo n cap J) (hq : Sl w 1 cN qo m capq q) (hm : ∀ x ∈ q, x < J.length) (hl : q.length ≤ 1000) (hr : q.Pairwise (· < ·)) :
    Calls Try.prog 29 #[.slice jo n cap, .slice qo m capq] w (RowB w (pickJ J q)) := by
  obtain rfl := hs.len
  obtain rfl := hq.len
  have hcap := hs.max
  have hle := hs.le
  have hcapq := hq.max
  have hleq := hq.le
  unfold maxLen at hcap hcapq
  have HS := Lib.hid hs
  have HQ := Lib.hid hq
  have HM := Lib.hid hm
  have HPW := Lib.hid (List.pairwise_iff_getElem.1 hr)
  have HB_w : Below w.heap.size w w := Below.refl _ _
  clear hs hq hm hr
  obtain ⟨i0, hi, hz0, hz1, hz2⟩ := info_parts info_job
  have HI := Lib.hid hi
  have HZ0 := Lib.hid hz0
  have HZ1 := Lib.hid hz1
  have HZ2 := Lib.hid hz2
  obtain ⟨i1, hy, hy0, hy1, hy2⟩ := info_parts info_sent
  have HY := Lib.hid hy
  have HY0 := Lib.hid hy0
  have HY1 := Lib.hid hy1
  have HY2 := Lib.hid hy2
  clear hi hz0 hz1 hz2 hy hy0 hy1 hy2
  go_enter Try.func29, Try.ntmps29
  go_wp2_with fail
  go_loopw [6, 7] (fun o i wr => ∃ k : Nat, k ≤ q.length ∧ i = .int .i64 k ∧ Below w.heap.size w wr ∧ Hid (OwnL wr w.heap.size 44 4 cJ o (pickJ J (q.take k)))) (fun _ i _ => q.length - (intOf i).toNat)
  case atStart => exact ⟨0, Nat.zero_le _, rfl, HB_w, OwnL.nil⟩
  case round =>
    obtain ⟨k, hk, rfl, HB_wr, HO⟩ := hrel
    by_cases hlt : k < q.length
    · have HRG := Lib.hid (show ∀ W, Below w.heap.size w W → Sl W 1 cN qo q.length capq q from fun W hW => HQ.out.below hW)
      rcases Nat.eq_zero_or_pos k with h0 | h0
      · subst h0
        obtain ⟨bq, offq, rfl, hbq, hrowq⟩ := (HQ.out.below HB_wr).get hlt
        have g_0 := (hrowq 0 hlt).c1
        have hyJ := HM.out _ (List.getElem_mem hlt)
        obtain ⟨bj, offj, rfl, hbj, hrow⟩ := (HS.out.below HB_wr).get hyJ
        obtain ⟨e_0, e_1, e_2, e_3⟩ := (hrow _ hyJ).c4
        have HSUC := Lib.hid (pick_take hlt hyJ)
        have hpl := pick_len J q (0)
        have hyi : (q[0] : Int) < (J.length : Int) := by omega
        rw [Nat.mul_one] at g_0
        try rw [Nat.add_zero] at g_0
        clear hrow
        generalize pickJ J (q.take 0) = pre at *
        generalize J[q[0]] = y at *
        generalize q[0] = qk at *
        obtain ⟨y0, y1, y2, y3⟩ := y
        dsimp only at e_0 e_1 e_2 e_3
        go_wp2_with fail
        have y_g := cell_regrown g_0
        refine wp_region_plan (C := fun w' => ∃ p : Regrown, w' = grow (redrawn wr p.d) p.os) (.q 0 (.q 1 (.q 2 (.q 3 (.q 4 (.q 5 (.q 6 (.q 7 (.q 8 (.q 9 (.q 10 (.q 11 (.q 12 (.q 13 (.q 14 (.q 15 (.q 16 (.q 17 (.q 18 (.q 19 (.q 20 (.q 21 (.q 22 (.q 23 (.q 24 (.q 25 (.q 26 (.q 27 (.q 28 (.q 29 (.done))))))))))))))))))))))))))))))) 30 (by kernel_rfl) (by kernel_rfl) (grew_drew _) ?_
        repeat (any_goals (first | (go_big_quiet_skip; refine wpQuiet_nil ?_) | (go_big_quiet_want; go_big_quiet_op; go_big_quiet_on; refine wpQuiet_nil ?_) | ((with_reducible apply q_split); exact rfl; intro q hq; cases q <;> (rw [hq]; (try first | replace hq := bnot_t hq | replace hq := bnot_f hq); (try first | replace hq := of_decide_eq_true hq | replace hq := of_decide_eq_false hq | replace hq := eq_of_beq hq); (try first | replace hq := Int.not_lt.1 hq | replace hq := Int.not_le.1 hq | replace hq := Nat.not_lt.1 hq | replace hq := Nat.not_le.1 hq); try (exfalso; omega))) | (refine plan_q rfl rfl ?_)))
        clear y_g
        all_goals refine plan_done ?_
        all_goals (try simp only [List.drop_succ_cons, List.drop_zero])
        all_goals (try go_wp2_with fail)
        all_goals refine NoPanic.normal ?_
        obtain ⟨wd, hW_wd⟩ : ∃ W, wr.drew = W := ⟨_, rfl⟩
        first | rw [hW_wd] | rw [show ({ heap := wr.heap, tape := wr.tape, drawn := wr.drawn + 1, os := wr.os, output := wr.output } : World) = wd from hW_wd]
        replace HO := Lib.hid HO.out.drew
        replace g_0 := cell_drew g_0
        replace e_0 := cell_drew e_0
        replace e_1 := cell_drew e_1
        replace e_2 := cell_drew e_2
        replace e_3 := cell_drew e_3
        have HB_wd : Below w.heap.size w wr.drew := HB_wr.drew
        rw [hW_wd] at HO g_0 e_0 e_1 e_2 e_3 HB_wd
        clear hW_wd
        have HOX := Lib.hid (HO.out.alloc (.cells #[.int .i64 y0, .int .i64 y1, .int .i64 y2, .int .i64 y3] 44))
        have HSX : Hid (Sl (wd.alloc (.cells #[.int .i64 y0, .int .i64 y1, .int .i64 y2, .int .i64 y3] 44)) 4 cJ (some ⟨wd.heap.size, 0, none⟩) 1 1 [(⟨y0, y1, y2, y3⟩ : Jb)]) := Sl.one (x := (⟨y0, y1, y2, y3⟩ : Jb)) cJ_len (Box.new wd (cJ ⟨y0, y1, y2, y3⟩) 44)
        have hsz : w.heap.size ≤ (wd.alloc (.cells #[.int .i64 y0, .int .i64 y1, .int .i64 y2, .int .i64 y3] 44)).heap.size := by have := HB_wd.size; simp; omega
        go_wp2_with (at_builtin; refine wpList_append_sl rfl _ _ 22 rfl w.heap.size 44 i0 _ 4 32 Try.underlying22 HI.out HZ0.out HZ1.out HZ2.out rfl (by decide) cJ_len cJ_one _ pre rfl HOX.out (some ⟨wd.heap.size, 0, none⟩) 1 1 [(⟨y0, y1, y2, y3⟩ : Jb)] rfl HSX.out (by unfold maxLen; omega) (by omega) hsz ?_)
        rintro v' w6 ho6 hg6 hgr6
        have HB_6 : Below w.heap.size w w6 := (grew1 HB_wd).trans (hg6 _ (Nat.le_refl _))
        have HO6 := Lib.hid (show OwnL w6 w.heap.size 44 4 cJ v' (pickJ J (q.take (0 + 1))) by rw [HSUC.out]; exact ho6)
        clear hg6 hgr6 ho6 HOX HSX hsz HO
        clear e_0 e_1 e_2 e_3 g_0
        go_wp2_with fail
        go_roundw
        case rel => exact ⟨1, hlt, by go_num, HB_6, HO6⟩
        case measure => simp [intOf] <;> omega
      · obtain ⟨j, rfl⟩ : ∃ j, k = j + 1 := ⟨k - 1, by omega⟩
        have hjl : j < q.length := by omega
        have hgt := HPW.out j (j + 1) hjl hlt (Nat.lt_succ_self j)
        obtain ⟨bq, offq, rfl, hbq, hrowq⟩ := (HQ.out.below HB_wr).get hlt
        have g_0 := (hrowq (j + 1) hlt).c1
        have hyJ := HM.out _ (List.getElem_mem hlt)
        obtain ⟨bj, offj, rfl, hbj, hrow⟩ := (HS.out.below HB_wr).get hyJ
        obtain ⟨e_0, e_1, e_2, e_3⟩ := (hrow _ hyJ).c4
        have HSUC := Lib.hid (pick_take hlt hyJ)
        have hpl := pick_len J q ((j + 1))
        have hyi : (q[(j + 1)] : Int) < (J.length : Int) := by omega
        rw [Nat.mul_one] at g_0
        try rw [Nat.add_zero] at g_0
        clear hrow
        have f_0 := (hrowq j hjl).c1
        rw [Nat.mul_one] at f_0
        have hgi : (q[j] : Int) < (q[j + 1] : Int) := by omega
        have hjj : ((j + 1 : Nat) : Int) = (j : Int) + 1 := by omega
        have HRI := Lib.hid hjj
        rw [hjj]
        clear hrowq hgt hjj
        generalize pickJ J (q.take (j + 1)) = pre at *
        generalize J[q[j + 1]] = y at *
        generalize q[j + 1] = qk at *
        generalize q[j] = ql at *
        obtain ⟨y0, y1, y2, y3⟩ := y
        dsimp only at e_0 e_1 e_2 e_3
        have y_f := cell_regrown f_0
        clear f_0
        go_wp2_with fail
        have y_g := cell_regrown g_0
        refine wp_region_plan (C := fun w' => ∃ p : Regrown, w' = grow (redrawn wr p.d) p.os) (.q 0 (.q 1 (.q 2 (.q 3 (.q 4 (.q 5 (.q 6 (.q 7 (.q 8 (.q 9 (.q 10 (.q 11 (.q 12 (.q 13 (.q 14 (.q 15 (.q 16 (.q 17 (.q 18 (.q 19 (.q 20 (.q 21 (.q 22 (.q 23 (.q 24 (.q 25 (.q 26 (.q 27 (.q 28 (.q 29 (.done))))))))))))))))))))))))))))))) 30 (by kernel_rfl) (by kernel_rfl) (grew_drew _) ?_
        repeat (any_goals (first | (go_big_quiet_skip; refine wpQuiet_nil ?_) | (go_big_quiet_want; go_big_quiet_op; go_big_quiet_on; refine wpQuiet_nil ?_) | ((with_reducible apply q_split); exact rfl; intro q hq; cases q <;> (rw [hq]; (try first | replace hq := bnot_t hq | replace hq := bnot_f hq); (try first | replace hq := of_decide_eq_true hq | replace hq := of_decide_eq_false hq | replace hq := eq_of_beq hq); (try first | replace hq := Int.not_lt.1 hq | replace hq := Int.not_le.1 hq | replace hq := Nat.not_lt.1 hq | replace hq := Nat.not_le.1 hq); try (exfalso; omega))) | (refine plan_q rfl rfl ?_)))
        clear y_g
        all_goals refine plan_done ?_
        all_goals (try simp only [List.drop_succ_cons, List.drop_zero])
        all_goals (try go_wp2_with fail)
        all_goals refine NoPanic.normal ?_
        obtain ⟨wd, hW_wd⟩ : ∃ W, wr.drew = W := ⟨_, rfl⟩
        first | rw [hW_wd] | rw [show ({ heap := wr.heap, tape := wr.tape, drawn := wr.drawn + 1, os := wr.os, output := wr.output } : World) = wd from hW_wd]
        replace HO := Lib.hid HO.out.drew
        replace g_0 := cell_drew g_0
        replace e_0 := cell_drew e_0
        replace e_1 := cell_drew e_1
        replace e_2 := cell_drew e_2
        replace e_3 := cell_drew e_3
        have HB_wd : Below w.heap.size w wr.drew := HB_wr.drew
        rw [hW_wd] at HO g_0 e_0 e_1 e_2 e_3 HB_wd
        clear hW_wd
        clear y_f
        have HOX := Lib.hid (HO.out.alloc (.cells #[.int .i64 y0, .int .i64 y1, .int .i64 y2, .int .i64 y3] 44))
        have HSX : Hid (Sl (wd.alloc (.cells #[.int .i64 y0, .int .i64 y1, .int .i64 y2, .int .i64 y3] 44)) 4 cJ (some ⟨wd.heap.size, 0, none⟩) 1 1 [(⟨y0, y1, y2, y3⟩ : Jb)]) := Sl.one (x := (⟨y0, y1, y2, y3⟩ : Jb)) cJ_len (Box.new wd (cJ ⟨y0, y1, y2, y3⟩) 44)
        have hsz : w.heap.size ≤ (wd.alloc (.cells #[.int .i64 y0, .int .i64 y1, .int .i64 y2, .int .i64 y3] 44)).heap.size := by have := HB_wd.size; simp; omega
        go_wp2_with (at_builtin; refine wpList_append_sl rfl _ _ 22 rfl w.heap.size 44 i0 _ 4 32 Try.underlying22 HI.out HZ0.out HZ1.out HZ2.out rfl (by decide) cJ_len cJ_one _ pre rfl HOX.out (some ⟨wd.heap.size, 0, none⟩) 1 1 [(⟨y0, y1, y2, y3⟩ : Jb)] rfl HSX.out (by unfold maxLen; omega) (by omega) hsz ?_)
        rintro v' w6 ho6 hg6 hgr6
        have HB_6 : Below w.heap.size w w6 := (grew1 HB_wd).trans (hg6 _ (Nat.le_refl _))
        have HO6 := Lib.hid (show OwnL w6 w.heap.size 44 4 cJ v' (pickJ J (q.take ((j + 1) + 1))) by rw [HSUC.out]; exact ho6)
        clear hg6 hgr6 ho6 HOX HSX hsz HO
        clear e_0 e_1 e_2 e_3 g_0
        go_wp2_with fail
        go_roundw
        case rel => exact ⟨j + 1 + 1, hlt, by go_num, HB_6, HO6⟩
        case measure => simp [intOf] <;> omega
    · obtain rfl : k = q.length := by omega
      rw [List.take_length] at HO
      go_wp2_with fail
      all_goals try (exfalso; omega)
      go_ret2
      exact ⟨_, rfl, HO.out, HB_wr⟩

set_option maxRecDepth 100000 in
set_option maxHeartbeats 8000000 in
theorem rwith_any (qo : Option Addr) (m capq : Nat) (q : List Nat) (n : Nat) (w : World) (hq : Sl w 1 cN qo m capq q) (hl : q.length ≤ 1000) (hr : q.Pairwise (· < ·)) (hn : n ≤ 1000) :
    Calls Try.prog 30 #[.slice qo m capq, .int .i64 (n : Int)] w (NatE w (srtN (q ++ [n]))) := by
  obtain rfl := hq.len
  have hcapq := hq.max
  have hleq := hq.le
  unfold maxLen at hcapq
  have HQ := Lib.hid hq
  have HPW := Lib.hid (List.pairwise_iff_getElem.1 hr)
  have HSR := Lib.hid (fun k h1 h2 => @ins_srt q n k hr h1 h2)
  have HLN := Lib.hid (show (srtN (q ++ [n])).length = q.length + 1 by rw [srtN_len]; simp)
  have HB_w : Below w.heap.size w w := Below.refl _ _
  obtain ⟨i2, hi, hz0, hz1, hz2⟩ := info_parts info_int
  have HI2 := Lib.hid hi
  have HZ20 := Lib.hid hz0
  have HZ21 := Lib.hid hz1
  have HZ22 := Lib.hid hz2
  clear hi hz0 hz1 hz2 hq hr
  go_enter Try.func30, Try.ntmps30
  have HO0 := Lib.hid (show OwnL (w.alloc (.cells #[] 3)) w.heap.size 3 1 cN (.slice (some ⟨w.heap.size, 0, none⟩) 0 0) ([] : List Nat) from OwnL.made (Nat.le_refl _))
  go_wp2_with (at_builtin; refine wpList_append_sl rfl _ _ 30 rfl w.heap.size 3 i2 _ 1 8 Try.underlying30 HI2.out HZ20.out HZ21.out HZ22.out rfl (by decide) cN_len cN_one _ [] rfl HO0.out qo q.length capq q rfl (HQ.out.below (grew1 (Below.refl _ _))) (by unfold maxLen; simp; omega) (by simp; omega) (by simp) ?_)
  rintro v1 w1 ho hg hgr
  have HB_w1 : Below w.heap.size w w1 := (grew1 HB_w).trans (hg _ HB_w.size)
  have HO1 := Lib.hid (show OwnL w1 w.heap.size 3 1 cN v1 q from ho)
  clear ho hg hgr HO0
  have HOX := Lib.hid (HO1.out.alloc (.cells #[.int .i64 (n : Int)] 3))
  have HSX : Hid (Sl (w1.alloc (.cells #[.int .i64 (n : Int)] 3)) 1 cN (some ⟨w1.heap.size, 0, none⟩) 1 1 [n]) := Sl.one (x := n) cN_len (Box.new w1 (cN n) 3)
  have hsz : w.heap.size ≤ (w1.alloc (.cells #[.int .i64 (n : Int)] 3)).heap.size := by have := HB_w1.size; simp; omega
  go_wp2_with (at_builtin; refine wpList_append_sl rfl _ _ 30 rfl w.heap.size 3 i2 _ 1 8 Try.underlying30 HI2.out HZ20.out HZ21.out HZ22.out rfl (by decide) cN_len cN_one _ q rfl HOX.out (some ⟨w1.heap.size, 0, none⟩) 1 1 [n] rfl HSX.out (by unfold maxLen; omega) (by omega) hsz ?_)
  rintro v6 w6 ho6 hg6 hgr6
  have HB_w6 : Below w.heap.size w w6 := (grew1 HB_w1).trans (hg6 _ (Nat.le_refl _))
  obtain ⟨g, cg, rfl, hgb, hgl⟩ := OwnL.form' ho6 (by simp)
  have hlen : (q ++ [n]).length = q.length + 1 := by simp
  have HO6 := Lib.hid (show OwnL w6 w.heap.size 3 1 cN (.slice (some ⟨g, 0, none⟩) (q.length + 1) cg) (ins q n q.length) by rw [ins_all, ← hlen]; exact ho6)
  rw [hlen]
  have HCG := Lib.hid HO6.out.slG
  have hcg : q.length + 1 ≤ cg ∧ cg ≤ 9223372036854775807 := by
    have h1 := (HCG.out cN_len).le
    have h2 := (HCG.out cN_len).max
    have h3 := ins_len (n := n) (Nat.le_refl q.length)
    unfold maxLen at h2
    omega
  clear hg6 hgr6 ho6 HOX HSX hsz HO1 hlen hgl HCG
  obtain ⟨hcg1, hcg2⟩ := hcg
  go_wp2_with fail
  go_loopw [6] (fun i wr => ∃ k : Nat, k ≤ q.length ∧ i = .int .i64 k ∧ Below w.heap.size w wr ∧ Hid (OwnL wr w.heap.size 3 1 cN (.slice (some ⟨g, 0, none⟩) (q.length + 1) cg) (ins q n k)) ∧ Hid (∀ x ∈ q.drop k, n ≤ x)) (fun i _ => (intOf i).toNat)
  case atStart => exact ⟨q.length, Nat.le_refl _, by go_num, HB_w6, HO6, fun x hx => by rw [List.drop_length] at hx; cases hx⟩
  case round =>
    clear HO6 HB_w6
    obtain ⟨k, hk, rfl, HB_wr, HO, HD⟩ := hrel
    rcases Nat.eq_zero_or_pos k with h0 | h0
    · subst h0
      have HE := Lib.hid (HSR.out 0 (fun x hx => by cases hx) HD.out)
      rw [HE.out] at HO
      clear HE HD
      go_wp2_with fail
      refine wp_region_plan (C := fun w' => ∃ p : Regrown, w' = grow (redrawn wr p.d) p.os) (.q 0 (.q 1 (.q 2 (.q 3 (.q 4 (.q 5 (.q 6 (.q 7 (.q 8 (.q 9 (.q 10 (.q 11 (.q 12 (.q 13 (.done))))))))))))))) 14 (by kernel_rfl) (by kernel_rfl) (grew_drew _) ?_
      repeat (any_goals (first | (go_big_quiet_skip; refine wpQuiet_nil ?_) | (go_big_quiet_want; go_big_quiet_op; go_big_quiet_on; refine wpQuiet_nil ?_) | ((with_reducible apply q_split); exact rfl; intro q hq; cases q <;> (rw [hq]; (try first | replace hq := bnot_t hq | replace hq := bnot_f hq); (try first | replace hq := of_decide_eq_true hq | replace hq := of_decide_eq_false hq | replace hq := eq_of_beq hq); (try first | replace hq := Int.not_lt.1 hq | replace hq := Int.not_le.1 hq | replace hq := Nat.not_lt.1 hq | replace hq := Nat.not_le.1 hq); try (exfalso; omega))) | (refine plan_q rfl rfl ?_)))
      all_goals refine plan_done ?_
      all_goals (try simp only [List.drop_succ_cons, List.drop_zero])
      all_goals (try go_wp2_with fail)
      all_goals refine NoPanic.normal ?_
      all_goals (try go_wp2_with fail)
      go_ret
      exact ⟨.slice (some ⟨g, 0, none⟩) (q.length + 1) cg, rfl, HO.out.drew, HB_wr.drew⟩
    · obtain ⟨j, rfl⟩ : ∃ j, k = j + 1 := ⟨k - 1, by omega⟩
      have hjl : j < q.length := by omega
      have hln := ins_len (n := n) hk
      have hq1 := ins_at (n := n) hk
      have hq2 := ins_bef (n := n) hjl
      have g_0 := HO.out.cellG cN_len (j := j + 1) (i := 0) hq1 rfl
      have g_1 := HO.out.cellG cN_len (j := j) (i := 0) hq2 rfl
      simp only [Nat.mul_one, Nat.add_zero] at g_0 g_1
      have HSW := Lib.hid (ins_swap (n := n) hjl)
      have HPJ := Lib.hid (fun i (hi : i < q.length) h => HPW.out i j hi hjl h)
      have hdc : q.drop j = q[j] :: q.drop (j + 1) := List.drop_eq_getElem_cons hjl
      have HSJ := Lib.hid (show q[j] ≤ n → ins q n (j + 1) = srtN (q ++ [n]) from fun h => HSR.out (j + 1) (fun x hx => by
        obtain ⟨i, hi, rfl⟩ := List.mem_take_iff_getElem.1 hx
        by_cases e : i = j
        · subst e; exact h
        · have := HPJ.out i (by omega) (by omega); omega) HD.out)
      have HDJ := Lib.hid (show n ≤ q[j] → ∀ x ∈ q.drop j, n ≤ x from fun h x hx => by
        rw [hdc] at hx
        rcases List.mem_cons.1 hx with rfl | hx
        · exact h
        · exact HD.out x hx)
      have hjj : ((j + 1 : Nat) : Int) = (j : Int) + 1 := by omega
      have HRI := Lib.hid hjj
      rw [hjj]
      clear hjj hdc HPJ
      generalize q[j] = y at *
      have HQ1 := Lib.hid hq1
      have HQ2 := Lib.hid hq2
      clear hq1 hq2
      go_wp2_with fail
      have y_g0 := cell_regrown g_0
      have y_g1 := cell_regrown g_1
      clear g_0 g_1
      by_cases hny : (n : Int) < (y : Int)
      · have HD2 := Lib.hid (HDJ.out (by omega))
        clear HSJ HDJ HD
        refine wp_region_plan (C := fun w' => ∃ p : Regrown, w' = grow (redrawn wr p.d) p.os) (.q 0 (.q 1 (.q 2 (.q 3 (.q 4 (.q 5 (.q 6 (.q 7 (.q 8 (.q 9 (.q 10 (.q 11 (.q 12 (.q 13 (.done))))))))))))))) 14 (by kernel_rfl) (by kernel_rfl) (grew_drew _) ?_
        repeat (any_goals (first | (go_big_quiet_skip; refine wpQuiet_nil ?_) | (go_big_quiet_want; go_big_quiet_op; go_big_quiet_on; refine wpQuiet_nil ?_) | ((with_reducible apply q_split); exact rfl; intro q hq; cases q <;> (rw [hq]; (try first | replace hq := bnot_t hq | replace hq := bnot_f hq); (try first | replace hq := of_decide_eq_true hq | replace hq := of_decide_eq_false hq | replace hq := eq_of_beq hq); (try first | replace hq := Int.not_lt.1 hq | replace hq := Int.not_le.1 hq | replace hq := Nat.not_lt.1 hq | replace hq := Nat.not_le.1 hq); try (exfalso; omega))) | (refine plan_q rfl rfl ?_)))
        clear y_g0 y_g1
        all_goals refine plan_done ?_
        all_goals (try simp only [List.drop_succ_cons, List.drop_zero])
        all_goals (try go_wp2_with fail)
        all_goals refine NoPanic.normal ?_
        obtain ⟨wd, hW_wd⟩ : ∃ W, wr.drew = W := ⟨_, rfl⟩
        first | rw [hW_wd] | rw [show ({ heap := wr.heap, tape := wr.tape, drawn := wr.drawn + 1, os := wr.os, output := wr.output } : World) = wd from hW_wd]
        have HB_wd : Below w.heap.size w wd := hW_wd ▸ HB_wr.drew
        have HOD := Lib.hid (show OwnL wd w.heap.size 3 1 cN (.slice (some ⟨g, 0, none⟩) (q.length + 1) cg) (ins q n (j + 1)) from hW_wd ▸ HO.out.drew)
        clear hW_wd HB_wr HO
        go_wp2_with fail
        obtain ⟨V, hV⟩ : ∃ V, wd.drew = V := ⟨_, rfl⟩
        have HB_V : Below w.heap.size w V := hV ▸ HB_wd.drew
        have HOV := Lib.hid (show OwnL V w.heap.size 3 1 cN (.slice (some ⟨g, 0, none⟩) (q.length + 1) cg) (ins q n (j + 1)) from hV ▸ HOD.out.drew)
        have g_0 := HOV.out.cellG cN_len (j := j + 1) (i := 0) HQ1.out rfl
        have g_1 := HOV.out.cellG cN_len (j := j) (i := 0) HQ2.out rfl
        have g_f := HOV.out.frozenG
        have hs1 := OwnL.setG cN_len HOV.out (j := j + 1) (by omega) (i := 0) (by decide) (u := .int .i64 (y : Int)) (a := y) rfl
        have hs2 := OwnL.setG cN_len hs1.1 (j := j) (by rw [List.length_set]; omega) (i := 0) (by decide) (u := .int .i64 (n : Int)) (a := n) rfl
        simp only [Nat.mul_one, Nat.add_zero] at g_0 g_1 hs1 hs2
        have hg1 := hs1.1.cellG cN_len (j := j) (i := 0) (a := y) (by rw [List.getElem?_set_ne (by omega)]; exact HQ2.out) rfl
        have hf1 := hs1.1.frozenG
        simp only [Nat.mul_one, Nat.add_zero] at hg1
        have HS1 := Lib.hid hs1
        have HS2 := Lib.hid hs2
        clear hs1 hs2
        obtain ⟨V1, hV1⟩ : ∃ V1, V.setCell ⟨g, j + 1, none⟩ (.int .i64 (y : Int)) = V1 := ⟨_, rfl⟩
        rw [hV1] at HS1 HS2 hg1 hf1
        obtain ⟨V2, hV2⟩ : ∃ V2, V1.setCell ⟨g, j, none⟩ (.int .i64 (n : Int)) = V2 := ⟨_, rfl⟩
        rw [hV2] at HS2
        have HO2 := Lib.hid (show OwnL V2 w.heap.size 3 1 cN (.slice (some ⟨g, 0, none⟩) (q.length + 1) cg) (ins q n j) by rw [← HSW.out]; exact HS2.out.1)
        have HB_V2 : Below w.heap.size w V2 := by
          rw [← hV2, ← hV1]
          exact (HB_V.setCell (p := ⟨g, j + 1, none⟩) hgb _).setCell (p := ⟨g, j, none⟩) hgb _
        have y_n : Nonempty (Wc (fun W => True)) := ⟨⟨V, trivial⟩⟩
        clear HOV HOD HS1 HS2 HSW HB_V HQ1 HQ2
        refine wp_region_plan (C := fun w' => ∃ p : Wc (fun W => True), w' = p.w) (.q 0 (.q 1 (.q 2 (.q 3 (.q 4 (.q 5 (.q 6 (.q 7 (.q 8 (.q 10 (.q 11 (.q 12 (.two 9 (.e 13 (.q 14 (.e 15 (.q 16 (.e 17 (.done)))))) 13 (.e 9 (.q 14 (.e 15 (.q 16 (.e 17 (.done))))))))))))))))))) 18 (by kernel_rfl) (by kernel_rfl) ⟨⟨_, ?_⟩, rfl⟩ ?_
        · trivial
        repeat (any_goals (first | (go_big_quiet_skip; refine wpQuiet_nil ?_) | (go_big_quiet_want; go_big_quiet_op; go_big_quiet_on; refine wpQuiet_nil ?_) | ((with_reducible apply q_split); exact rfl; intro q hq; cases q <;> (rw [hq]; (try first | replace hq := bnot_t hq | replace hq := bnot_f hq); (try first | replace hq := of_decide_eq_true hq | replace hq := of_decide_eq_false hq | replace hq := eq_of_beq hq); (try first | replace hq := Int.not_lt.1 hq | replace hq := Int.not_le.1 hq | replace hq := Nat.not_lt.1 hq | replace hq := Nat.not_le.1 hq); try (exfalso; omega))) | (refine plan_q rfl rfl ?_)))
        rw [show ({ heap := wd.heap, tape := wd.tape, drawn := wd.drawn + 1, os := wd.os, output := wd.output } : World) = V from hV]
        refine plan_two rfl rfl ?_ ?_
        all_goals
          go_wp2_with fail
          refine MixPost.intro ⟨⟨_, trivial⟩, rfl⟩ ?_
          repeat (any_goals (first | (go_big_quiet_skip; refine wpQuiet_nil ?_) | (go_big_quiet_want; go_big_quiet_op; go_big_quiet_on; refine wpQuiet_nil ?_) | ((with_reducible apply q_split); exact rfl; intro q hq; cases q <;> (rw [hq]; (try first | replace hq := bnot_t hq | replace hq := bnot_f hq); (try first | replace hq := of_decide_eq_true hq | replace hq := of_decide_eq_false hq | replace hq := eq_of_beq hq); (try first | replace hq := Int.not_lt.1 hq | replace hq := Int.not_le.1 hq | replace hq := Nat.not_lt.1 hq | replace hq := Nat.not_le.1 hq); try (exfalso; omega))) | (refine plan_q rfl rfl ?_)))
          refine plan_e rfl ?_
          go_wp2_with fail
          refine MixPost.intro ⟨⟨_, trivial⟩, rfl⟩ ?_
          repeat (any_goals (first | (go_big_quiet_skip; refine wpQuiet_nil ?_) | (go_big_quiet_want; go_big_quiet_op; go_big_quiet_on; refine wpQuiet_nil ?_) | ((with_reducible apply q_split); exact rfl; intro q hq; cases q <;> (rw [hq]; (try first | replace hq := bnot_t hq | replace hq := bnot_f hq); (try first | replace hq := of_decide_eq_true hq | replace hq := of_decide_eq_false hq | replace hq := eq_of_beq hq); (try first | replace hq := Int.not_lt.1 hq | replace hq := Int.not_le.1 hq | replace hq := Nat.not_lt.1 hq | replace hq := Nat.not_le.1 hq); try (exfalso; omega))) | (refine plan_q rfl rfl ?_)))
          refine plan_e rfl ?_
          go_wp2_with fail
          refine MixPost.intro ⟨⟨_, trivial⟩, rfl⟩ ?_
          repeat (any_goals (first | (go_big_quiet_skip; refine wpQuiet_nil ?_) | (go_big_quiet_want; go_big_quiet_op; go_big_quiet_on; refine wpQuiet_nil ?_) | ((with_reducible apply q_split); exact rfl; intro q hq; cases q <;> (rw [hq]; (try first | replace hq := bnot_t hq | replace hq := bnot_f hq); (try first | replace hq := of_decide_eq_true hq | replace hq := of_decide_eq_false hq | replace hq := eq_of_beq hq); (try first | replace hq := Int.not_lt.1 hq | replace hq := Int.not_le.1 hq | replace hq := Nat.not_lt.1 hq | replace hq := Nat.not_le.1 hq); try (exfalso; omega))) | (refine plan_q rfl rfl ?_)))
          refine plan_e rfl ?_
          go_wp2_with fail
          refine MixPost.intro ⟨⟨_, trivial⟩, rfl⟩ ?_
          clear y_n g_0 g_1 g_f hg1 hf1 hV hV1 hV2
          refine plan_done ?_
          try simp only [List.drop_succ_cons, List.drop_zero]
          go_wp2_with fail
          refine NoPanic.normal ?_
          go_wp2_with fail
          go_roundw
          case rel => exact ⟨j, by omega, by go_num, HB_V2, HO2, HD2⟩
          case measure => simp [intOf] <;> omega
      · have HE := Lib.hid (HSJ.out (by omega))
        replace hny := Int.not_lt.1 hny
        rw [HE.out] at HO
        clear HSJ HDJ HD HE HSW HQ1 HQ2
        refine wp_region_plan (C := fun w' => ∃ p : Regrown, w' = grow (redrawn wr p.d) p.os) (.q 0 (.q 1 (.q 2 (.q 3 (.q 4 (.q 5 (.q 6 (.q 7 (.q 8 (.q 9 (.q 10 (.q 11 (.q 12 (.q 13 (.done))))))))))))))) 14 (by kernel_rfl) (by kernel_rfl) (grew_drew _) ?_
        repeat (any_goals (first | (go_big_quiet_skip; refine wpQuiet_nil ?_) | (go_big_quiet_want; go_big_quiet_op; go_big_quiet_on; refine wpQuiet_nil ?_) | ((with_reducible apply q_split); exact rfl; intro q hq; cases q <;> (rw [hq]; (try first | replace hq := bnot_t hq | replace hq := bnot_f hq); (try first | replace hq := of_decide_eq_true hq | replace hq := of_decide_eq_false hq | replace hq := eq_of_beq hq); (try first | replace hq := Int.not_lt.1 hq | replace hq := Int.not_le.1 hq | replace hq := Nat.not_lt.1 hq | replace hq := Nat.not_le.1 hq); try (exfalso; omega))) | (refine plan_q rfl rfl ?_)))
        clear y_g0 y_g1
        all_goals refine plan_done ?_
        all_goals (try simp only [List.drop_succ_cons, List.drop_zero])
        all_goals (try go_wp2_with fail)
        all_goals refine NoPanic.normal ?_
        all_goals (try go_wp2_with fail)
        go_ret
        exact ⟨.slice (some ⟨g, 0, none⟩) (q.length + 1) cg, rfl, HO.out.drew, HB_wr.drew⟩
end Go.Proofs.Ytheioedggjbphaa

set_option linter.unusedVariables false
namespace Sc
theorem planR_cs (J : List Jb) (f : Int) : (validJ J = true ∧ slotB f = true ∧ planR J f = (planF J f, 0)) ∨ (validJ J = false ∧ planR J f = ([], 1)) ∨ (validJ J = true ∧ slotB f = false ∧ planR J f = ([], 1)) := by
  unfold planR
  cases h1 : validJ J <;> cases h2 : slotB f <;> simp
end Sc
namespace Go.Proofs.Ytheioedggjbphaa
open Go Go.RowKit Sc Sk Go.Sort
set_option maxRecDepth 100000 in
set_option maxHeartbeats 16000000 in
theorem rplan_any (ao : Option Addr) (n cap : Nat) (J : List Jb) (f : Int) (w : World) (hs : Sl w 4 cJ ao n cap J) :
    Calls Try.prog 16 #[.slice ao n cap, .int .i64 f] w (SnsE w (planR J f)) := by
  obtain rfl := hs.len
  have hcap := hs.max
  have hle := hs.le
  unfold maxLen at hcap
  have HS := Lib.hid hs
  have HB_w : Below w.heap.size w w := Below.refl _ _
  have HRV := Lib.hid (rvalid_any ao J.length cap J w hs)
  have HR := Lib.hid (planR_cs J f)
  obtain ⟨i0, hi, hz0, hz1, hz2⟩ := info_parts info_job
  have HI := Lib.hid hi
  have HZ0 := Lib.hid hz0
  have HZ1 := Lib.hid hz1
  have HZ2 := Lib.hid hz2
  obtain ⟨i1, hy, hy0, hy1, hy2⟩ := info_parts info_sent
  have HY := Lib.hid hy
  have HY0 := Lib.hid hy0
  have HY1 := Lib.hid hy1
  have HY2 := Lib.hid hy2
  clear hi hz0 hz1 hz2 hy hy0 hy1 hy2
  obtain ⟨i2, hi, hz0, hz1, hz2⟩ := info_parts info_int
  have HI2 := Lib.hid hi
  have HZ20 := Lib.hid hz0
  have HZ21 := Lib.hid hz1
  have HZ22 := Lib.hid hz2
  clear hi hz0 hz1 hz2 hs
  go_enter Try.func16, Try.ntmps16
  go_wp2_with fail
  refine (HRV.out).mono ?_
  rintro e wa ⟨rfl, hb_wa⟩
  have HB_wa : Below w.heap.size w wa := by first | exact after0 HB_w hb_wa | exact after1 HB_w hb_wa | exact after2 HB_w hb_wa | exact after3 HB_w hb_wa | exact after4 HB_w hb_wa | exact after5 HB_w hb_wa
  clear HRV
  go_wp2_with fail
  refine (rslot_any f _).mono ?_
  rintro e wb ⟨rfl, hb_wb⟩
  have HB_wb : Below w.heap.size w wb := by first | exact after0 HB_wa hb_wb | exact after1 HB_wa hb_wb | exact after2 HB_wa hb_wb | exact after3 HB_wa hb_wb | exact after4 HB_wa hb_wb | exact after5 HB_wa hb_wb
  rcases HR.out with ⟨v1, s1, e1⟩ | ⟨v1, e1⟩ | ⟨v1, s1, e1⟩
  case inr.inl =>
    rw [v1]
    have HE := Lib.hid e1
    generalize slotB f = q at *
    clear e1 v1 HR
    go_wp2_with fail
    all_goals try (exfalso; omega)
    all_goals
      go_ret2
      exact ⟨.slice none 0 0, by rw [HE.out]; rfl, by rw [HE.out]; exact OwnL.nil, HB_wb⟩
  case inr.inr =>
    rw [v1, s1]
    have HE := Lib.hid e1
    clear e1 v1 s1 HR
    go_wp2_with fail
    all_goals try (exfalso; omega)
    go_ret2
    exact ⟨.slice none 0 0, by rw [HE.out]; rfl, by rw [HE.out]; exact OwnL.nil, HB_wb⟩
  rw [v1, s1]
  have HE := Lib.hid e1
  have HV := Lib.hid (validJ_iff.1 v1).2
  have hl100 := (validJ_iff.1 v1).1
  obtain ⟨hf0, hf4⟩ := slotB_iff.1 s1
  clear e1 v1 s1 HR hb_wa hb_wb HB_wa
  have hwb := HB_wb.size
  replace HS := Lib.hid (HS.out.below HB_wb)
  go_wp2_with (refine wpList_make_full _ rfl _ _ 30 rfl wb.heap.size 3 i2 (.int .i64 0) 1 Try.underlying30 HI2.out HZ20.out HZ21.out .i64 .i64 _ _ J.length rfl rfl rfl rfl (by rw [HZ22.out]; omega) (by unfold maxLen; omega) (Nat.le_refl _) ?_; intro W1 ho1 hg1)
  have hB1 := below_grown (OwnL.nil (w := wb) (base := wb.heap.size) (e := 3) (size := 1) (enc := cN)) (Nat.le_refl _) (Nat.le_refl _) hg1
  have HO1 := Lib.hid (show OwnL W1 wb.heap.size 3 1 cN (vS wb.heap.size J.length) (planS J f 0).1 by
    unfold OwnL planS
    rw [flat_repl, List.length_replicate]
    rw [show (Value.int .i64 0).cells = #[Value.int .i64 0] from rfl, made_one, Nat.mul_one] at ho1
    exact ho1)
  have hsz1 : wb.heap.size < W1.heap.size := (World.ownsRow.lt ho1 wb.heap.size rfl).2
  clear ho1 hg1
  have HBB := Lib.hid hB1
  clear hB1
  go_loopw [9, 10] (fun o t wr => ∃ k : Nat, f + k ≤ 400 ∧ t = .int .i64 (f + k) ∧ W1.heap.size ≤ wr.heap.size ∧ Hid (Below wb.heap.size wb wr) ∧ Hid (OwnL wr wb.heap.size 3 1 cN (vS wb.heap.size J.length) (planS J f k).1) ∧ Hid (OwnL wr W1.heap.size 46 3 cS o (planS J f k).2)) (fun _ t _ => (400 - intOf t).toNat)
  case atStart => exact ⟨0, by omega, by go_num, Nat.le_refl _, HBB, HO1, OwnL.nil⟩
  case round =>
    clear HO1 HBB
    obtain ⟨k, hk, rfl, hwr, HBB, HSN, HOU⟩ := hrel
    obtain ⟨V, rfl⟩ : ∃ V, V = wr := ⟨_, rfl⟩
    have hol := planS_len J f k
    by_cases hlt : f + (k : Int) < 400
    case neg =>
      have hpf : (planS J f k).2 = planF J f := by unfold planF; rw [show (400 - f).toNat = k by omega]
      rw [hpf] at HOU
      clear HSN
      generalize f + (k : Int) = t at *
      go_wp2_with fail
      all_goals try (exfalso; omega)
      go_ret2
      exact ⟨_, by rw [HE.out]; rfl, by rw [HE.out]; exact HOU.out.mono (by omega), HB_wb.trans (HBB.out.mono hwb)⟩
    have hft : f ≤ f + (k : Int) := by omega
    have hk400 : k < 400 := by omega
    have HCI := Lib.hid (planS_ci HV.out f k)
    have HST := Lib.hid (show planS J f (k + 1) = pstep J f (planS J f k) (f + k) from rfl)
    generalize planS J f k = s at *
    obtain ⟨c, out⟩ := s
    dsimp only at hol HSN HOU HCI
    generalize hT : f + (k : Int) = t at *
    have HT := Lib.hid hT
    clear hT
    have hcl := HCI.out.len
    go_wp2_with fail
    go_loopw [11, 12] (fun bt i wr => ∃ i' : Nat, i' ≤ J.length ∧ bt = .int .i64 (oI (bestP J f t c i')) ∧ i = .int .i64 i' ∧ Hid (Below V.heap.size V wr)) (fun _ i _ => J.length - (intOf i).toNat)
    case atStart => exact ⟨0, Nat.zero_le _, rfl, rfl, Below.refl _ _⟩
    case round =>
      obtain ⟨i, hi, rfl, rfl, HB2⟩ := hrel
      by_cases hil : i < J.length
      · obtain ⟨bb, off, rfl, hbb, hrow⟩ := (HS.out.below (HBB.out.trans (HB2.out.mono HBB.out.size))).get hil
        obtain ⟨e_0, e_1, e_2, e_3⟩ := (hrow i hil).c4
        have hci : c[i]? = some (at_ c i) := by rw [at_get (show i < c.length by omega)]; exact List.getElem?_eq_getElem (by omega)
        have s_0 := (HSN.out.below HB2.out).cellG cN_len (j := i) (i := 0) hci rfl
        simp only [Nat.mul_one, Nat.add_zero] at s_0
        have hc32 : (at_ c i : Int) ≤ 32 := by
          have h1 := HCI.out.le i hil
          have h2 := (jobB_iff.1 (HV.out _ (List.getElem_mem hil))).2.2.2.2.1
          rw [jat_get hil] at h1
          omega
        clear hrow hci
        have HXE0 := Lib.hid (show J[i] = J[i] from rfl)
        have HCX0 := Lib.hid (show at_ c i = at_ c i from rfl)
        obtain ⟨x, hx⟩ : ∃ x, J[i] = x := ⟨_, rfl⟩
        obtain ⟨cx, hcx⟩ : ∃ x, at_ c i = x := ⟨_, rfl⟩
        have HXE := Lib.hid hx
        have HCX := Lib.hid hcx
        rw [hx] at e_0 e_1 e_2 e_3
        rw [hcx] at s_0 hc32
        clear hx hcx HXE0 HCX0
        obtain ⟨x0, x1, x2, x3⟩ := x
        dsimp only at e_0 e_1 e_2 e_3
        have hbl := fun b (h : bestP J f t c i = some b) => bestP_lt h
        by_cases c1 : x0 ≤ t
        case neg =>
          generalize hbp : oI (bestP J f t c i) = bv at *
          have HNX := Lib.hid (show oI (bestP J f t c (i + 1)) = bv by rw [← hbp, bestP_no (show wts J f t c i = false by rw [wts_ref hft]; exact decide_eq_false (fun h => by rw [jat_get hil, HXE.out] at h; exact c1 h.1))])
          replace c1 := Int.not_le.1 c1
          clear hbp hbl
          go_wp2_with fail
          have y_e_0 := cell_regrown e_0
          have y_e_1 := cell_regrown e_1
          have y_e_2 := cell_regrown e_2
          have y_e_3 := cell_regrown e_3
          clear e_0 e_1 e_2 e_3
          have y_s0 := cell_regrown s_0
          clear s_0
          refine wp_region_plan (C := fun w' => ∃ p : Regrown, w' = grow (redrawn wr p.d) p.os) (.q 0 (.q 1 (.q 2 (.q 3 (.q 4 (.q 5 (.q 6 (.q 7 (.q 8 (.q 9 (.q 10 (.q 11 (.q 12 (.q 13 (.q 14 (.q 15 (.q 16 (.q 17 (.q 18 (.q 19 (.q 20 (.q 21 (.q 22 (.q 23 (.q 24 (.q 25 (.q 26 (.q 27 (.q 28 (.done)))))))))))))))))))))))))))))) 29 (by kernel_rfl) (by kernel_rfl) (grew_drew _) ?_
          repeat (any_goals (first | (go_big_quiet_skip; refine wpQuiet_nil ?_) | (go_big_quiet_want; go_big_quiet_op; go_big_quiet_on; refine wpQuiet_nil ?_) | ((with_reducible apply q_split); exact rfl; intro q hq; cases q <;> (rw [hq]; (try first | replace hq := bnot_t hq | replace hq := bnot_f hq); (try first | replace hq := of_decide_eq_true hq | replace hq := of_decide_eq_false hq | replace hq := eq_of_beq hq); (try first | replace hq := Int.not_lt.1 hq | replace hq := Int.not_le.1 hq | replace hq := Nat.not_lt.1 hq | replace hq := Nat.not_le.1 hq); try (exfalso; omega))) | (refine plan_q rfl rfl ?_)))
          clear y_e_0 y_e_1 y_e_2 y_e_3
          clear y_s0
          all_goals refine plan_done ?_
          all_goals (try simp only [List.drop_succ_cons, List.drop_zero])
          all_goals (try go_wp2_with fail)
          all_goals refine NoPanic.normal ?_
          all_goals (try go_wp2_with fail)
          go_roundw
          case rel => exact ⟨i + 1, hil, by show _ = Value.int .i64 (oI (bestP J f t c (i + 1))); rw [HNX.out], by go_num, HB2.out.drew⟩
          case measure => simp [intOf] <;> omega
        by_cases c2 : t ≤ x1
        case neg =>
          generalize hbp : oI (bestP J f t c i) = bv at *
          have HNX := Lib.hid (show oI (bestP J f t c (i + 1)) = bv by rw [← hbp, bestP_no (show wts J f t c i = false by rw [wts_ref hft]; exact decide_eq_false (fun h => by rw [jat_get hil, HXE.out] at h; exact c2 h.2.1))])
          replace c2 := Int.not_le.1 c2
          clear hbp hbl
          go_wp2_with fail
          have y_e_0 := cell_regrown e_0
          have y_e_1 := cell_regrown e_1
          have y_e_2 := cell_regrown e_2
          have y_e_3 := cell_regrown e_3
          clear e_0 e_1 e_2 e_3
          have y_s0 := cell_regrown s_0
          clear s_0
          refine wp_region_plan (C := fun w' => ∃ p : Regrown, w' = grow (redrawn wr p.d) p.os) (.q 0 (.q 1 (.q 2 (.q 3 (.q 4 (.q 5 (.q 6 (.q 7 (.q 8 (.q 9 (.q 10 (.q 11 (.q 12 (.q 13 (.q 14 (.q 15 (.q 16 (.q 17 (.q 18 (.q 19 (.q 20 (.q 21 (.q 22 (.q 23 (.q 24 (.q 25 (.q 26 (.q 27 (.q 28 (.done)))))))))))))))))))))))))))))) 29 (by kernel_rfl) (by kernel_rfl) (grew_drew _) ?_
          repeat (any_goals (first | (go_big_quiet_skip; refine wpQuiet_nil ?_) | (go_big_quiet_want; go_big_quiet_op; go_big_quiet_on; refine wpQuiet_nil ?_) | ((with_reducible apply q_split); exact rfl; intro q hq; cases q <;> (rw [hq]; (try first | replace hq := bnot_t hq | replace hq := bnot_f hq); (try first | replace hq := of_decide_eq_true hq | replace hq := of_decide_eq_false hq | replace hq := eq_of_beq hq); (try first | replace hq := Int.not_lt.1 hq | replace hq := Int.not_le.1 hq | replace hq := Nat.not_lt.1 hq | replace hq := Nat.not_le.1 hq); try (exfalso; omega))) | (refine plan_q rfl rfl ?_)))
          clear y_e_0 y_e_1 y_e_2 y_e_3
          clear y_s0
          all_goals refine plan_done ?_
          all_goals (try simp only [List.drop_succ_cons, List.drop_zero])
          all_goals (try go_wp2_with fail)
          all_goals refine NoPanic.normal ?_
          all_goals (try go_wp2_with fail)
          go_roundw
          case rel => exact ⟨i + 1, hil, by show _ = Value.int .i64 (oI (bestP J f t c (i + 1))); rw [HNX.out], by go_num, HB2.out.drew⟩
          case measure => simp [intOf] <;> omega
        by_cases c3 : (cx : Int) < x2
        case neg =>
          generalize hbp : oI (bestP J f t c i) = bv at *
          have HNX := Lib.hid (show oI (bestP J f t c (i + 1)) = bv by rw [← hbp, bestP_no (show wts J f t c i = false by rw [wts_ref hft]; exact decide_eq_false (fun h => by rw [jat_get hil, HXE.out, HCX.out] at h; exact c3 h.2.2))])
          replace c3 := Int.not_lt.1 c3
          clear hbp hbl
          go_wp2_with fail
          have y_e_0 := cell_regrown e_0
          have y_e_1 := cell_regrown e_1
          have y_e_2 := cell_regrown e_2
          have y_e_3 := cell_regrown e_3
          clear e_0 e_1 e_2 e_3
          have y_s0 := cell_regrown s_0
          clear s_0
          refine wp_region_plan (C := fun w' => ∃ p : Regrown, w' = grow (redrawn wr p.d) p.os) (.q 0 (.q 1 (.q 2 (.q 3 (.q 4 (.q 5 (.q 6 (.q 7 (.q 8 (.q 9 (.q 10 (.q 11 (.q 12 (.q 13 (.q 14 (.q 15 (.q 16 (.q 17 (.q 18 (.q 19 (.q 20 (.q 21 (.q 22 (.q 23 (.q 24 (.q 25 (.q 26 (.q 27 (.q 28 (.done)))))))))))))))))))))))))))))) 29 (by kernel_rfl) (by kernel_rfl) (grew_drew _) ?_
          repeat (any_goals (first | (go_big_quiet_skip; refine wpQuiet_nil ?_) | (go_big_quiet_want; go_big_quiet_op; go_big_quiet_on; refine wpQuiet_nil ?_) | ((with_reducible apply q_split); exact rfl; intro q hq; cases q <;> (rw [hq]; (try first | replace hq := bnot_t hq | replace hq := bnot_f hq); (try first | replace hq := of_decide_eq_true hq | replace hq := of_decide_eq_false hq | replace hq := eq_of_beq hq); (try first | replace hq := Int.not_lt.1 hq | replace hq := Int.not_le.1 hq | replace hq := Nat.not_lt.1 hq | replace hq := Nat.not_le.1 hq); try (exfalso; omega))) | (refine plan_q rfl rfl ?_)))
          clear y_e_0 y_e_1 y_e_2 y_e_3
          clear y_s0
          all_goals refine plan_done ?_
          all_goals (try simp only [List.drop_succ_cons, List.drop_zero])
          all_goals (try go_wp2_with fail)
          all_goals refine NoPanic.normal ?_
          all_goals (try go_wp2_with fail)
          go_roundw
          case rel => exact ⟨i + 1, hil, by show _ = Value.int .i64 (oI (bestP J f t c (i + 1))); rw [HNX.out], by go_num, HB2.out.drew⟩
          case measure => simp [intOf] <;> omega
        have HY := Lib.hid (bestP_yes (show wts J f t c i = true by rw [wts_ref hft]; exact decide_eq_true (by rw [jat_get hil, HXE.out, HCX.out]; exact ⟨c1, c2, c3⟩)))
        cases hbp : bestP J f t c i with
        | none =>
          rw [hbp] at HY
          have HNX := Lib.hid (show oI (bestP J f t c (i + 1)) = i by rw [HY.out]; rfl)
          clear hbp HY hbl
          dsimp only [oI]
          go_wp2_with fail
          have y_e_0 := cell_regrown e_0
          have y_e_1 := cell_regrown e_1
          have y_e_2 := cell_regrown e_2
          have y_e_3 := cell_regrown e_3
          clear e_0 e_1 e_2 e_3
          have y_s0 := cell_regrown s_0
          clear s_0
          refine wp_region_plan (C := fun w' => ∃ p : Regrown, w' = grow (redrawn wr p.d) p.os) (.q 0 (.q 1 (.q 2 (.q 3 (.q 4 (.q 5 (.q 6 (.q 7 (.q 8 (.q 9 (.q 10 (.q 11 (.q 12 (.q 13 (.q 14 (.q 15 (.q 16 (.q 17 (.q 18 (.q 19 (.q 20 (.q 21 (.q 22 (.q 23 (.q 24 (.q 25 (.q 26 (.q 27 (.q 28 (.done)))))))))))))))))))))))))))))) 29 (by kernel_rfl) (by kernel_rfl) (grew_drew _) ?_
          repeat (any_goals (first | (go_big_quiet_skip; refine wpQuiet_nil ?_) | (go_big_quiet_want; go_big_quiet_op; go_big_quiet_on; refine wpQuiet_nil ?_) | ((with_reducible apply q_split); exact rfl; intro q hq; cases q <;> (rw [hq]; (try first | replace hq := bnot_t hq | replace hq := bnot_f hq); (try first | replace hq := of_decide_eq_true hq | replace hq := of_decide_eq_false hq | replace hq := eq_of_beq hq); (try first | replace hq := Int.not_lt.1 hq | replace hq := Int.not_le.1 hq | replace hq := Nat.not_lt.1 hq | replace hq := Nat.not_le.1 hq); try (exfalso; omega))) | (refine plan_q rfl rfl ?_)))
          clear y_e_0 y_e_1 y_e_2 y_e_3
          clear y_s0
          all_goals refine plan_done ?_
          all_goals (try simp only [List.drop_succ_cons, List.drop_zero])
          all_goals (try go_wp2_with fail)
          all_goals refine NoPanic.normal ?_
          all_goals (try go_wp2_with fail)
          go_roundw
          case rel => exact ⟨i + 1, hil, by show _ = Value.int .i64 (oI (bestP J f t c (i + 1))); rw [HNX.out], by go_num, HB2.out.drew⟩
          case measure => simp [intOf] <;> omega
        | some b =>
          rw [hbp] at HY
          have hb := bestP_lt hbp
          clear hbp hbl
          dsimp only [oI]
          go_wp2_with fail
          have y_e_0 := cell_regrown e_0
          have y_e_1 := cell_regrown e_1
          have y_e_2 := cell_regrown e_2
          have y_e_3 := cell_regrown e_3
          clear e_0 e_1 e_2 e_3
          have y_s0 := cell_regrown s_0
          clear s_0
          refine wp_region_plan (C := fun w' => ∃ p : Regrown, w' = grow (redrawn wr p.d) p.os) (.q 0 (.q 1 (.q 2 (.q 3 (.q 4 (.q 5 (.q 6 (.q 7 (.q 8 (.q 9 (.q 10 (.q 11 (.q 12 (.q 13 (.q 14 (.q 15 (.q 16 (.q 17 (.q 18 (.q 19 (.q 20 (.q 21 (.q 22 (.q 23 (.q 24 (.q 25 (.q 26 (.q 27 (.q 28 (.done)))))))))))))))))))))))))))))) 29 (by kernel_rfl) (by kernel_rfl) (grew_drew _) ?_
          repeat (any_goals (first | (go_big_quiet_skip; refine wpQuiet_nil ?_) | (go_big_quiet_want; go_big_quiet_op; go_big_quiet_on; refine wpQuiet_nil ?_) | ((with_reducible apply q_split); exact rfl; intro q hq; cases q <;> (rw [hq]; (try first | replace hq := bnot_t hq | replace hq := bnot_f hq); (try first | replace hq := of_decide_eq_true hq | replace hq := of_decide_eq_false hq | replace hq := eq_of_beq hq); (try first | replace hq := Int.not_lt.1 hq | replace hq := Int.not_le.1 hq | replace hq := Nat.not_lt.1 hq | replace hq := Nat.not_le.1 hq); try (exfalso; omega))) | (refine plan_q rfl rfl ?_)))
          clear y_e_0 y_e_1 y_e_2 y_e_3
          clear y_s0
          all_goals refine plan_done ?_
          all_goals (try simp only [List.drop_succ_cons, List.drop_zero])
          all_goals (try go_wp2_with fail)
          all_goals refine NoPanic.normal ?_
          all_goals (try go_wp2_with fail)
          obtain ⟨wd, hwd⟩ : ∃ X, wr.drew = X := ⟨_, rfl⟩
          rw [hwd]
          have HBd := Lib.hid (show Below V.heap.size V wd from hwd ▸ HB2.out.drew)
          clear hwd
          refine (rbefore_any _ J.length cap J i b wd (HS.out.below (HBB.out.trans (HBd.out.mono HBB.out.size))) hil (by omega)).mono ?_
          rintro e we ⟨rfl, hb_we⟩
          have HBe := HBd.out.trans (hb_we.mono HBd.out.size)
          cases hl : less J i b with
          | true =>
            rw [hl] at HY
            have HNX := Lib.hid (show oI (bestP J f t c (i + 1)) = i by rw [HY.out]; rfl)
            clear HY hl
            go_wp2_with fail
            go_roundw
            case rel => exact ⟨i + 1, hil, by show _ = Value.int .i64 (oI (bestP J f t c (i + 1))); rw [HNX.out], by go_num, HBe⟩
            case measure => simp [intOf] <;> omega
          | false =>
            rw [hl] at HY
            have HNX := Lib.hid (show oI (bestP J f t c (i + 1)) = b by rw [HY.out]; rfl)
            clear HY hl
            go_wp2_with fail
            go_roundw
            case rel => exact ⟨i + 1, hil, by show _ = Value.int .i64 (oI (bestP J f t c (i + 1))); rw [HNX.out], by go_num, HBe⟩
            case measure => simp [intOf] <;> omega
      · obtain rfl : i = J.length := by omega
        have HB3 := Lib.hid (HBB.out.trans (HB2.out.mono HBB.out.size))
        have hsz := HB2.out.size
        replace HSN := Lib.hid (HSN.out.below HB2.out)
        replace HOU := Lib.hid (HOU.out.below HB2.out)
        have hW1 : W1.heap.size ≤ wr.heap.size := by omega
        clear HB2
        rw [bestP_all]
        cases hb : best J f t c with
        | none =>
          have HSX := Lib.hid (show planS J f (k + 1) = (c, out) by rw [HST.out, pstep_none hb])
          clear hb
          dsimp only [oI]
          go_wp2_with fail
          go_roundw
          case rel => exact ⟨k + 1, by have := HT.out; omega, by have := HT.out; go_num, hW1, HB3, by rw [HSX.out]; exact HSN.out, by rw [HSX.out]; exact HOU.out⟩
          case measure => have := HT.out; simp [intOf] <;> omega
        | some b =>
          have HSX := Lib.hid (show planS J f (k + 1) = (c.set b (at_ c b + 1), out ++ [⟨t, b, at_ c b⟩]) by rw [HST.out, pstep_some hb])
          have hbJ := (best_some.1 hb).1
          have hcb : c[b]? = some (at_ c b) := by rw [at_get (show b < c.length by omega)]; exact List.getElem?_eq_getElem (by omega)
          have hc32 : (at_ c b : Int) ≤ 32 := by
            have h1 := HCI.out.le b hbJ
            have h2 := (jobB_iff.1 (HV.out _ (List.getElem_mem hbJ))).2.2.2.2.1
            rw [jat_get hbJ] at h1
            omega
          have s_0 := HSN.out.cellG cN_len (j := b) (i := 0) hcb rfl
          simp only [Nat.mul_one, Nat.add_zero] at s_0
          have hbi : (b : Int) < (J.length : Int) := by omega
          clear hb
          dsimp only [oI]
          generalize at_ c b = cx at *
          have HOX := Lib.hid (HOU.out.alloc (.cells #[.int .i64 t, .int .i64 (b : Int), .int .i64 (cx : Int)] 46))
          have HXX : Hid (Sl (wr.alloc (.cells #[.int .i64 t, .int .i64 (b : Int), .int .i64 (cx : Int)] 46)) 3 cS (some ⟨wr.heap.size, 0, none⟩) 1 1 [(⟨t, b, cx⟩ : Sn)]) := Sl.one (x := (⟨t, b, cx⟩ : Sn)) cS_len (Box.new wr (cS ⟨t, b, cx⟩) 46)
          go_wp2_with (at_builtin; refine wpList_append_sl rfl _ _ 23 rfl W1.heap.size 46 i1 _ 3 24 Try.underlying23 HY.out HY0.out HY1.out HY2.out rfl (by decide) cS_len cS_one _ out rfl HOX.out (some ⟨wr.heap.size, 0, none⟩) 1 1 [(⟨t, b, cx⟩ : Sn)] rfl HXX.out (by unfold maxLen; omega) (by omega) (by simp; omega) ?_)
          rintro v6 w6 ho6 hg6 hgr6
          have HS6 := Lib.hid ((HSN.out.alloc (.cells #[.int .i64 t, .int .i64 (b : Int), .int .i64 (cx : Int)] 46)).low (hg6 _ (Nat.le_refl _)) (fun j hj => by cases hj; exact hsz1))
          have HB6 := Lib.hid (show Below wb.heap.size wb w6 from (grew1 HB3.out).trans (hg6 _ (by omega)))
          have HZ6 := Lib.hid (show W1.heap.size ≤ w6.heap.size by have := hgr6.size; simp at this; omega)
          have s_6 := HS6.out.cellG cN_len (j := b) (i := 0) (a := cx) hcb rfl
          have s_f := HS6.out.frozenG
          simp only [Nat.mul_one, Nat.add_zero] at s_6
          have hst := OwnL.setG cN_len HS6.out (j := b) (by omega) (i := 0) (by decide) (u := .int .i64 ((cx : Int) + 1)) (a := cx + 1) rfl
          simp only [Nat.mul_one, Nat.add_zero] at hst
          have HO7 := Lib.hid (show OwnL (w6.setCell ⟨wb.heap.size, b, none⟩ (.int .i64 ((cx : Int) + 1))) W1.heap.size 46 3 cS v6 (out ++ [⟨t, b, cx⟩]) from OwnL.setCell ho6 hsz1)
          obtain ⟨w7, hw7⟩ : ∃ X, w6.setCell ⟨wb.heap.size, b, none⟩ (.int .i64 ((cx : Int) + 1)) = X := ⟨_, rfl⟩
          rw [hw7] at hst HO7
          have HS7 := Lib.hid hst.1
          have HB7 := Lib.hid (HB6.out.grown hst.2 HB6.out.size (fun j hj => by cases hj; exact Nat.le_refl _))
          have HZ7 := Lib.hid (show W1.heap.size ≤ w7.heap.size from Nat.le_trans HZ6.out hst.2.size)
          clear ho6 hg6 hgr6 hst HOX HXX HS6 HB6 HZ6 s_0 HSN HOU HB3
          go_wp2_with fail
          clear hw7 s_6 s_f
          go_roundw
          case rel => exact ⟨k + 1, by have := HT.out; omega, by have := HT.out; go_num, HZ7.out, HB7, by rw [HSX.out]; exact HS7, by rw [HSX.out]; exact HO7⟩
          case measure => have := HT.out; simp [intOf] <;> omega
end Go.Proofs.Ytheioedggjbphaa
