/-
  Walks of the reference of the layer 'eyes': Until, Valid, Replay, At.
-/
import Derived.Test.YtmbnhlihcnbebaaEyRE
import Derived.Test.YtmbnhlihcnbebaaEyTh
import Derived.Test.YtmbnhlihcnbebaaEyTt
set_option linter.unusedVariables false
namespace Go.Proofs.Ytmbnhlihcnbebaa
open Go Go.RowKit Ey Sk Go.Sort

set_option maxRecDepth 100000 in
set_option maxHeartbeats 8000000 in
theorem runtil_any (ao : Option Addr) (n cap : Nat) (l : List Ac) (t : Int) (w : World) (hs : Sl w 8 cA ao n cap l) : Calls Try.prog 50 #[.slice ao n cap, .int .i64 t] w (Ret w (.slice ao (untilL l t).length cap)) := by
  obtain rfl := hs.len
  have hcap := hs.max
  have hle := hs.le
  unfold maxLen at hcap
  have HS := Lib.hid hs
  have HLT := Lib.hid (fun k => @until_lt l t k)
  have HGE := Lib.hid (fun k => @until_ge l t k)
  have hul := until_len l t
  have HB_w : Below w.heap.size w w := Below.refl _ _
  clear hs
  generalize (untilL l t).length = K at *
  have HSL := Lib.hid (slice_head (P := Try.prog) (t := 22) (by kernel_rfl) (fun W => by kernel_rfl) HS.out K hul)
  go_enter Try.func50, Try.ntmps50
  go_wp2_with fail
  go_loopw [5] (fun i wr => ∃ k : Nat, k ≤ K ∧ i = .int .i64 k ∧ Below w.heap.size w wr) (fun i _ => l.length - (intOf i).toNat)
  case atStart => exact ⟨0, by omega, rfl, HB_w⟩
  case round =>
    obtain ⟨k, hk, rfl, HB_wr⟩ := hrel
    by_cases hlt : k < l.length
    · obtain ⟨b', off, rfl, hb, hrow⟩ := HS.out.get hlt
      obtain ⟨-, -, -, e_3, -⟩ := ((hrow k hlt).below HB_wr hb).c8
      clear hrow
      by_cases hkK : k < K
      · have hle3 := HLT.out k hkK hlt
        generalize l[k] = a at *
        clear HSL
        go_wp2_with fail
        all_goals try (exfalso; omega)
        go_roundw
        case rel => exact ⟨k + 1, hkK, by go_num, HB_wr⟩
        case measure => simp [intOf] <;> omega
      · obtain rfl : K = k := by omega
        have hgt := HGE.out K rfl hlt
        generalize l[K] = a at *
        have hst1 := HSL.out
        clear HSL
        go_wp2_with fail
        all_goals try (exfalso; omega)
        go_ret
        exact ⟨rfl, HB_wr⟩
    · obtain rfl : K = k := by omega
      have hst1 := HSL.out
      clear HSL
      go_wp2_with fail
      all_goals try (exfalso; omega)
      go_ret
      exact ⟨rfl, HB_wr⟩

set_option maxRecDepth 100000 in
set_option maxHeartbeats 8000000 in
theorem rvalid_any (ao : Option Addr) (n cap : Nat) (l : List Ac) (w : World) (hs : Sl w 8 cA ao n cap l) : Calls Try.prog 19 #[.slice ao n cap] w (Ret w (.bool (validL l))) := by
  obtain rfl := hs.len
  have hcap := hs.max
  have hle := hs.le
  unfold maxLen at hcap
  have HS := Lib.hid hs
  have HLONG := Lib.hid (show 200 < l.length → validL l = false from fun h => by unfold validL; rw [decide_eq_false (by omega)]; rfl)
  have HARG := Lib.hid (show ∀ k (h : k < l.length), validA l[k] = false → validL l = false from fun k h h1 => by
    cases hv : validL l with
    | false => rfl
    | true => have := (validL_iff.1 hv).2.1 _ (List.getElem_mem h); rw [h1] at this; cases this)
  have HTIME := Lib.hid (show ∀ k (h : k + 1 < l.length), l[k + 1].time < l[k].time → validL l = false from fun k h h1 => by
    rw [validL_eq, timeUp_false h h1]; simp)
  have HEND := Lib.hid (show l.length ≤ 200 → (∀ i (h : i < l.length), validA l[i] = true) → (∀ i (h : i + 1 < l.length), l[i].time ≤ l[i + 1].time) → validL l = true from fun h1 h2 h3 => validL_iff.2 ⟨h1, fun a ha => by
    obtain ⟨i, hi, rfl⟩ := List.getElem_of_mem ha
    exact h2 i hi, timeUp_adj l h3⟩)
  have HB_w : Below w.heap.size w w := Below.refl _ _
  clear hs
  generalize validL l = v at *
  go_enter Try.func19, Try.ntmps19
  by_cases hl : 200 < (l.length : Int)
  · have HP := Lib.hid (HLONG.out (by omega))
    go_wp2_with fail
    all_goals try (exfalso; omega)
    go_ret
    exact ⟨ret_bool' HP.out.symm, HB_w⟩
  replace hl := Int.not_lt.1 hl
  go_wp2_with fail
  all_goals try (exfalso; omega)
  go_loopw [3] (fun i wr => ∃ k : Nat, k ≤ l.length ∧ i = .int .i64 k ∧ Below w.heap.size w wr ∧ Hid (∀ i (h : i < l.length), i < k → validA l[i] = true) ∧ Hid (∀ i (h : i + 1 < l.length), i + 1 < k → l[i].time ≤ l[i + 1].time)) (fun i _ => l.length - (intOf i).toNat)
  case atStart => exact ⟨0, by omega, rfl, HB_w, fun i h h1 => absurd h1 (Nat.not_lt_zero _), fun i h h1 => absurd h1 (Nat.not_lt_zero _)⟩
  case round =>
    obtain ⟨k, hk, rfl, HB_wr, HVA, HTI⟩ := hrel
    by_cases hlt : k < l.length
    · obtain ⟨b', off, rfl, hb, hrow⟩ := HS.out.get hlt
      obtain ⟨e_0, e_1, e_2, e_3, e_4, e_5, e_6, e_7⟩ := ((hrow k hlt).below HB_wr hb).c8
      have HR := Lib.hid (fun j hj => hrow j hj)
      have HSC := Lib.hid (fun W => ract_any l[k] W)
      have HARGK := Lib.hid (HARG.out k hlt)
      have HVN : Hid (validA l[k] = true → ∀ i (h : i < l.length), i < k + 1 → validA l[i] = true) := fun h0 i hi h1 => by
        by_cases h : i = k
        · subst h; exact h0
        · exact HVA.out i hi (by omega)
      have HTN : Hid ((∀ (h : 0 < k), l[k - 1].time ≤ l[k].time) → ∀ i (h : i + 1 < l.length), i + 1 < k + 1 → l[i].time ≤ l[i + 1].time) := fun h0 i hi h1 => by
        by_cases h : i + 1 = k
        · subst h; exact h0 (Nat.succ_pos _)
        · exact HTI.out i hi (by omega)
      dsimp only [eA] at HSC
      clear hrow HVA HTI
      have HRK := Lib.hid (HR.out k hlt)
      cases k with
      | zero =>
        generalize l[0] = a at *
        obtain ⟨a0, a1, a2, a3, ⟨a4, a5, a6, a7⟩⟩ := a
        dsimp only at e_0 e_1 e_2 e_3 e_4 e_5 e_6 e_7 HSC HARGK HVN
        simp only [Nat.zero_mul, Nat.add_zero] at e_0 e_1 e_2 e_3 e_4 e_5 e_6 e_7
        go_wp2_with fail
        refine (HSC.out _).mono ?_
        rintro e wa ⟨rfl, hb_wa⟩
        have HB_wa : Below w.heap.size w wa := by first | exact after0 HB_wr hb_wa | exact after1 HB_wr hb_wa | exact after2 HB_wr hb_wa | exact after3 HB_wr hb_wa | exact after4 HB_wr hb_wa | exact after5 HB_wr hb_wa
        clear e_0 e_1 e_2 e_3 e_4 e_5 e_6 e_7 HSC HRK HR
        cases h1 : validA ⟨a0, a1, a2, a3, ⟨a4, a5, a6, a7⟩⟩
        · have HP := Lib.hid (HARGK.out h1)
          clear h1
          go_wp2_with fail
          refine wp_region_plan (C := fun w' => ∃ p : Regrown, w' = grow (redrawn wa p.d) p.os) (.q 0 (.q 1 (.q 2 (.q 3 (.q 4 (.q 5 (.q 6 (.q 7 (.q 8 (.q 9 (.q 10 (.q 11 (.q 12 (.q 13 (.q 14 (.q 15 (.q 16 (.q 17 (.q 18 (.q 19 (.done))))))))))))))))))))) 20 (by kernel_rfl) (by kernel_rfl) (grew_drew _) ?_
          repeat (any_goals (first | (go_big_quiet_skip; refine wpQuiet_nil ?_) | (go_big_quiet_want; go_big_quiet_op; go_big_quiet_on; refine wpQuiet_nil ?_) | ((with_reducible apply q_split); exact rfl; intro q hq; cases q <;> (rw [hq]; (try first | replace hq := bnot_t hq | replace hq := bnot_f hq); (try first | replace hq := of_decide_eq_true hq | replace hq := of_decide_eq_false hq | replace hq := eq_of_beq hq); (try first | replace hq := Int.not_lt.1 hq | replace hq := Int.not_le.1 hq | replace hq := Nat.not_lt.1 hq | replace hq := Nat.not_le.1 hq); try (exfalso; omega))) | (refine plan_q rfl rfl ?_)))
          all_goals refine plan_done ?_
          all_goals (try simp only [List.drop_succ_cons, List.drop_zero])
          all_goals (try go_wp2_with fail)
          all_goals refine NoPanic.normal ?_
          all_goals (try go_wp2_with fail)
          go_ret
          exact ⟨ret_bool' HP.out.symm, HB_wa.drew⟩
        · have HV1 := Lib.hid (HVN.out h1)
          have HT1 := Lib.hid (HTN.out (fun h => absurd h (Nat.lt_irrefl _)))
          clear h1 HVN HTN HARGK
          go_wp2_with fail
          refine wp_region_plan (C := fun w' => ∃ p : Regrown, w' = grow (redrawn wa p.d) p.os) (.q 0 (.q 1 (.q 2 (.q 3 (.q 4 (.q 5 (.q 6 (.q 7 (.q 8 (.q 9 (.q 10 (.q 11 (.q 12 (.q 13 (.q 14 (.q 15 (.q 16 (.q 17 (.q 18 (.q 19 (.done))))))))))))))))))))) 20 (by kernel_rfl) (by kernel_rfl) (grew_drew _) ?_
          repeat (any_goals (first | (go_big_quiet_skip; refine wpQuiet_nil ?_) | (go_big_quiet_want; go_big_quiet_op; go_big_quiet_on; refine wpQuiet_nil ?_) | ((with_reducible apply q_split); exact rfl; intro q hq; cases q <;> (rw [hq]; (try first | replace hq := bnot_t hq | replace hq := bnot_f hq); (try first | replace hq := of_decide_eq_true hq | replace hq := of_decide_eq_false hq | replace hq := eq_of_beq hq); (try first | replace hq := Int.not_lt.1 hq | replace hq := Int.not_le.1 hq | replace hq := Nat.not_lt.1 hq | replace hq := Nat.not_le.1 hq); try (exfalso; omega))) | (refine plan_q rfl rfl ?_)))
          all_goals refine plan_done ?_
          all_goals (try simp only [List.drop_succ_cons, List.drop_zero])
          all_goals (try go_wp2_with fail)
          all_goals refine NoPanic.normal ?_
          all_goals (try go_wp2_with fail)
          go_roundw
          case rel => exact ⟨1, hlt, by go_num, HB_wa.drew, HV1.out, HT1.out⟩
          case measure => simp [intOf] <;> omega
      | succ k =>
        have hk' : k < l.length := by omega
        have HRP := Lib.hid (HR.out k hk')
        have HTK := Lib.hid (HTIME.out k hlt)
        have HTN2 := Lib.hid (show l[k].time ≤ l[k + 1].time → _ from fun h => HTN.out (fun _ => h))
        clear HR HTN
        generalize l[k + 1] = a at *
        generalize l[k] = c at *
        obtain ⟨a0, a1, a2, a3, ⟨a4, a5, a6, a7⟩⟩ := a
        dsimp only at e_0 e_1 e_2 e_3 e_4 e_5 e_6 e_7 HSC HARGK HVN HTK HTN2
        go_wp2_with fail
        refine (HSC.out _).mono ?_
        rintro e wa ⟨rfl, hb_wa⟩
        have HB_wa : Below w.heap.size w wa := by first | exact after0 HB_wr hb_wa | exact after1 HB_wr hb_wa | exact after2 HB_wr hb_wa | exact after3 HB_wr hb_wa | exact after4 HB_wr hb_wa | exact after5 HB_wr hb_wa
        clear e_0 e_1 e_2 e_3 e_4 e_5 e_6 e_7 HSC
        cases h1 : validA ⟨a0, a1, a2, a3, ⟨a4, a5, a6, a7⟩⟩
        · have HP := Lib.hid (HARGK.out h1)
          clear h1
          go_wp2_with fail
          refine wp_region_plan (C := fun w' => ∃ p : Regrown, w' = grow (redrawn wa p.d) p.os) (.q 0 (.q 1 (.q 2 (.q 3 (.q 4 (.q 5 (.q 6 (.q 7 (.q 8 (.q 9 (.q 10 (.q 11 (.q 12 (.q 13 (.q 14 (.q 15 (.q 16 (.q 17 (.q 18 (.q 19 (.done))))))))))))))))))))) 20 (by kernel_rfl) (by kernel_rfl) (grew_drew _) ?_
          repeat (any_goals (first | (go_big_quiet_skip; refine wpQuiet_nil ?_) | (go_big_quiet_want; go_big_quiet_op; go_big_quiet_on; refine wpQuiet_nil ?_) | ((with_reducible apply q_split); exact rfl; intro q hq; cases q <;> (rw [hq]; (try first | replace hq := bnot_t hq | replace hq := bnot_f hq); (try first | replace hq := of_decide_eq_true hq | replace hq := of_decide_eq_false hq | replace hq := eq_of_beq hq); (try first | replace hq := Int.not_lt.1 hq | replace hq := Int.not_le.1 hq | replace hq := Nat.not_lt.1 hq | replace hq := Nat.not_le.1 hq); try (exfalso; omega))) | (refine plan_q rfl rfl ?_)))
          all_goals refine plan_done ?_
          all_goals (try simp only [List.drop_succ_cons, List.drop_zero])
          all_goals (try go_wp2_with fail)
          all_goals refine NoPanic.normal ?_
          all_goals (try go_wp2_with fail)
          go_ret
          exact ⟨ret_bool' HP.out.symm, HB_wa.drew⟩
        have HV1 := Lib.hid (HVN.out h1)
        obtain ⟨-, -, -, e_0, -⟩ := (HRK.out.below HB_wa hb).c8
        obtain ⟨-, -, -, f_0, -⟩ := (HRP.out.below HB_wa hb).c8
        dsimp only at e_0
        generalize c.time = c3 at *
        have hk1 : (0 : Int) < ((k + 1 : Nat) : Int) := by omega
        have hix : ((k + 1 : Nat) : Int) - 1 = (k : Int) := by omega
        by_cases h2 : a3 < c3
        · have HP := Lib.hid (HTK.out h2)
          clear h1
          go_wp2_with fail
          have y_e_0 := cell_regrown e_0
          clear e_0
          have y_f_0 := cell_regrown f_0
          clear f_0
          refine wp_region_plan (C := fun w' => ∃ p : Regrown, w' = grow (redrawn wa p.d) p.os) (.q 0 (.q 1 (.q 2 (.q 3 (.q 4 (.q 5 (.q 6 (.q 7 (.q 8 (.q 9 (.q 10 (.q 11 (.q 12 (.q 13 (.q 14 (.q 15 (.q 16 (.q 17 (.q 18 (.q 19 (.done))))))))))))))))))))) 20 (by kernel_rfl) (by kernel_rfl) (grew_drew _) ?_
          repeat (any_goals (first | (go_big_quiet_skip; refine wpQuiet_nil ?_) | (go_big_quiet_want; go_big_quiet_op; go_big_quiet_on; refine wpQuiet_nil ?_) | ((with_reducible apply q_split); exact rfl; intro q hq; cases q <;> (rw [hq]; (try first | replace hq := bnot_t hq | replace hq := bnot_f hq); (try first | replace hq := of_decide_eq_true hq | replace hq := of_decide_eq_false hq | replace hq := eq_of_beq hq); (try first | replace hq := Int.not_lt.1 hq | replace hq := Int.not_le.1 hq | replace hq := Nat.not_lt.1 hq | replace hq := Nat.not_le.1 hq); try (exfalso; omega))) | (refine plan_q rfl rfl ?_)))
          clear y_e_0
          clear y_f_0
          all_goals refine plan_done ?_
          all_goals (try simp only [List.drop_succ_cons, List.drop_zero])
          all_goals (try go_wp2_with fail)
          all_goals refine NoPanic.normal ?_
          all_goals (try go_wp2_with fail)
          go_ret
          exact ⟨ret_bool' HP.out.symm, HB_wa.drew⟩
        replace h2 := Int.not_lt.1 h2
        have HT1 := Lib.hid (HTN2.out h2)
        clear h1 HVN HTN2 HARGK HTK HRK HRP
        go_wp2_with fail
        have y_e_0 := cell_regrown e_0
        clear e_0
        have y_f_0 := cell_regrown f_0
        clear f_0
        refine wp_region_plan (C := fun w' => ∃ p : Regrown, w' = grow (redrawn wa p.d) p.os) (.q 0 (.q 1 (.q 2 (.q 3 (.q 4 (.q 5 (.q 6 (.q 7 (.q 8 (.q 9 (.q 10 (.q 11 (.q 12 (.q 13 (.q 14 (.q 15 (.q 16 (.q 17 (.q 18 (.q 19 (.done))))))))))))))))))))) 20 (by kernel_rfl) (by kernel_rfl) (grew_drew _) ?_
        repeat (any_goals (first | (go_big_quiet_skip; refine wpQuiet_nil ?_) | (go_big_quiet_want; go_big_quiet_op; go_big_quiet_on; refine wpQuiet_nil ?_) | ((with_reducible apply q_split); exact rfl; intro q hq; cases q <;> (rw [hq]; (try first | replace hq := bnot_t hq | replace hq := bnot_f hq); (try first | replace hq := of_decide_eq_true hq | replace hq := of_decide_eq_false hq | replace hq := eq_of_beq hq); (try first | replace hq := Int.not_lt.1 hq | replace hq := Int.not_le.1 hq | replace hq := Nat.not_lt.1 hq | replace hq := Nat.not_le.1 hq); try (exfalso; omega))) | (refine plan_q rfl rfl ?_)))
        clear y_e_0
        clear y_f_0
        all_goals refine plan_done ?_
        all_goals (try simp only [List.drop_succ_cons, List.drop_zero])
        all_goals (try go_wp2_with fail)
        all_goals refine NoPanic.normal ?_
        all_goals (try go_wp2_with fail)
        go_roundw
        case rel => exact ⟨k + 1 + 1, hlt, by go_num, HB_wa.drew, HV1.out, HT1.out⟩
        case measure => simp [intOf] <;> omega
    · obtain rfl : k = l.length := by omega
      have HP := Lib.hid (HEND.out (by omega) (fun i h => HVA.out i h h) (fun i h => HTI.out i h h))
      go_wp2_with fail
      go_ret
      exact ⟨ret_bool' HP.out.symm, HB_wr⟩
end Go.Proofs.Ytmbnhlihcnbebaa
