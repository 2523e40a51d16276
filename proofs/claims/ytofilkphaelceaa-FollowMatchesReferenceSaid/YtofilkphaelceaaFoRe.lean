/-
  The reference functions of the layer 'follow', walked: Permitted.
-/
import Derived.Test.YtofilkphaelceaaFoRd
set_option linter.unusedVariables false
namespace Go.Proofs.Ytofilkphaelceaa
open Go Go.RowKit Fo Sk Go.Sort

set_option maxRecDepth 100000 in
set_option maxHeartbeats 4000000 in
theorem rpermitted_any (ao : Option Addr) (n cap : Nat) (l : List St) (bo : Option Addr) (m capb : Nat) (o : List Int) (w : World) (hs : SlS w ao n cap l) (hd : Sl w 1 cI bo m capb o) :
    Calls Try.prog 21 #[.slice ao n cap, .slice bo m capb] w (Ret w (eI (permR l o))) := by
  obtain rfl := hs.1.len
  have hcap := hs.1.max
  have hle := hs.1.le
  unfold maxLen at hcap
  obtain rfl := hd.len
  have hcapb := hd.max
  have hleb := hd.le
  unfold maxLen at hcapb
  have HS := Lib.hid hs
  have HD := Lib.hid hd
  have HB_w : Below w.heap.size w w := Below.refl _ _
  have HBAD := Lib.hid (@permR_bad l o)
  have HOK := Lib.hid (@permR_ok l o)
  clear hs hd
  generalize permR l o = p at *
  go_enter Try.func21, Try.ntmps21
  go_wp2_with fail
  refine (rvalid_any _ _ _ l _ HS.out).mono ?_
  rintro e wa ⟨rfl, hb_wa⟩
  have HB_wa : Below w.heap.size w wa := by first | exact after0 HB_w hb_wa | exact after1 HB_w hb_wa | exact after2 HB_w hb_wa | exact after3 HB_w hb_wa | exact after4 HB_w hb_wa | exact after5 HB_w hb_wa
  cases h1 : valid l
  · have HP := Lib.hid (HBAD.out (.inl h1))
    clear h1
    go_wp2_with fail
    go_ret2
    exact ⟨ret_pair HP.out, HB_wa⟩
  have HV := Lib.hid (vok h1)
  replace HOK := Lib.hid (HOK.out h1)
  clear h1
  by_cases h2 : 200 < o.length
  · have HP := Lib.hid (HBAD.out (.inr h2))
    have h2i : 200 < (o.length : Int) := by omega
    go_wp2_with fail
    all_goals try (exfalso; omega)
    go_ret2
    exact ⟨ret_pair HP.out, HB_wa⟩
  replace h2 := Nat.not_lt.1 h2
  have h2i : (o.length : Int) ≤ 200 := by omega
  have HP := Lib.hid (HOK.out h2)
  have hl200 := HV.out.len
  have HFA := Lib.hid (fun k hk hn hb => @permF_at l o k hk hn hb)
  have HFT := Lib.hid (@permF_all l o)
  clear HBAD HOK
  generalize permF l o = pf at *
  go_wp2_with fail
  go_loopw [7] (fun i wr => ∃ k : Nat, k ≤ o.length ∧ i = .int .i64 k ∧ Below w.heap.size w wr ∧ Hid (∀ j, j < o.length → j < k → permAt l o j = true)) (fun i _ => o.length - (intOf i).toNat)
  case atStart => exact ⟨0, by omega, rfl, HB_wa, fun i _ h => absurd h (Nat.not_lt_zero _)⟩
  case round =>
    obtain ⟨k, hk, rfl, HB_wr, HJ⟩ := hrel
    by_cases hlt : k < o.length
    · have HSW := Lib.hid (HS.out.below HB_wr)
      obtain ⟨b', off, rfl, hb, hrow⟩ := HD.out.get hlt
      have e_0 := ((hrow k hlt).below HB_wr hb).c1
      rw [Nat.mul_one] at e_0
      have HFK := Lib.hid (HFA.out k hlt HJ.out)
      have HN := Lib.hid (show permAt l o k = true → ∀ j, j < o.length → j < k + 1 → permAt l o j = true from fun h0 j h hj => by
        rcases Nat.lt_succ_iff_lt_or_eq.1 hj with h1 | rfl
        · exact HJ.out j h h1
        · exact h0)
      have HPN := Lib.hid (@permAt_none l o k hlt)
      have HPS := Lib.hid (fun s => @permAt_some l o k s hlt)
      have HX := Lib.hid (rindex_any ao l.length cap l o[k] wr HSW.out.1)
      have HIC := Lib.hid (idxS_cases l o[k])
      have hst := slice_head (P := Try.prog) (t := 23) (by kernel_rfl) (fun W => by kernel_rfl) HD.out k (by omega)
      have HTK := Lib.hid (HD.out.take (n := k) (by omega))
      clear hrow HJ
      generalize o[k] = x at *
      generalize permAt l o k = pk at *
      generalize o.take k = T at *
      have HE0 := Lib.hid e_0
      rcases HIC.out with ⟨e1, e2⟩ | ⟨q, hq, e1, e2, e3⟩
      · have HP2 := Lib.hid (HFK.out (HPN.out e2))
        rw [e1] at HX
        clear e1 e2 HIC HPN HPS HN hst HFK
        go_wp2_with fail
        refine (HX.out).mono ?_
        rintro e wb ⟨rfl, hb_wb⟩
        have HB_wb : Below w.heap.size w wb := by first | exact after0 HB_wr hb_wb | exact after1 HB_wr hb_wb | exact after2 HB_wr hb_wb | exact after3 HB_wr hb_wb | exact after4 HB_wr hb_wb | exact after5 HB_wr hb_wb
        go_wp2_with fail
        go_ret2
        exact ⟨ret_pair (by rw [HP.out, HP2.out]), HB_wb⟩
      · have HPA := Lib.hid (HPS.out _ e3)
        obtain ⟨b2, off2, rfl, hb2, hrow2⟩ := HSW.out.1.get hq
        obtain ⟨f_0, f_1⟩ := (hrow2 q hq).c2
        have HSO := Lib.hid (HSW.out.2 _ (List.getElem_mem hq))
        rw [e1] at HX
        clear e1 e2 e3 HIC HPN HPS hrow2 HFT
        generalize l[q] = s at *
        obtain ⟨s0, s1, s2, s3, s4⟩ := s
        obtain rfl : s4.length = s2 := HSO.out.1.len
        dsimp only at f_0 f_1 HPA
        go_wp2_with fail
        clear f_0 e_0
        have HF1 := Lib.hid f_1
        clear f_1
        refine (HX.out).mono ?_
        rintro e wb ⟨rfl, hb_wb⟩
        have HB_wb : Below w.heap.size w wb := by first | exact after0 HB_wr hb_wb | exact after1 HB_wr hb_wb | exact after2 HB_wr hb_wb | exact after3 HB_wr hb_wb | exact after4 HB_wr hb_wb | exact after5 HB_wr hb_wb
        have e_0 := (hb_wb.cell (p := ⟨b', off + k, none⟩) (Nat.lt_of_lt_of_le hb HB_wr.size)).trans HE0.out
        have f_0 := (hb_wb.cell (p := ⟨b2, off2 + q * 2 + 1, none⟩) hb2).trans HF1.out
        have hqi : ¬ (q : Int) < 0 := by omega
        have HH := Lib.hid (show ∀ W, Below wb.heap.size wb W → Calls Try.prog 32 #[.slice (some ⟨b', off, none⟩) k capb, .int .i64 x] W (Ret W (.bool (T.contains x))) from fun W hW => rhas_any _ _ _ T x W (HTK.out.below (after0 HB_wb hW)))
        have HW := Lib.hid (show ∀ W, Below wb.heap.size wb W → Calls Try.prog 47 #[.slice s1 s4.length s3, .slice (some ⟨b', off, none⟩) k capb] W (Ret W (.bool (s4.all T.contains))) from fun W hW => rwithin_any _ _ _ _ _ _ s4 T W (HSO.out.1.below (after0 hb_wb hW)) (HTK.out.below (after0 HB_wb hW)))
        clear HX HSW HSO hb_wb hb2 HE0 HF1
        go_wp2_with fail
        all_goals try (exfalso; omega)
        cases hc : T.contains x
        case true =>
          have HP2 := Lib.hid (HFK.out (by rw [HPA.out, hc]; rfl))
          rw [hc] at HH
          clear hc HPA HN HW HFK
          have y_e_0 := cell_regrown e_0
          clear e_0
          have y_f_0 := cell_regrown f_0
          clear f_0
          refine wp_region_plan (C := fun w' => ∃ p : Regrown, w' = grow (redrawn wb p.d) p.os) (.q 0 (.q 1 (.q 2 (.q 3 (.q 4 (.q 5 (.q 6 (.e 7 (.q 8 (.q 9 (.q 10 (.q 11 (.q 12 (.q 13 (.q 14 (.q 15 (.q 16 (.e 17 (.q 18 (.q 19 (.done))))))))))))))))))))) 20 (by kernel_rfl) (by kernel_rfl) (grew_drew _) ?_
          repeat (any_goals (first | (go_big_quiet_skip; refine wpQuiet_nil ?_) | (go_big_quiet_want; go_big_quiet_op; go_big_quiet_on; refine wpQuiet_nil ?_) | ((with_reducible apply q_split); exact rfl; intro q hq; cases q <;> (rw [hq]; (try first | replace hq := bnot_t hq | replace hq := bnot_f hq); (try first | replace hq := of_decide_eq_true hq | replace hq := of_decide_eq_false hq | replace hq := eq_of_beq hq); (try first | replace hq := Int.not_lt.1 hq | replace hq := Int.not_le.1 hq | replace hq := Nat.not_lt.1 hq | replace hq := Nat.not_le.1 hq); try (exfalso; omega))) | (refine plan_q rfl rfl ?_)))
          refine plan_e rfl ?_
          go_wp2_with fail
          refine (HH.out _ (below_drew)).mono ?_
          rintro e wc ⟨rfl, hb_wc⟩
          have HW_wc : Below wb.heap.size wb wc := below_undrew hb_wc
          clear hb_wc
          go_wp2_with fail
          refine MixPost.intro (grew_of_below HW_wc) ?_
          repeat (any_goals (first | (go_big_quiet_skip; refine wpQuiet_nil ?_) | (go_big_quiet_want; go_big_quiet_op; go_big_quiet_on; refine wpQuiet_nil ?_) | ((with_reducible apply q_split); exact rfl; intro q hq; cases q <;> (rw [hq]; (try first | replace hq := bnot_t hq | replace hq := bnot_f hq); (try first | replace hq := of_decide_eq_true hq | replace hq := of_decide_eq_false hq | replace hq := eq_of_beq hq); (try first | replace hq := Int.not_lt.1 hq | replace hq := Int.not_le.1 hq | replace hq := Nat.not_lt.1 hq | replace hq := Nat.not_le.1 hq); try (exfalso; omega))) | (refine plan_q rfl rfl ?_)))
          refine plan_e rfl ?_
          go_wp2_with fail
          refine MixPost.intro (by first | exact grew_drew _ | exact grew_of_below (by assumption)) ?_
          repeat (any_goals (first | (go_big_quiet_skip; refine wpQuiet_nil ?_) | (go_big_quiet_want; go_big_quiet_op; go_big_quiet_on; refine wpQuiet_nil ?_) | ((with_reducible apply q_split); exact rfl; intro q hq; cases q <;> (rw [hq]; (try first | replace hq := bnot_t hq | replace hq := bnot_f hq); (try first | replace hq := of_decide_eq_true hq | replace hq := of_decide_eq_false hq | replace hq := eq_of_beq hq); (try first | replace hq := Int.not_lt.1 hq | replace hq := Int.not_le.1 hq | replace hq := Nat.not_lt.1 hq | replace hq := Nat.not_le.1 hq); try (exfalso; omega))) | (refine plan_q rfl rfl ?_)))
          clear y_e_0
          clear y_f_0
          all_goals refine plan_done ?_
          all_goals (try simp only [List.drop_succ_cons, List.drop_zero])
          all_goals (try go_wp2_with fail)
          all_goals refine NoPanic.normal ?_
          all_goals (try go_wp2_with fail)
          have HB_wc := after0 HB_wb HW_wc
          go_ret2
          exact ⟨ret_pair (by rw [HP.out, HP2.out]), HB_wc⟩
        rw [hc] at HPA HH
        clear hc
        cases h4 : s4.all T.contains
        · have HP2 := Lib.hid (HFK.out (by rw [HPA.out, h4]; rfl))
          rw [h4] at HW
          clear h4 HPA HN HFK
          have y_e_0 := cell_regrown e_0
          clear e_0
          have y_f_0 := cell_regrown f_0
          clear f_0
          refine wp_region_plan (C := fun w' => ∃ p : Regrown, w' = grow (redrawn wb p.d) p.os) (.q 0 (.q 1 (.q 2 (.q 3 (.q 4 (.q 5 (.q 6 (.e 7 (.q 8 (.q 9 (.q 10 (.q 11 (.q 12 (.q 13 (.q 14 (.q 15 (.q 16 (.e 17 (.q 18 (.q 19 (.done))))))))))))))))))))) 20 (by kernel_rfl) (by kernel_rfl) (grew_drew _) ?_
          repeat (any_goals (first | (go_big_quiet_skip; refine wpQuiet_nil ?_) | (go_big_quiet_want; go_big_quiet_op; go_big_quiet_on; refine wpQuiet_nil ?_) | ((with_reducible apply q_split); exact rfl; intro q hq; cases q <;> (rw [hq]; (try first | replace hq := bnot_t hq | replace hq := bnot_f hq); (try first | replace hq := of_decide_eq_true hq | replace hq := of_decide_eq_false hq | replace hq := eq_of_beq hq); (try first | replace hq := Int.not_lt.1 hq | replace hq := Int.not_le.1 hq | replace hq := Nat.not_lt.1 hq | replace hq := Nat.not_le.1 hq); try (exfalso; omega))) | (refine plan_q rfl rfl ?_)))
          refine plan_e rfl ?_
          go_wp2_with fail
          refine (HH.out _ (below_drew)).mono ?_
          rintro e wc ⟨rfl, hb_wc⟩
          have HW_wc : Below wb.heap.size wb wc := below_undrew hb_wc
          clear hb_wc
          go_wp2_with fail
          refine MixPost.intro (grew_of_below HW_wc) ?_
          repeat (any_goals (first | (go_big_quiet_skip; refine wpQuiet_nil ?_) | (go_big_quiet_want; go_big_quiet_op; go_big_quiet_on; refine wpQuiet_nil ?_) | ((with_reducible apply q_split); exact rfl; intro q hq; cases q <;> (rw [hq]; (try first | replace hq := bnot_t hq | replace hq := bnot_f hq); (try first | replace hq := of_decide_eq_true hq | replace hq := of_decide_eq_false hq | replace hq := eq_of_beq hq); (try first | replace hq := Int.not_lt.1 hq | replace hq := Int.not_le.1 hq | replace hq := Nat.not_lt.1 hq | replace hq := Nat.not_le.1 hq); try (exfalso; omega))) | (refine plan_q rfl rfl ?_)))
          refine plan_e rfl ?_
          go_wp2_with fail
          refine (HW.out _ HW_wc).mono ?_
          rintro e wd ⟨rfl, hb_wd⟩
          have HW_wd : Below wb.heap.size wb wd := after0 HW_wc hb_wd
          clear hb_wd
          go_wp2_with fail
          refine MixPost.intro (grew_of_below HW_wd) ?_
          repeat (any_goals (first | (go_big_quiet_skip; refine wpQuiet_nil ?_) | (go_big_quiet_want; go_big_quiet_op; go_big_quiet_on; refine wpQuiet_nil ?_) | ((with_reducible apply q_split); exact rfl; intro q hq; cases q <;> (rw [hq]; (try first | replace hq := bnot_t hq | replace hq := bnot_f hq); (try first | replace hq := of_decide_eq_true hq | replace hq := of_decide_eq_false hq | replace hq := eq_of_beq hq); (try first | replace hq := Int.not_lt.1 hq | replace hq := Int.not_le.1 hq | replace hq := Nat.not_lt.1 hq | replace hq := Nat.not_le.1 hq); try (exfalso; omega))) | (refine plan_q rfl rfl ?_)))
          clear y_e_0
          clear y_f_0
          all_goals refine plan_done ?_
          all_goals (try simp only [List.drop_succ_cons, List.drop_zero])
          all_goals (try go_wp2_with fail)
          all_goals refine NoPanic.normal ?_
          all_goals (try go_wp2_with fail)
          have HB_wd := after0 HB_wb HW_wd
          go_ret2
          exact ⟨ret_pair (by rw [HP.out, HP2.out]), HB_wd⟩
        have HN2 := Lib.hid (HN.out (by rw [HPA.out, h4]; rfl))
        rw [h4] at HW
        clear h4 HN HPA HFK
        have y_e_0 := cell_regrown e_0
        clear e_0
        have y_f_0 := cell_regrown f_0
        clear f_0
        refine wp_region_plan (C := fun w' => ∃ p : Regrown, w' = grow (redrawn wb p.d) p.os) (.q 0 (.q 1 (.q 2 (.q 3 (.q 4 (.q 5 (.q 6 (.e 7 (.q 8 (.q 9 (.q 10 (.q 11 (.q 12 (.q 13 (.q 14 (.q 15 (.q 16 (.e 17 (.q 18 (.q 19 (.done))))))))))))))))))))) 20 (by kernel_rfl) (by kernel_rfl) (grew_drew _) ?_
        repeat (any_goals (first | (go_big_quiet_skip; refine wpQuiet_nil ?_) | (go_big_quiet_want; go_big_quiet_op; go_big_quiet_on; refine wpQuiet_nil ?_) | ((with_reducible apply q_split); exact rfl; intro q hq; cases q <;> (rw [hq]; (try first | replace hq := bnot_t hq | replace hq := bnot_f hq); (try first | replace hq := of_decide_eq_true hq | replace hq := of_decide_eq_false hq | replace hq := eq_of_beq hq); (try first | replace hq := Int.not_lt.1 hq | replace hq := Int.not_le.1 hq | replace hq := Nat.not_lt.1 hq | replace hq := Nat.not_le.1 hq); try (exfalso; omega))) | (refine plan_q rfl rfl ?_)))
        refine plan_e rfl ?_
        go_wp2_with fail
        refine (HH.out _ (below_drew)).mono ?_
        rintro e wc ⟨rfl, hb_wc⟩
        have HW_wc : Below wb.heap.size wb wc := below_undrew hb_wc
        clear hb_wc
        go_wp2_with fail
        refine MixPost.intro (grew_of_below HW_wc) ?_
        repeat (any_goals (first | (go_big_quiet_skip; refine wpQuiet_nil ?_) | (go_big_quiet_want; go_big_quiet_op; go_big_quiet_on; refine wpQuiet_nil ?_) | ((with_reducible apply q_split); exact rfl; intro q hq; cases q <;> (rw [hq]; (try first | replace hq := bnot_t hq | replace hq := bnot_f hq); (try first | replace hq := of_decide_eq_true hq | replace hq := of_decide_eq_false hq | replace hq := eq_of_beq hq); (try first | replace hq := Int.not_lt.1 hq | replace hq := Int.not_le.1 hq | replace hq := Nat.not_lt.1 hq | replace hq := Nat.not_le.1 hq); try (exfalso; omega))) | (refine plan_q rfl rfl ?_)))
        refine plan_e rfl ?_
        go_wp2_with fail
        refine (HW.out _ HW_wc).mono ?_
        rintro e wd ⟨rfl, hb_wd⟩
        have HW_wd : Below wb.heap.size wb wd := after0 HW_wc hb_wd
        clear hb_wd
        go_wp2_with fail
        refine MixPost.intro (grew_of_below HW_wd) ?_
        repeat (any_goals (first | (go_big_quiet_skip; refine wpQuiet_nil ?_) | (go_big_quiet_want; go_big_quiet_op; go_big_quiet_on; refine wpQuiet_nil ?_) | ((with_reducible apply q_split); exact rfl; intro q hq; cases q <;> (rw [hq]; (try first | replace hq := bnot_t hq | replace hq := bnot_f hq); (try first | replace hq := of_decide_eq_true hq | replace hq := of_decide_eq_false hq | replace hq := eq_of_beq hq); (try first | replace hq := Int.not_lt.1 hq | replace hq := Int.not_le.1 hq | replace hq := Nat.not_lt.1 hq | replace hq := Nat.not_le.1 hq); try (exfalso; omega))) | (refine plan_q rfl rfl ?_)))
        clear y_e_0
        clear y_f_0
        all_goals refine plan_done ?_
        all_goals (try simp only [List.drop_succ_cons, List.drop_zero])
        all_goals (try go_wp2_with fail)
        all_goals refine NoPanic.normal ?_
        all_goals (try go_wp2_with fail)
        have HB_wd := after0 HB_wb HW_wd
        go_roundw
        case rel => exact ⟨k + 1, by omega, by go_num, HB_wd, HN2⟩
        case measure => simp [intOf]; omega
    · have HP2 := Lib.hid (HFT.out (fun j h => HJ.out j h (by omega)))
      go_wp2_with fail
      go_ret2
      exact ⟨ret_pair (by rw [HP.out, HP2.out]), HB_wr⟩
end Go.Proofs.Ytofilkphaelceaa
