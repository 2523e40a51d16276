/-
  The reference functions of chapter 10: Chain.
-/
import Derived.Test.YtmnlkndbdcdngaaSymRG
namespace Go.Proofs.Ytmnlkndbdcdngaa
open Go.RowKit Sb Sk Go.Sort
set_option linter.unusedVariables false

theorem translate_in {oa : Int} {a : List Mk} {ob : Int} {b : List Mk} {m : Mk} (ha : okB oa a = true) (hb : okB ob b = true) (hm : m ∈ a) : translate oa a ob b m.sy = if found (trans b m) then ((trans b m).sy, 0) else (0, 4) := by
  unfold translate
  rw [if_pos (by rw [ha, hb, okS_of ha hm]; rfl), lookM_mem (vok ha) hm]

set_option maxRecDepth 100000 in
set_option maxHeartbeats 8000000 in
theorem rchain_any (ao : Option Addr) (n cap : Nat) (bs : List Bk) (s : Int) (w : World) (hs : Sl w 2 cB ao n cap bs) (hb : ∀ u ∈ bs, BkOk w u) :
    Calls Try.prog 24 #[.slice ao n cap, .int .i64 s] w (Ret w (.tuple #[.int .i64 (chain (bs.map plainB) s).1, .int .i64 (chain (bs.map plainB) s).2])) := by
  obtain rfl := hs.len
  have hcap := hs.max
  have hle := hs.le
  unfold maxLen at hcap
  have HS := Lib.hid hs
  have HBK := Lib.hid hb
  clear hs hb
  have HB_w : Below w.heap.size w w := Below.refl _ _
  have HBAD := Lib.hid (@chain_bad bs s)
  have HGOOD := Lib.hid (show ∀ (h0 : 0 < bs.length), bs.length ≤ 20 → okS s = true → (∀ u ∈ bs, okB u.of u.ms = true) → chain (bs.map plainB) s = match lookM bs[0].ms s with | some m => chainGo ((bs.drop 1).map plainB) m | none => (0, 11) from fun h0 h1 h2 h3 => by
    cases bs with
    | nil => simp at h0
    | cons b r => exact chain_ok h1 h2 h3)
  generalize chain (bs.map plainB) s = p at *
  by_cases h1 : 0 < bs.length ∧ bs.length ≤ 20
  case neg =>
    have HP := Lib.hid (HBAD.out (by
      simp only [Bool.and_eq_false_iff, decide_eq_false_iff_not]
      left; left
      rcases Classical.em (0 < bs.length) with h | h
      · right; omega
      · left; exact h))
    have h2 : bs.length ≤ 0 ∨ (0 < bs.length ∧ 20 < bs.length) := by omega
    clear h1
    rcases h2 with h | ⟨h, h'⟩
    · have h0 : ((bs.length : Int) == 0) = true := by rw [show bs.length = 0 by omega]; rfl
      go_enter Try.func24, Try.ntmps24
      go_wp2_with fail
      go_ret2
      exact ⟨ret_pair HP.out, HB_w⟩
    · have h0 : ((bs.length : Int) == 0) = false := beq_eq_false_iff_ne.2 (by omega)
      go_enter Try.func24, Try.ntmps24
      go_wp2_with fail
      all_goals try (exfalso; omega)
      go_ret2
      exact ⟨ret_pair HP.out, HB_w⟩
  obtain ⟨h1a, h1b⟩ := h1
  have h0 : ((bs.length : Int) == 0) = false := beq_eq_false_iff_ne.2 (by omega)
  go_enter Try.func24, Try.ntmps24
  go_wp2_with fail
  all_goals try (exfalso; omega)
  refine (rsymbol_any s _).mono ?_
  rintro e wa ⟨rfl, hb_wa⟩
  have HB_wa : Below w.heap.size w wa := by first | exact after0 HB_w hb_wa | exact after1 HB_w hb_wa | exact after2 HB_w hb_wa | exact after3 HB_w hb_wa | exact after4 HB_w hb_wa | exact after5 HB_w hb_wa
  replace HS := Lib.hid (show Sl wa _ _ _ _ _ _ by first | exact HS.out.below hb_wa | exact (HS.out.below (grew1 (Below.refl _ _))).below hb_wa | exact (HS.out.below (grew2 (Below.refl _ _))).below hb_wa | exact (HS.out.below (grew3 (Below.refl _ _))).below hb_wa)
  cases h2 : okS s
  · have HP := Lib.hid (HBAD.out (by simp [h2]))
    go_wp2_with fail
    go_ret2
    exact ⟨ret_pair HP.out, HB_wa⟩
  have HPB := Lib.hid (show (∃ u ∈ bs, okB u.of u.ms = false) → p = (0, 1) from fun ⟨u, hu, hn⟩ => HBAD.out (by
    simp only [Bool.and_eq_false_iff]; right
    rw [List.all_eq_false]; exact ⟨u, hu, by simp [hn]⟩))
  have HPG := Lib.hid (HGOOD.out h1a h1b h2)
  have HOS := Lib.hid h2
  clear h2 HBAD HGOOD
  go_wp2_with fail
  go_loopw [6] (fun i wr => ∃ k : Nat, k ≤ bs.length ∧ i = .int .i64 k ∧ Below w.heap.size w wr ∧ Hid (Below wa.heap.size wa wr) ∧ Hid (∀ j (h : j < bs.length), j < k → okB bs[j].of bs[j].ms = true)) (fun i _ => bs.length - (intOf i).toNat)
  case atStart => exact ⟨0, by omega, rfl, HB_wa, Below.refl _ _, fun j _ h => absurd h (Nat.not_lt_zero _)⟩
  case round =>
    obtain ⟨k, hk, rfl, HB_wr, HBA, HOKS⟩ := hrel
    by_cases hkl : k < bs.length
    · have HNX := Lib.hid (show okB bs[k].of bs[k].ms = true → ∀ j (h : j < bs.length), j < k + 1 → okB bs[j].of bs[j].ms = true from fun h0 j h hj => by
        rcases Nat.lt_succ_iff_lt_or_eq.1 hj with h1 | rfl
        · exact HOKS.out j h h1
        · exact h0)
      have HNO := Lib.hid (show okB bs[k].of bs[k].ms = false → p = (0, 1) from fun h => HPB.out ⟨_, List.getElem_mem hkl, h⟩)
      have HK := Lib.hid (show BkOk wr bs[k] from (HBK.out _ (List.getElem_mem hkl)).below HB_wr)
      obtain ⟨bb, off, rfl, hbb, hrow⟩ := HS.out.get hkl
      obtain ⟨e0, e1⟩ := ((hrow k hkl).below HBA.out hbb).c2
      clear hrow
      generalize bs[k] = u at *
      obtain ⟨uo, ua, un, uc, ums⟩ := u
      dsimp only at e0 e1 HNX HNO
      have HKS : Hid (Sl wr 3 cM ua un uc ums) := HK.out
      go_wp2_with fail
      refine (rvalid_any uo ua un uc ums _ HKS.out).mono ?_
      rintro e w2 ⟨rfl, hb_w2⟩
      have HB_w2 : Below w.heap.size w w2 := by first | exact after0 HB_wr hb_w2 | exact after1 HB_wr hb_w2 | exact after2 HB_wr hb_w2 | exact after3 HB_wr hb_w2 | exact after4 HB_wr hb_w2 | exact after5 HB_wr hb_w2
      have HBA2 := Lib.hid (after0 HBA.out hb_w2)
      clear e0 e1
      cases hv : okB uo ums
      · have HP := Lib.hid (HNO.out hv)
        go_wp2_with fail
        go_ret2
        exact ⟨ret_pair HP.out, HB_w2⟩
      · have HN := Lib.hid (HNX.out hv)
        go_wp2_with fail
        go_roundw
        case rel => exact ⟨k + 1, by omega, by go_num, HB_w2, HBA2, HN⟩
        case measure => simp [intOf]; omega
    · have HOK := Lib.hid (show ∀ j (h : j < bs.length), okB bs[j].of bs[j].ms = true from fun j h => HOKS.out j h (by omega))
      have HP := Lib.hid (HPG.out (fun u hu => by obtain ⟨j, hj, rfl⟩ := List.getElem_of_mem hu; exact HOK.out j hj))
      have HK0 : Hid (BkOk wr bs[0]) := (HBK.out _ (List.getElem_mem h1a)).below HB_wr
      have HSr := Lib.hid (HS.out.below HBA.out)
      obtain ⟨bb, off, rfl, hbb, hrow⟩ := HSr.out.get h1a
      obtain ⟨e0, e1⟩ := (hrow 0 h1a).c2
      have HROW := Lib.hid hrow
      rw [Nat.zero_mul, Nat.add_zero] at e0 e1
      have HFI := Lib.hid (show findF bs[0].of bs[0].ms s = match lookM bs[0].ms s with | some m => (m, 0) | none => (zeroM, 11) from findF_ok (HOK.out 0 h1a) HOS.out)
      have HLK := Lib.hid (show ∀ m, lookM bs[0].ms s = some m → m ∈ bs[0].ms ∧ m.sy = s from fun m h => lookM_some h)
      clear hrow HPG HPB HOKS
      generalize hu : bs[0] = u at *
      replace hu := Lib.hid hu
      obtain ⟨uo, ua, un, uc, ums⟩ := u
      dsimp only at e0 e1 HP HFI HLK
      have HKS : Hid (Sl wr 3 cM ua un uc ums) := HK0.out
      go_wp2_with fail
      refine (rfind_any uo ua un uc ums s _ HKS.out).mono ?_
      rintro e w3 ⟨rfl, hb_w3⟩
      have HB_w3 : Below w.heap.size w w3 := by first | exact after0 HB_wr hb_w3 | exact after1 HB_wr hb_w3 | exact after2 HB_wr hb_w3 | exact after3 HB_wr hb_w3 | exact after4 HB_wr hb_w3 | exact after5 HB_wr hb_w3
      clear e0 e1
      rw [HFI.out]
      cases hl : lookM ums s with
      | none =>
        have HP2 := Lib.hid (show p = (0, 11) by rw [HP.out, hl])
        clear hl
        dsimp only [zeroM]
        go_wp2_with fail
        go_ret2
        exact ⟨ret_pair HP2.out, grew1 HB_w3⟩
      | some m =>
        have HP2 := Lib.hid (show p = chainGo ((bs.drop 1).map plainB) m by rw [HP.out, hl])
        have HM := Lib.hid (HLK.out m hl)
        clear hl HP HFI HLK
        obtain ⟨x0, x1, x2⟩ := m
        dsimp only
        obtain ⟨W1, hW1, hB1, hZ, hx⟩ := boxes1 w3 [.int .i64 x0, .int .i64 x1, .int .i64 x2] 29
        have HB_W1 : Below w.heap.size w W1 := after0 HB_w3 hB1
        have HBR : Hid (Below wr.heap.size wr W1) := after0 hb_w3 hB1
        clear hx hZ hB1
        go_wp2_with fail
        clear hW1
        go_loopw [1, 9] (fun q i wq => ∃ (k : Nat) (m : Mk), 1 ≤ k ∧ k ≤ bs.length ∧ i = .int .i64 k ∧ q = .int .i64 m.sy ∧ Below w.heap.size w wq ∧ Hid (Below wr.heap.size wr wq) ∧ Hid (p = chainGo ((bs.drop k).map plainB) m) ∧ Hid (∃ h : k - 1 < bs.length, m ∈ bs[k - 1].ms)) (fun _ i _ => bs.length - (intOf i).toNat)
        case atStart => exact ⟨1, ⟨x0, x1, x2⟩, by omega, by omega, rfl, by rw [← HM.out.2], HB_W1, HBR, HP2, ⟨h1a, by have := hu.out; simp [this]; exact HM.out.1⟩⟩
        case round =>
          clear HP2 HM HBR
          obtain ⟨k, m, hk1, hk, rfl, rfl, HB_wq, HBQ, HP2, HM⟩ := hrel
          by_cases hkl2 : k < bs.length
          case neg =>
            have HP3 : Hid (p = (m.sy, 0)) := by show _ = _; rw [HP2.out, List.drop_eq_nil_of_le (by omega)]; rfl
            go_wp2_with fail
            go_ret2
            exact ⟨ret_pair HP3.out, HB_wq⟩
          obtain ⟨hk0, hmm⟩ := HM.out
          obtain ⟨e_0, e_1⟩ := ((HROW.out k hkl2).below HBQ.out hbb).c2
          obtain ⟨f_0, f_1⟩ := ((HROW.out (k - 1) hk0).below HBQ.out hbb).c2
          have HTL := Lib.hid (translate_in (HOK.out (k - 1) hk0) (HOK.out k hkl2) hmm)
          have HGO : Hid (p = if found (trans bs[k].ms m) then chainGo ((bs.drop (k + 1)).map plainB) (trans bs[k].ms m) else (0, 4)) := by
            show _ = _
            rw [HP2.out, List.drop_eq_getElem_cons hkl2, List.map_cons]
            rfl
          have HNX := Lib.hid (show found (trans bs[k].ms m) = true → trans bs[k].ms m ∈ bs[k].ms from fun h => (trans_found (vok (HOK.out k hkl2)) h).1)
          have HKA : Hid (BkOk wr bs[k - 1]) := (HBK.out _ (List.getElem_mem hk0)).below HB_wq
          have HKB : Hid (BkOk wr bs[k]) := (HBK.out _ (List.getElem_mem hkl2)).below HB_wq
          clear HP2 HM hmm
          generalize hbk : bs[k] = u at *
          generalize bs[k - 1] = t at *
          replace hbk := Lib.hid hbk
          obtain ⟨ta, tb, tc, td, te⟩ := t
          obtain ⟨va, vb, vc, vd, ve⟩ := u
          dsimp only at e_0 e_1 f_0 f_1 HTL HGO HNX
          have HC := Lib.hid (show ∀ W, Below wr.heap.size wr W → Calls Try.prog 17 #[.agg #[.int .i64 ta, .slice tb tc td], .agg #[.int .i64 va, .slice vb vc vd], .int .i64 m.sy] W (Ret W (.tuple #[.int .i64 (translate ta te va ve m.sy).1, .int .i64 (translate ta te va ve m.sy).2])) from
            fun W hW => rtranslate_any ta tb tc td te va vb vc vd ve m.sy W (Sl.below (show Sl wr 3 cM tb tc td te from HKA.out) hW) (Sl.below (show Sl wr 3 cM vb vc vd ve from HKB.out) hW))
          rw [HTL.out] at HC
          cases hf : found (trans ve m)
          · have HP3 : Hid (p = (0, 4)) := by show _ = _; rw [HGO.out, hf]; rfl
            rw [hf] at HC
            replace HC := Lib.hid (show ∀ W, Below wr.heap.size wr W → Calls Try.prog 17 #[.agg #[.int .i64 ta, .slice tb tc td], .agg #[.int .i64 va, .slice vb vc vd], .int .i64 m.sy] W (Ret W (.tuple #[.int .i64 0, .int .i64 4])) from HC.out)
            clear hf HTL HGO HNX
            generalize m.sy = q at *
            go_wp2_with fail
            have y_e_0 := cell_regrown e_0
            have y_e_1 := cell_regrown e_1
            clear e_0 e_1
            have y_f_0 := cell_regrown f_0
            have y_f_1 := cell_regrown f_1
            clear f_0 f_1
            refine wp_region_plan (C := fun w' => ∃ p : Regrown, w' = grow (redrawn wr p.d) p.os) (.q 0 (.q 1 (.q 2 (.q 3 (.q 4 (.q 5 (.q 6 (.q 7 (.q 8 (.q 9 (.e 10 (.q 11 (.q 12 (.q 13 (.q 14 (.q 15 (.done))))))))))))))))) 16 (by kernel_rfl) (by kernel_rfl) (grew_drew _) ?_
            repeat (any_goals (first | (go_big_quiet_skip; refine wpQuiet_nil ?_) | (go_big_quiet_want; go_big_quiet_op; go_big_quiet_on; refine wpQuiet_nil ?_) | ((with_reducible apply q_split); exact rfl; intro q hq; cases q <;> (rw [hq]; (try first | replace hq := bnot_t hq | replace hq := bnot_f hq); (try first | replace hq := of_decide_eq_true hq | replace hq := of_decide_eq_false hq | replace hq := eq_of_beq hq); (try first | replace hq := Int.not_lt.1 hq | replace hq := Int.not_le.1 hq | replace hq := Nat.not_lt.1 hq | replace hq := Nat.not_le.1 hq); try (exfalso; omega))) | (refine plan_q rfl rfl ?_)))
            refine plan_e rfl ?_
            go_wp2_with fail
            refine (HC.out _ below_drew).mono ?_
            rintro e w5 ⟨rfl, hb_w5⟩
            have HW_w5 : Below wr.heap.size wr w5 := below_undrew hb_w5
            clear hb_w5
            go_wp2_with fail
            refine MixPost.intro (grew_of_below HW_w5) ?_
            repeat (any_goals (first | (go_big_quiet_skip; refine wpQuiet_nil ?_) | (go_big_quiet_want; go_big_quiet_op; go_big_quiet_on; refine wpQuiet_nil ?_) | ((with_reducible apply q_split); exact rfl; intro q hq; cases q <;> (rw [hq]; (try first | replace hq := bnot_t hq | replace hq := bnot_f hq); (try first | replace hq := of_decide_eq_true hq | replace hq := of_decide_eq_false hq | replace hq := eq_of_beq hq); (try first | replace hq := Int.not_lt.1 hq | replace hq := Int.not_le.1 hq | replace hq := Nat.not_lt.1 hq | replace hq := Nat.not_le.1 hq); try (exfalso; omega))) | (refine plan_q rfl rfl ?_)))
            clear y_e_0 y_e_1
            clear y_f_0 y_f_1
            all_goals refine plan_done ?_
            all_goals (try simp only [List.drop_succ_cons, List.drop_zero])
            all_goals (try go_wp2_with fail)
            all_goals refine NoPanic.normal ?_
            all_goals (try go_wp2_with fail)
            go_ret2
            exact ⟨ret_pair HP3.out, after0 HB_wq HW_w5⟩
          · have HP3 : Hid (p = chainGo ((bs.drop (k + 1)).map plainB) (trans ve m)) := by show _ = _; rw [HGO.out, hf]; rfl
            have HM2 := Lib.hid (HNX.out hf)
            rw [hf] at HC
            replace HC := Lib.hid (show ∀ W, Below wr.heap.size wr W → Calls Try.prog 17 #[.agg #[.int .i64 ta, .slice tb tc td], .agg #[.int .i64 va, .slice vb vc vd], .int .i64 m.sy] W (Ret W (.tuple #[.int .i64 (trans ve m).sy, .int .i64 0])) from HC.out)
            clear hf HTL HGO HNX
            generalize trans ve m = y at *
            generalize m.sy = q at *
            go_wp2_with fail
            have y_e_0 := cell_regrown e_0
            have y_e_1 := cell_regrown e_1
            clear e_0 e_1
            have y_f_0 := cell_regrown f_0
            have y_f_1 := cell_regrown f_1
            clear f_0 f_1
            refine wp_region_plan (C := fun w' => ∃ p : Regrown, w' = grow (redrawn wr p.d) p.os) (.q 0 (.q 1 (.q 2 (.q 3 (.q 4 (.q 5 (.q 6 (.q 7 (.q 8 (.q 9 (.e 10 (.q 11 (.q 12 (.q 13 (.q 14 (.q 15 (.done))))))))))))))))) 16 (by kernel_rfl) (by kernel_rfl) (grew_drew _) ?_
            repeat (any_goals (first | (go_big_quiet_skip; refine wpQuiet_nil ?_) | (go_big_quiet_want; go_big_quiet_op; go_big_quiet_on; refine wpQuiet_nil ?_) | ((with_reducible apply q_split); exact rfl; intro q hq; cases q <;> (rw [hq]; (try first | replace hq := bnot_t hq | replace hq := bnot_f hq); (try first | replace hq := of_decide_eq_true hq | replace hq := of_decide_eq_false hq | replace hq := eq_of_beq hq); (try first | replace hq := Int.not_lt.1 hq | replace hq := Int.not_le.1 hq | replace hq := Nat.not_lt.1 hq | replace hq := Nat.not_le.1 hq); try (exfalso; omega))) | (refine plan_q rfl rfl ?_)))
            refine plan_e rfl ?_
            go_wp2_with fail
            refine (HC.out _ below_drew).mono ?_
            rintro e w5 ⟨rfl, hb_w5⟩
            have HW_w5 : Below wr.heap.size wr w5 := below_undrew hb_w5
            clear hb_w5
            go_wp2_with fail
            refine MixPost.intro (grew_of_below HW_w5) ?_
            repeat (any_goals (first | (go_big_quiet_skip; refine wpQuiet_nil ?_) | (go_big_quiet_want; go_big_quiet_op; go_big_quiet_on; refine wpQuiet_nil ?_) | ((with_reducible apply q_split); exact rfl; intro q hq; cases q <;> (rw [hq]; (try first | replace hq := bnot_t hq | replace hq := bnot_f hq); (try first | replace hq := of_decide_eq_true hq | replace hq := of_decide_eq_false hq | replace hq := eq_of_beq hq); (try first | replace hq := Int.not_lt.1 hq | replace hq := Int.not_le.1 hq | replace hq := Nat.not_lt.1 hq | replace hq := Nat.not_le.1 hq); try (exfalso; omega))) | (refine plan_q rfl rfl ?_)))
            clear y_e_0 y_e_1
            clear y_f_0 y_f_1
            all_goals refine plan_done ?_
            all_goals (try simp only [List.drop_succ_cons, List.drop_zero])
            all_goals (try go_wp2_with fail)
            all_goals refine NoPanic.normal ?_
            all_goals (try go_wp2_with fail)
            go_roundw
            case rel => exact ⟨k + 1, y, by omega, by omega, by go_num, rfl, after0 HB_wq HW_w5, after0 HBQ.out HW_w5, HP3, ⟨by omega, by have := hbk.out; simp [this]; exact HM2.out⟩⟩
            case measure => simp [intOf]; omega
end Go.Proofs.Ytmnlkndbdcdngaa
