/-
  The reference functions of the layer 'reuse' (R35): Free, Take, Wait.
-/
import Derived.Test.YtpdecgbfnhaojaaGreatReuRC
import Derived.Test.YtpdecgbfnhaojaaGreatNumW
set_option linter.unusedVariables false
namespace Go.Proofs.YtpdecgbfnhaojaaGreat
open Go.RowKit Nb Sk Ck Ru Go.Sort

theorem most_step (f : Clk → Int) {l : List Clk} {k : Nat} (h : k < l.length) : mostOf ((l.take (k + 1)).map f) = max (mostOf ((l.take k).map f)) (f l[k]) := by
  rw [List.map_take, List.map_take, mostOf_step (by simpa using h)]
  simp
theorem clocks_all {l : List Clk} (h : clocksB l = true) : l.length ≤ 8 ∧ l.any (fun c => !okC c) = false ∧ ∀ c ∈ l, okC c = true := by
  unfold clocksB at h
  rw [Bool.and_eq_true, decide_eq_true_eq, List.all_eq_true] at h
  refine ⟨h.1, ?_, h.2⟩
  rw [List.any_eq_false]
  intro c hc
  rw [h.2 c hc]
  simp
theorem clocks_bad {l : List Clk} (h : clocksB l = false) : 8 < l.length ∨ l.any (fun c => !okC c) = true := by
  unfold clocksB at h
  rw [Bool.and_eq_false_iff] at h
  rcases h with h | h
  · left
    have := of_decide_eq_false h
    omega
  · right
    rw [List.all_eq_false] at h
    obtain ⟨c, hc, hn⟩ := h
    rw [List.any_eq_true]
    exact ⟨c, hc, by simpa using hn⟩


set_option maxRecDepth 100000 in
set_option maxHeartbeats 4000000 in
theorem rfree35_any (u k : Int) (ao : Option Addr) (n cap : Nat) (l : List Clk) (w : World) (hs : Sl w 4 cC ao n cap l) : Calls Tryz.prog 7 #[.int .i64 u, .int .i64 k, .slice ao n cap] w (Ret w (eI (freeF u k l))) := by
  obtain rfl := hs.len
  have hcap := hs.max
  have hle := hs.le
  unfold maxLen at hcap
  have HBAD := Lib.hid (@freeF_bad u k l)
  have HVAL := Lib.hid (@freeF_val u k l)
  have HK := Lib.hid (fun W => rkept_any u k W)
  have HS := Lib.hid hs
  have HB_w : Below w.heap.size w w := Below.refl _ _
  clear hs
  generalize freeF u k l = p at *
  go_enter Tryz.func7, Tryz.ntmps7
  go_wp2_with fail
  refine (HK.out _).mono ?_
  rintro e wa ⟨rfl, hb_wa⟩
  have HB_wa : Below w.heap.size w wa := by first | exact after0 HB_w hb_wa | exact after1 HB_w hb_wa | exact after2 HB_w hb_wa | exact after3 HB_w hb_wa | exact after4 HB_w hb_wa | exact after5 HB_w hb_wa
  replace HS := Lib.hid (show Sl wa _ _ _ _ _ _ by first | exact HS.out.below hb_wa | exact (HS.out.below (grew1 (Below.refl _ _))).below hb_wa | exact (HS.out.below (grew2 (Below.refl _ _))).below hb_wa | exact (HS.out.below (grew3 (Below.refl _ _))).below hb_wa)
  obtain ⟨v1, h1⟩ : ∃ v, kept u k = v := ⟨_, rfl⟩
  rw [h1]
  replace h1 := Lib.hid h1
  go_wp2_with fail
  refine (rclocks_any _ _ _ l _ HS.out).mono ?_
  rintro e wb ⟨rfl, hb_wb⟩
  have HB_wb : Below w.heap.size w wb := by first | exact after0 HB_wa hb_wb | exact after1 HB_wa hb_wb | exact after2 HB_wa hb_wb | exact after3 HB_wa hb_wb | exact after4 HB_wa hb_wb | exact after5 HB_wa hb_wb
  replace HS := Lib.hid (show Sl wb _ _ _ _ _ _ by first | exact HS.out.below hb_wb | exact (HS.out.below (grew1 (Below.refl _ _))).below hb_wb | exact (HS.out.below (grew2 (Below.refl _ _))).below hb_wb | exact (HS.out.below (grew3 (Below.refl _ _))).below hb_wb)
  obtain ⟨v2, h2⟩ : ∃ v, clocksB l = v := ⟨_, rfl⟩
  rw [h2]
  replace h2 := Lib.hid h2
  cases v1
  · have HP := Lib.hid (HBAD.out (.inl h1.out))
    clear h1 h2
    go_wp2_with fail
    go_ret2
    exact ⟨ret_pair HP.out, HB_wb⟩
  cases v2
  · have HP := Lib.hid (HBAD.out (.inr (clocks_bad h2.out)))
    clear h1 h2
    go_wp2_with fail
    go_ret2
    exact ⟨ret_pair HP.out, HB_wb⟩
  have hkp := kept_iff.1 h1.out
  obtain ⟨k1, k2, k3, k4⟩ := hkp
  have hca := clocks_all h2.out
  have HP := Lib.hid (HVAL.out h1.out hca.1 hca.2.1).2
  have HOK := Lib.hid hca.2.2
  clear h1 h2 hca HVAL HBAD HK
  obtain ⟨F, hF⟩ : ∃ F, (fun c => freeC c (u + k)) = F := ⟨_, rfl⟩
  rw [hF] at HP
  have HFF := Lib.hid (show ∀ c, F c = freeC c (u + k) from fun c => by rw [← hF])
  clear hF
  go_wp2_with fail
  go_loopw [10, 11] (fun o i wr => ∃ j : Nat, j ≤ l.length ∧ i = .int .i64 j ∧ o = .int .i64 (mostOf ((l.take j).map F)) ∧ Below wb.heap.size wb wr) (fun _ i _ => l.length - (intOf i).toNat)
  case atStart => exact ⟨0, by omega, rfl, rfl, Below.refl _ _⟩
  case round =>
    obtain ⟨j, hj, rfl, rfl, HB_wr⟩ := hrel
    by_cases hlt : j < l.length
    · obtain ⟨b, off, rfl, hb, hrow⟩ := HS.out.get hlt
      obtain ⟨e_0, e_1, e_2, e_3⟩ := ((hrow j hlt).below HB_wr hb).c4
      have HST := Lib.hid (most_step F hlt)
      have HC := Lib.hid (fun W => rlast_any l[j] (u + k) W (HOK.out _ (List.getElem_mem hlt)) (by omega) (by omega))
      obtain ⟨q, hq⟩ : ∃ q, freeC l[j] (u + k) - 1 = q := ⟨_, rfl⟩
      have hbd := freeC_bd l[j] (u + k)
      have hq2 : F l[j] = q + 1 := by rw [HFF.out, ← hq]; omega
      have hqb : -1 ≤ q ∧ q ≤ 10000000 := by omega
      obtain ⟨hqa, hqb⟩ := hqb
      rw [hq] at HC
      rw [hq2] at HST
      clear hrow hbd hq hq2
      generalize l[j] = c at *
      generalize mostOf ((l.take j).map F) = m at *
      obtain ⟨c0, c1, c2, c3⟩ := c
      dsimp only at e_0 e_1 e_2 e_3 HC
      rcases (by omega : m < q + 1 ∨ q + 1 < m ∨ m = q + 1) with hm | hm | hm
      · go_wp2_with fail
        refine (HC.out _).mono ?_
        rintro e w5 ⟨rfl, hb5⟩
        have HB_w5 := after0 HB_wr hb5
        clear hb5 e_0 e_1 e_2 e_3
        go_wp2_with fail
        all_goals try (exfalso; omega)
        go_roundw
        case rel => exact ⟨j + 1, by omega, by go_num, by rw [HST.out]; congr 1; omega, HB_w5⟩
        case measure => simp [intOf]; omega
      · go_wp2_with fail
        refine (HC.out _).mono ?_
        rintro e w5 ⟨rfl, hb5⟩
        have HB_w5 := after0 HB_wr hb5
        clear hb5 e_0 e_1 e_2 e_3
        go_wp2_with fail
        all_goals try (exfalso; omega)
        go_roundw
        case rel => exact ⟨j + 1, by omega, by go_num, by rw [HST.out]; congr 1; omega, HB_w5⟩
        case measure => simp [intOf]; omega
      · subst hm
        go_wp2_with fail
        refine (HC.out _).mono ?_
        rintro e w5 ⟨rfl, hb5⟩
        have HB_w5 := after0 HB_wr hb5
        clear hb5 e_0 e_1 e_2 e_3
        go_wp2_with fail
        all_goals try (exfalso; omega)
        go_roundw
        case rel => exact ⟨j + 1, by omega, by go_num, by rw [HST.out]; congr 1; omega, HB_w5⟩
        case measure => simp [intOf]; omega
    · obtain rfl : j = l.length := by omega
      rw [List.take_length]
      generalize mostOf (l.map F) = t at *
      by_cases h4 : 10000000 < t
      · have HP2 := Lib.hid (HP.out.trans (if_pos h4))
        go_wp2_with fail
        go_ret2
        exact ⟨ret_pair HP2.out, after0 HB_wb HB_wr⟩
      · have HP2 := Lib.hid (HP.out.trans (if_neg h4))
        replace h4 := Int.not_lt.1 h4
        go_wp2_with fail
        go_ret2
        exact ⟨ret_pair HP2.out, after0 HB_wb HB_wr⟩



set_option maxRecDepth 100000 in
set_option maxHeartbeats 4000000 in
theorem rtake35_any (ao : Option Addr) (n cap : Nat) (l : List Us) (st kd now u k : Int) (co : Option Addr) (cn cc : Nat) (cs : List Clk) (w : World) (hs : Sl w 5 cU ao n cap l) (hc : Sl w 4 cC co cn cc cs) :
    Calls Tryz.prog 11 #[.slice ao n cap, .int .i64 st, .int .i64 kd, .int .i64 now, .int .i64 u, .int .i64 k, .slice co cn cc] w (Took w (takeR l st kd now u k cs)) := by
  have HBAD := Lib.hid (@takeR_bad l st kd now u k cs)
  obtain ⟨⟨t, q⟩, hf⟩ : ∃ s, freeF u k cs = s := ⟨_, rfl⟩
  have HV := Lib.hid (fun h => @takeR_v l st kd now u k t q cs h hf)
  have HF := Lib.hid (fun W hW => (show Calls Tryz.prog 7 #[.int .i64 u, .int .i64 k, .slice co cn cc] W (Ret W (eI (t, q))) from by have := rfree35_any u k co cn cc cs W hW; rwa [hf] at this))
  have HT0 := Lib.hid (show q = 0 → 0 ≤ t ∧ t ≤ 10000000 from fun h => by subst h; have := free_ok hf; exact this.2.2.2.2)
  clear hf
  generalize takeR l st kd now u k cs = p at *
  obtain ⟨W0, hW0, HB_W0, hZ, hn⟩ := boxes1 w [.int .i64 0, .int .i64 0, .int .i64 0] 29
  have H_r := Lib.hid hn
  have HS := Lib.hid (hs.below HB_W0)
  have HCS := Lib.hid (hc.below HB_W0)
  clear hn hZ hs hc
  go_enter Tryz.func11, Tryz.ntmps11
  go_wp2_with fail
  refine (rasked35_any _ _ _ l _ _ _ _ HS.out).mono ?_
  rintro e wa ⟨rfl, hb_wa⟩
  have HB_wa : Below w.heap.size w wa := by first | exact after0 HB_W0 hb_wa | exact after1 HB_W0 hb_wa | exact after2 HB_W0 hb_wa | exact after3 HB_W0 hb_wa | exact after4 HB_W0 hb_wa | exact after5 HB_W0 hb_wa
  replace HS := Lib.hid (show Sl wa _ _ _ _ _ _ by first | exact HS.out.below hb_wa | exact (HS.out.below (grew1 (Below.refl _ _))).below hb_wa | exact (HS.out.below (grew2 (Below.refl _ _))).below hb_wa | exact (HS.out.below (grew3 (Below.refl _ _))).below hb_wa)
  replace HCS := Lib.hid (show Sl wa _ _ _ _ _ _ by first | exact HCS.out.below hb_wa | exact (HCS.out.below (grew1 (Below.refl _ _))).below hb_wa | exact (HCS.out.below (grew2 (Below.refl _ _))).below hb_wa | exact (HCS.out.below (grew3 (Below.refl _ _))).below hb_wa)
  replace H_r := Lib.hid (H_r.out.below hb_wa)
  clear hW0
  obtain ⟨v1, h1⟩ : ∃ v, askedR l st kd now = v := ⟨_, rfl⟩
  rw [h1]
  replace h1 := Lib.hid h1
  go_wp2_with fail
  refine (HF.out _ HCS.out).mono ?_
  rintro e wb ⟨rfl, hb_wb⟩
  have HB_wb : Below w.heap.size w wb := by first | exact after0 HB_wa hb_wb | exact after1 HB_wa hb_wb | exact after2 HB_wa hb_wb | exact after3 HB_wa hb_wb | exact after4 HB_wa hb_wb | exact after5 HB_wa hb_wb
  replace HS := Lib.hid (show Sl wb _ _ _ _ _ _ by first | exact HS.out.below hb_wb | exact (HS.out.below (grew1 (Below.refl _ _))).below hb_wb | exact (HS.out.below (grew2 (Below.refl _ _))).below hb_wb | exact (HS.out.below (grew3 (Below.refl _ _))).below hb_wb)
  replace HCS := Lib.hid (show Sl wb _ _ _ _ _ _ by first | exact HCS.out.below hb_wb | exact (HCS.out.below (grew1 (Below.refl _ _))).below hb_wb | exact (HCS.out.below (grew2 (Below.refl _ _))).below hb_wb | exact (HCS.out.below (grew3 (Below.refl _ _))).below hb_wb)
  replace H_r := Lib.hid (H_r.out.below hb_wb)
  cases v1
  · have HP := Lib.hid (HBAD.out h1.out)
    clear h1
    have f1 := H_r.out.frozen
    obtain ⟨q_r_0, q_r_1, q_r_2⟩ := H_r.out.c3
    go_wp2_with fail
    obtain ⟨s0, s1, s2⟩ := (((H_r.out.set 0 (.int .i64 0)).set 1 (.int .i64 0)).set 2 (.int .i64 0)).c3
    refine bodyPost_ret (v := .tuple #[.slice none 0 0, .agg #[.int .i64 0, .int .i64 0, .int .i64 0], .int .i64 1]) (by simp [results, Tryz.results11, go_sem, s0, s1, s2]) rfl ?_
    exact ⟨none, 0, 0, by rw [HP.out]; rfl, by rw [HP.out]; exact Sl.nil, by rw [HP.out]; exact World.ownsRow_nil _ _ _ _, ((HB_wb.setCell (p := ⟨w.heap.size, 0, none⟩) (by simp) _).setCell (p := ⟨w.heap.size, 1, none⟩) (by simp) _).setCell (p := ⟨w.heap.size, 2, none⟩) (by simp) _⟩
  have HP0 := Lib.hid (HV.out h1.out)
  have hnow := tm_iff.1 (askedR_iff.1 h1.out).2.2
  clear h1 HV HBAD
  by_cases hq1 : q = 1
  · have HP := Lib.hid (HP0.out.trans (if_pos (by omega)))
    subst hq1
    have f1 := H_r.out.frozen
    obtain ⟨q_r_0, q_r_1, q_r_2⟩ := H_r.out.c3
    go_wp2_with fail
    obtain ⟨s0, s1, s2⟩ := (((H_r.out.set 0 (.int .i64 0)).set 1 (.int .i64 0)).set 2 (.int .i64 0)).c3
    refine bodyPost_ret (v := .tuple #[.slice none 0 0, .agg #[.int .i64 0, .int .i64 0, .int .i64 0], .int .i64 1]) (by simp [results, Tryz.results11, go_sem, s0, s1, s2]) rfl ?_
    exact ⟨none, 0, 0, by rw [HP.out]; rfl, by rw [HP.out]; exact Sl.nil, by rw [HP.out]; exact World.ownsRow_nil _ _ _ _, ((HB_wb.setCell (p := ⟨w.heap.size, 0, none⟩) (by simp) _).setCell (p := ⟨w.heap.size, 1, none⟩) (by simp) _).setCell (p := ⟨w.heap.size, 2, none⟩) (by simp) _⟩
  have hq1' : (q == 1) = false := beq_eq_false_iff_ne.2 hq1
  clear hq1
  by_cases hq : q = 0
  case neg =>
    have HP := Lib.hid (HP0.out.trans (if_pos hq))
    have hq2 : (q != 0) = true := bne_iff_ne.2 hq
    clear hq
    have f1 := H_r.out.frozen
    obtain ⟨q_r_0, q_r_1, q_r_2⟩ := H_r.out.c3
    go_wp2_with fail
    obtain ⟨s0, s1, s2⟩ := (((H_r.out.set 0 (.int .i64 0)).set 1 (.int .i64 0)).set 2 (.int .i64 0)).c3
    refine bodyPost_ret (v := .tuple #[.slice none 0 0, .agg #[.int .i64 0, .int .i64 0, .int .i64 0], .int .i64 q]) (by simp [results, Tryz.results11, go_sem, s0, s1, s2]) rfl ?_
    exact ⟨none, 0, 0, by rw [HP.out]; rfl, by rw [HP.out]; exact Sl.nil, by rw [HP.out]; exact World.ownsRow_nil _ _ _ _, ((HB_wb.setCell (p := ⟨w.heap.size, 0, none⟩) (by simp) _).setCell (p := ⟨w.heap.size, 1, none⟩) (by simp) _).setCell (p := ⟨w.heap.size, 2, none⟩) (by simp) _⟩
  have hT0 := HT0.out hq
  subst hq
  have HP := Lib.hid (HP0.out.trans (if_neg (by simp)))
  obtain ⟨ht0, ht1⟩ := hT0
  obtain ⟨hn0, hn1⟩ := hnow
  clear HP0 HT0 HF HCS hq1'
  rcases (by omega : t < now + 1 ∨ now + 1 < t ∨ t = now + 1) with hm | hm | hm
  ·
    have HP9 := Lib.hid (show p = take l st kd now (now + 1) by rw [HP.out]; congr 1; omega)
    clear HP
    go_wp2_with fail
    all_goals try (exfalso; omega)
    refine (rtake_any _ _ _ l st kd now (now + 1) _ HS.out).mono ?_
    rintro e wd ⟨ao2, n2, cap2, rfl, hsl, ho, hb_wd⟩
    rw [← HP9.out] at hsl ho ⊢
    obtain ⟨l', ⟨x0, x1, x2⟩, q⟩ := p
    dsimp only at hsl ho ⊢
    have HB_wd : Below w.heap.size w wd := after0 HB_wb hb_wd
    have HLT := Lib.hid H_r.out.lt
    replace H_r := Lib.hid (H_r.out.below hb_wd)
    have HSL := Lib.hid hsl
    have HO := Lib.hid ho
    clear hsl ho hb_wd HP9
    have f1 := H_r.out.frozen
    obtain ⟨q_r_0, q_r_1, q_r_2⟩ := H_r.out.c3
    go_wp2_with fail
    obtain ⟨s0, s1, s2⟩ := (((H_r.out.set 0 (.int .i64 x0)).set 1 (.int .i64 x1)).set 2 (.int .i64 x2)).c3
    refine bodyPost_ret (v := .tuple #[.slice ao2 n2 cap2, .agg #[.int .i64 x0, .int .i64 x1, .int .i64 x2], .int .i64 q]) (by simp [results, Tryz.results11, go_sem, s0, s1, s2]) rfl ?_
    have ho3 := owns_setCell (owns_setCell (owns_setCell HO.out HLT.out (j := 0) (x := .int .i64 x0)) HLT.out (j := 1) (x := .int .i64 x1)) HLT.out (j := 2) (x := .int .i64 x2)
    obtain ⟨ao4, cap4, e4, hsl4, _⟩ := Sl.of_owns cU_len ho3 HSL.out.len
    simp only [Value.slice.injEq] at e4
    obtain ⟨rfl, _, rfl⟩ := e4
    exact ⟨ao2, n2, cap2, rfl, hsl4, owns_mono ho3 (Nat.le_of_lt HLT.out), ((HB_wd.setCell (p := ⟨w.heap.size, 0, none⟩) (by simp) _).setCell (p := ⟨w.heap.size, 1, none⟩) (by simp) _).setCell (p := ⟨w.heap.size, 2, none⟩) (by simp) _⟩
  ·
    have HP9 := Lib.hid (show p = take l st kd now (t) by rw [HP.out]; congr 1; omega)
    clear HP
    go_wp2_with fail
    all_goals try (exfalso; omega)
    refine (rtake_any _ _ _ l st kd now (t) _ HS.out).mono ?_
    rintro e wd ⟨ao2, n2, cap2, rfl, hsl, ho, hb_wd⟩
    rw [← HP9.out] at hsl ho ⊢
    obtain ⟨l', ⟨x0, x1, x2⟩, q⟩ := p
    dsimp only at hsl ho ⊢
    have HB_wd : Below w.heap.size w wd := after0 HB_wb hb_wd
    have HLT := Lib.hid H_r.out.lt
    replace H_r := Lib.hid (H_r.out.below hb_wd)
    have HSL := Lib.hid hsl
    have HO := Lib.hid ho
    clear hsl ho hb_wd HP9
    have f1 := H_r.out.frozen
    obtain ⟨q_r_0, q_r_1, q_r_2⟩ := H_r.out.c3
    go_wp2_with fail
    obtain ⟨s0, s1, s2⟩ := (((H_r.out.set 0 (.int .i64 x0)).set 1 (.int .i64 x1)).set 2 (.int .i64 x2)).c3
    refine bodyPost_ret (v := .tuple #[.slice ao2 n2 cap2, .agg #[.int .i64 x0, .int .i64 x1, .int .i64 x2], .int .i64 q]) (by simp [results, Tryz.results11, go_sem, s0, s1, s2]) rfl ?_
    have ho3 := owns_setCell (owns_setCell (owns_setCell HO.out HLT.out (j := 0) (x := .int .i64 x0)) HLT.out (j := 1) (x := .int .i64 x1)) HLT.out (j := 2) (x := .int .i64 x2)
    obtain ⟨ao4, cap4, e4, hsl4, _⟩ := Sl.of_owns cU_len ho3 HSL.out.len
    simp only [Value.slice.injEq] at e4
    obtain ⟨rfl, _, rfl⟩ := e4
    exact ⟨ao2, n2, cap2, rfl, hsl4, owns_mono ho3 (Nat.le_of_lt HLT.out), ((HB_wd.setCell (p := ⟨w.heap.size, 0, none⟩) (by simp) _).setCell (p := ⟨w.heap.size, 1, none⟩) (by simp) _).setCell (p := ⟨w.heap.size, 2, none⟩) (by simp) _⟩
  · subst hm
    have HP9 := Lib.hid (show p = take l st kd now (now + 1) by rw [HP.out]; congr 1; omega)
    clear HP
    go_wp2_with fail
    all_goals try (exfalso; omega)
    refine (rtake_any _ _ _ l st kd now (now + 1) _ HS.out).mono ?_
    rintro e wd ⟨ao2, n2, cap2, rfl, hsl, ho, hb_wd⟩
    rw [← HP9.out] at hsl ho ⊢
    obtain ⟨l', ⟨x0, x1, x2⟩, q⟩ := p
    dsimp only at hsl ho ⊢
    have HB_wd : Below w.heap.size w wd := after0 HB_wb hb_wd
    have HLT := Lib.hid H_r.out.lt
    replace H_r := Lib.hid (H_r.out.below hb_wd)
    have HSL := Lib.hid hsl
    have HO := Lib.hid ho
    clear hsl ho hb_wd HP9
    have f1 := H_r.out.frozen
    obtain ⟨q_r_0, q_r_1, q_r_2⟩ := H_r.out.c3
    go_wp2_with fail
    obtain ⟨s0, s1, s2⟩ := (((H_r.out.set 0 (.int .i64 x0)).set 1 (.int .i64 x1)).set 2 (.int .i64 x2)).c3
    refine bodyPost_ret (v := .tuple #[.slice ao2 n2 cap2, .agg #[.int .i64 x0, .int .i64 x1, .int .i64 x2], .int .i64 q]) (by simp [results, Tryz.results11, go_sem, s0, s1, s2]) rfl ?_
    have ho3 := owns_setCell (owns_setCell (owns_setCell HO.out HLT.out (j := 0) (x := .int .i64 x0)) HLT.out (j := 1) (x := .int .i64 x1)) HLT.out (j := 2) (x := .int .i64 x2)
    obtain ⟨ao4, cap4, e4, hsl4, _⟩ := Sl.of_owns cU_len ho3 HSL.out.len
    simp only [Value.slice.injEq] at e4
    obtain ⟨rfl, _, rfl⟩ := e4
    exact ⟨ao2, n2, cap2, rfl, hsl4, owns_mono ho3 (Nat.le_of_lt HLT.out), ((HB_wd.setCell (p := ⟨w.heap.size, 0, none⟩) (by simp) _).setCell (p := ⟨w.heap.size, 1, none⟩) (by simp) _).setCell (p := ⟨w.heap.size, 2, none⟩) (by simp) _⟩

theorem best_step {l : List Us} {st kd now : Int} {j : Nat} (h : j < l.length) : best (l.take (j + 1)) st kd now = if cov l[j] now && isOwn st kd l[j] then min (best (l.take j) st kd now) l[j].fe else best (l.take j) st kd now := by
  unfold best
  rw [List.take_add_one, List.getElem?_eq_getElem h, List.filter_append, List.foldl_append]
  cases hc : cov l[j] now && isOwn st kd l[j] <;> simp [hc]
theorem best_le (l : List Us) (st kd now : Int) : best l st kd now ≤ 10000000 := by
  unfold best
  have hg : ∀ (l : List Us) (m : Int), l.foldl (fun b u => min b u.fe) m ≤ m := by
    intro l
    induction l with
    | nil => intro m; exact Int.le_refl _
    | cons a l ih => intro m; rw [List.foldl_cons]; have := ih (min m a.fe); omega
  exact hg _ _
theorem wait_v {l : List Us} {st kd now x : Int} (ha : askedR l st kd now = true) (h : room l st kd now = (x, 0)) : waitR l st kd now = if 0 < x then (now, 0) else (best l st kd now, 0) := by
  unfold waitR
  rw [if_pos ha, h]
  dsimp only
  rw [if_neg (by simp)]


set_option maxRecDepth 100000 in
set_option maxHeartbeats 8000000 in
theorem rwait_any (ao : Option Addr) (n cap : Nat) (l : List Us) (st kd now : Int) (w : World) (hs : Sl w 5 cU ao n cap l) : Calls Tryz.prog 14 #[.slice ao n cap, .int .i64 st, .int .i64 kd, .int .i64 now] w (Ret w (eI (waitR l st kd now))) := by
  obtain rfl := hs.len
  have hcap := hs.max
  have hle := hs.le
  unfold maxLen at hcap
  have HS := Lib.hid hs
  have HB_w : Below w.heap.size w w := Below.refl _ _
  have HBAD := Lib.hid (@wait_bad l st kd now)
  have HERR := Lib.hid (@wait_err l st kd now)
  obtain ⟨⟨x, q⟩, hr⟩ : ∃ p, room l st kd now = p := ⟨_, rfl⟩
  have HV := Lib.hid (fun ha (h0 : q = 0) => @wait_v l st kd now x ha (by rw [hr, h0]))
  rw [hr] at HERR
  dsimp only at HERR
  have HRM := Lib.hid (fun W hW => (show Calls Tryz.prog 36 #[.slice ao l.length cap, .int .i64 st, .int .i64 kd, .int .i64 now] W (Ret W (eI (x, q))) from by have := rroom_any ao l.length cap l st kd now W hW; rwa [hr] at this))
  clear hs hr
  generalize waitR l st kd now = p at *
  go_enter Tryz.func14, Tryz.ntmps14
  go_wp2_with fail
  refine (rasked35_any _ _ _ l _ _ _ _ HS.out).mono ?_
  rintro e wa ⟨rfl, hb_wa⟩
  have HB_wa : Below w.heap.size w wa := by first | exact after0 HB_w hb_wa | exact after1 HB_w hb_wa | exact after2 HB_w hb_wa | exact after3 HB_w hb_wa | exact after4 HB_w hb_wa | exact after5 HB_w hb_wa
  replace HS := Lib.hid (show Sl wa _ _ _ _ _ _ by first | exact HS.out.below hb_wa | exact (HS.out.below (grew1 (Below.refl _ _))).below hb_wa | exact (HS.out.below (grew2 (Below.refl _ _))).below hb_wa | exact (HS.out.below (grew3 (Below.refl _ _))).below hb_wa)
  cases h1 : askedR l st kd now
  · have HP := Lib.hid (HBAD.out h1)
    clear h1
    go_wp2_with fail
    go_ret2
    exact ⟨ret_pair HP.out, HB_wa⟩
  replace HERR := Lib.hid (HERR.out h1)
  replace HV := Lib.hid (HV.out h1)
  clear h1 HBAD
  go_wp2_with fail
  refine (HRM.out _ HS.out).mono ?_
  rintro e wb ⟨rfl, hb_wb⟩
  have HB_wb : Below w.heap.size w wb := by first | exact after0 HB_wa hb_wb | exact after1 HB_wa hb_wb | exact after2 HB_wa hb_wb | exact after3 HB_wa hb_wb | exact after4 HB_wa hb_wb | exact after5 HB_wa hb_wb
  replace HS := Lib.hid (show Sl wb _ _ _ _ _ _ by first | exact HS.out.below hb_wb | exact (HS.out.below (grew1 (Below.refl _ _))).below hb_wb | exact (HS.out.below (grew2 (Below.refl _ _))).below hb_wb | exact (HS.out.below (grew3 (Below.refl _ _))).below hb_wb)
  by_cases hq : q = 0
  case neg =>
    have HP := Lib.hid (HERR.out hq)
    have hq1 : (q != 0) = true := bne_iff_ne.2 hq
    clear hq
    go_wp2_with fail
    go_ret2
    exact ⟨ret_pair HP.out, HB_wb⟩
  replace HV := Lib.hid (HV.out hq)
  subst hq
  clear HERR HRM
  by_cases hx : 0 < x
  · have HP := Lib.hid (HV.out.trans (if_pos hx))
    go_wp2_with fail
    go_ret2
    exact ⟨ret_pair HP.out, HB_wb⟩
  have HP := Lib.hid (HV.out.trans (if_neg hx))
  replace hx := Int.not_lt.1 hx
  clear HV
  go_wp2_with fail
  go_loopw [13, 14] (fun o i wr => ∃ j : Nat, j ≤ l.length ∧ i = .int .i64 j ∧ o = .int .i64 (best (l.take j) st kd now) ∧ Below wb.heap.size wb wr) (fun _ i _ => l.length - (intOf i).toNat)
  case atStart => exact ⟨0, by omega, rfl, rfl, Below.refl _ _⟩
  case round =>
    obtain ⟨j, hj, rfl, rfl, HB_wr⟩ := hrel
    by_cases hlt : j < l.length
    · obtain ⟨b, off, rfl, hb, hrow⟩ := HS.out.get hlt
      obtain ⟨e_0, e_1, e_2, e_3, e_4⟩ := ((hrow j hlt).below HB_wr hb).c5
      have HST := Lib.hid (best_step (st := st) (kd := kd) (now := now) hlt)
      have hrow' := Lib.hid (hrow j hlt)
      have hbl := Lib.hid hb
      clear hrow hb
      obtain ⟨m', hm'⟩ : ∃ y, best (l.take (j + 1)) st kd now = y := ⟨_, rfl⟩
      rw [hm'] at HST
      have HMP := Lib.hid hm'
      clear hm'
      generalize best (l.take j) st kd now = m at *
      generalize l[j] = us at *
      obtain ⟨⟨u0, u1, u2⟩, u3, u4⟩ := us
      dsimp only at e_0 e_1 e_2 e_3 e_4 HST
      have HCV := Lib.hid (show cov ⟨⟨u0, u1, u2⟩, u3, u4⟩ now = covI u3 u4 now from rfl)
      have HOW := Lib.hid (show isOwn st kd ⟨⟨u0, u1, u2⟩, u3, u4⟩ = (decide (u0 = st) && decide (u1 = kd)) by simp [isOwn])
      rw [HCV.out, HOW.out] at HST
      clear HCV HOW
      go_wp2_with fail
      refine (rcovers_any u0 u1 u2 u3 u4 now _).mono ?_
      rintro e w5 ⟨rfl, hb5⟩
      have HB_w5 := after0 HB_wr hb5
      clear e_0 e_1 e_2 e_3 e_4
      generalize covI u3 u4 now = cv at *
      cases cv
      · have HN := Lib.hid (show m' = m by rw [HST.out]; simp)
        go_wp2_with fail
        go_roundw
        case rel => exact ⟨j + 1, by omega, by go_num, by rw [HMP.out, HN.out], HB_w5⟩
        case measure => simp [intOf]; omega
      · obtain ⟨e_0, e_1, e_2, e_3, e_4⟩ := ((hrow'.out).below HB_w5 hbl.out).c5
        by_cases g1 : u0 = st
        case neg =>
          have HN := Lib.hid (show m' = m by rw [HST.out]; simp [g1])
          have g1' : (u0 == st) = false := beq_eq_false_iff_ne.2 g1
          clear g1
          go_wp2_with fail
          go_roundw
          case rel => exact ⟨j + 1, by omega, by go_num, by rw [HMP.out, HN.out], HB_w5⟩
          case measure => simp [intOf]; omega
        subst g1
        by_cases g2 : u1 = kd
        case neg =>
          have HN := Lib.hid (show m' = m by rw [HST.out]; simp [g2])
          have g2' : (u1 == kd) = false := beq_eq_false_iff_ne.2 g2
          clear g2
          go_wp2_with fail
          go_roundw
          case rel => exact ⟨j + 1, by omega, by go_num, by rw [HMP.out, HN.out], HB_w5⟩
          case measure => simp [intOf]; omega
        subst g2
        rcases (by omega : m < u4 ∨ u4 < m ∨ u4 = m) with hm | hm | hm
        · have HN := Lib.hid (show m' = m by rw [HST.out]; simp; omega)
          go_wp2_with fail
          go_roundw
          case rel => exact ⟨j + 1, by omega, by go_num, by rw [HMP.out, HN.out], HB_w5⟩
          case measure => simp [intOf]; omega
        · have HN := Lib.hid (show m' = u4 by rw [HST.out]; simp; omega)
          go_wp2_with fail
          go_roundw
          case rel => exact ⟨j + 1, by omega, by go_num, by rw [HMP.out, HN.out], HB_w5⟩
          case measure => simp [intOf]; omega
        · subst hm
          have HN := Lib.hid (show m' = u4 by rw [HST.out]; simp)
          go_wp2_with fail
          go_roundw
          case rel => exact ⟨j + 1, by omega, by go_num, by rw [HMP.out, HN.out], HB_w5⟩
          case measure => simp [intOf]; omega
    · obtain rfl : j = l.length := by omega
      rw [List.take_length]
      generalize best l st kd now = t at *
      go_wp2_with fail
      go_ret2
      exact ⟨ret_pair HP.out, after0 HB_wb HB_wr⟩
end Go.Proofs.YtpdecgbfnhaojaaGreat
