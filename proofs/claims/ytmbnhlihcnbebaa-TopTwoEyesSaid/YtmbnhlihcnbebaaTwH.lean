/-
  The law TopTwoEyes.
-/
import Derived.Test.YtmbnhlihcnbebaaTwF
import Derived.Test.YtmbnhlihcnbebaaEyRF
set_option linter.unusedVariables false
namespace Ey
theorem gt_yes {M : List Dg} {x : Int} {j : Nat} (hs : Sor M) (h : j < M.length) (h1 : M[j].id = x) : gt (M.take (j + 1)) x = M[j] := by
  have e : M.take (j + 1) = M.take j ++ [M[j]] := by rw [List.take_add_one, List.getElem?_eq_getElem h]; rfl
  have hn : fnd (M.take j) x = none := by
    unfold fnd
    rw [List.find?_eq_none]
    intro d hd
    obtain ⟨i, hi, rfl⟩ := List.getElem_of_mem hd
    rw [List.length_take] at hi
    rw [List.getElem_take]
    have := List.pairwise_iff_getElem.1 hs i j (by omega) h (by omega)
    simp; omega
  unfold gt; rw [e, fnd_snoc, hn, if_pos h1]; rfl
theorem gt_no {M : List Dg} {x : Int} {j : Nat} (h : j < M.length) (h1 : ¬ M[j].id = x) : gt (M.take (j + 1)) x = gt (M.take j) x := by
  have e : M.take (j + 1) = M.take j ++ [M[j]] := by rw [List.take_add_one, List.getElem?_eq_getElem h]; rfl
  unfold gt; rw [e, fnd_snoc, if_neg h1, Option.or_none]
/-- a danger that is told lies in the state -/
theorem told_in {M : List Dg} {x : Int} {b : Bx} (h : cor M x = some b) : ∃ i, ∃ hi : i < M.length, M[i].id = x ∧ M[i].told = true ∧ M[i].area = b := by
  obtain ⟨h1, h2⟩ := cor_some h
  rcases gt_cases M x with ⟨_, e⟩ | ⟨e1, e2, _⟩
  · rw [e] at h1; cases h1
  · obtain ⟨i, hi, e⟩ := List.getElem_of_mem e2
    exact ⟨i, hi, by rw [e]; exact e1, by rw [e]; exact h1, by rw [e]; exact h2⟩
end Ey
namespace Go.Proofs.Ytmbnhlihcnbebaa
open Go Go.RowKit Ey Sk Go.Sort
set_option maxRecDepth 100000 in
set_option maxHeartbeats 8000000 in
theorem two_eyes_walk (hko : KeysOk) (ao : Option Addr) (n cap : Nat) (l : List Ac) (x t t' : Int) (w : World) (hs : Sl w 8 cA ao n cap l) :
    Calls Try.prog 11 #[.slice ao n cap, .int .i64 x, .int .i64 t, .int .i64 t'] w (Ret w (.bool true)) := by
  obtain rfl := hs.len
  have hcap := hs.max
  have hle := hs.le
  unfold maxLen at hcap
  have HS := Lib.hid hs
  have HKO := Lib.hid hko
  have HB_w : Below w.heap.size w w := Below.refl _ _
  clear hs hko
  go_enter Try.func11, Try.ntmps11
  go_wp2_with fail
  refine (headT_any HKO.out _).mono ?_
  rintro e wa ⟨rfl, hb_wa⟩
  have HB_wa : Below w.heap.size w wa := by first | exact after0 HB_w hb_wa | exact after1 HB_w hb_wa | exact after2 HB_w hb_wa | exact after3 HB_w hb_wa | exact after4 HB_w hb_wa | exact after5 HB_w hb_wa
  by_cases h30 : 30 < l.length
  · have h30i : 30 < (l.length : Int) := by omega
    go_wp2_with fail
    all_goals try (exfalso; omega)
    go_ret
    exact ⟨rfl, HB_wa⟩
  have h30i : (l.length : Int) ≤ 30 := by omega
  have HV := Lib.hid (rvalid_any ao l.length cap l wa (HS.out.below HB_wa))
  obtain ⟨v, hv⟩ : ∃ v, validL l = v := ⟨_, rfl⟩
  rw [hv] at HV
  have HVL := Lib.hid hv
  clear hv
  go_wp2_with fail
  all_goals try (exfalso; omega)
  refine (HV.out).mono ?_
  rintro e wb ⟨rfl, hb_wb⟩
  have HB_wb : Below w.heap.size w wb := by first | exact after0 HB_wa hb_wb | exact after1 HB_wa hb_wb | exact after2 HB_wa hb_wb | exact after3 HB_wa hb_wb | exact after4 HB_wa hb_wb | exact after5 HB_wa hb_wb
  cases v
  ·
    go_wp2_with fail
    all_goals try (exfalso; omega)
    go_ret
    exact ⟨rfl, HB_wb⟩
  rcases Nat.eq_zero_or_pos l.length with h0 | h0
  · have h0i : (l.length : Int) ≤ 0 := by omega
    by_cases hx1 : x < 1
    ·
      go_wp2_with fail
      all_goals try (exfalso; omega)
      go_ret
      exact ⟨rfl, HB_wb⟩
    replace hx1 := Int.not_lt.1 hx1
    by_cases hx2 : 50 < x
    ·
      go_wp2_with fail
      all_goals try (exfalso; omega)
      go_ret
      exact ⟨rfl, HB_wb⟩
    replace hx2 := Int.not_lt.1 hx2
    by_cases ht7 : 10000000 ≤ t
    ·
      go_wp2_with fail
      all_goals try (exfalso; omega)
      go_ret
      exact ⟨rfl, HB_wb⟩
    replace ht7 := Int.not_le.1 ht7
    have HFIT := Lib.hid (show Fit l x from ⟨HVL.out, decide_eq_true ⟨hx1, hx2⟩, by omega, fun k hk => absurd hk (by omega)⟩)
    clear h0
    go_wp2_with fail
    all_goals try (exfalso; omega)
    have HRW := Lib.hid (rows_any HKO.out _ _ _ l x wb (HS.out.below HB_wb) HFIT.out)
    refine (HRW.out).mono ?_
    rintro e wc ⟨v1, rfl, ho, hb_wc⟩
    have HB_wc : Below w.heap.size w wc := by first | exact after0 HB_wb hb_wc | exact after1 HB_wb hb_wc | exact after2 HB_wb hb_wc | exact after3 HB_wb hb_wc | exact after4 HB_wb hb_wc | exact after5 HB_wb hb_wc
    have HVR := Lib.hid (HFIT.out.valid (Nat.le_refl _))
    have HJN := Lib.hid (fun ht => journal HFIT.out (t := t) ht ht7)
    have hjl := jR_len x l l.length
    have hx100 : 1 ≤ x ∧ x ≤ 100000 := ⟨hx1, by omega⟩
    generalize jR x l l.length = J at *
    obtain ⟨oj, cj, rfl, hsl⟩ := OwnL.sl cRw_len (show OwnL wc wb.heap.size 94 5 cRw v1 J from ho)
    have HSJ0 := Lib.hid hsl
    clear hsl ho HRW HV
    have HAT := Lib.hid (at_any HKO.out _ _ _ l t wc (HS.out.below HB_wc))
    by_cases ht0 : 0 ≤ t
    case neg =>
      rw [atR_bad (.inr (decide_eq_false (fun h => ht0 h.1)))] at HAT
      replace ht0 := Int.not_le.1 ht0
      go_wp2_with fail
      all_goals try (exfalso; omega)
      refine (HAT.out).mono ?_
      rintro e wd ⟨o2, n2, c2, rfl, hs2, hb_wd⟩
      have HB_wd : Below w.heap.size w wd := by first | exact after0 HB_wc hb_wd | exact after1 HB_wc hb_wd | exact after2 HB_wc hb_wd | exact after3 HB_wc hb_wd | exact after4 HB_wc hb_wd | exact after5 HB_wc hb_wd
      go_wp2_with fail
      all_goals try (exfalso; omega)
      go_ret
      exact ⟨rfl, HB_wd⟩
    have HT := Lib.hid (show timeB t = true from decide_eq_true ⟨ht0, by omega⟩)
    rw [atR_ok HVL.out HT.out] at HAT
    obtain ⟨hpick, hcase⟩ := HJN.out HT.out
    have HPK := Lib.hid hpick
    have hsor := (stS_sor (untilL l t)).1
    clear HJN hpick
    generalize (jR x l (untilL l t).length).getLast? = g at *
    have HEY := Lib.hid (fun W (hW : Below w.heap.size w W) => eyes_any _ _ _ l x t W (HS.out.below hW))
    generalize stS (untilL l t) = M at *
    go_wp2_with fail
    all_goals try (exfalso; omega)
    refine (HAT.out).mono ?_
    rintro e wd ⟨o2, n2, c2, rfl, hs2, hb_wd⟩
    have HB_wd : Below w.heap.size w wd := by first | exact after0 HB_wc hb_wd | exact after1 HB_wc hb_wd | exact after2 HB_wc hb_wd | exact after3 HB_wc hb_wd | exact after4 HB_wc hb_wd | exact after5 HB_wc hb_wd
    dsimp only at hs2 ⊢
    obtain rfl := hs2.len
    have hml := hs2.max
    have hmc := hs2.le
    unfold maxLen at hml
    have HSM0 := Lib.hid hs2
    have HSJ := Lib.hid (HSJ0.out.below hb_wd)
    have HSOR := Lib.hid hsor
    clear hs2 HAT hsor HSJ0
    have HB1 := Lib.hid (bat_any oj _ cj J x t t wd HSJ.out HVR.out hx100 HT.out HT.out)
    rw [HPK.out t (Int.le_refl _) ht7] at HB1
    rcases hcase with ⟨hc, hey, hg⟩ | ⟨b, p, q, r, j, hj, hc, hg, hv, hcj, hey, hne, h5, h6, h7⟩
    · have HC := Lib.hid hc
      rw [hey] at HEY
      dsimp only [eT] at HEY
      clear hc hey
      rcases hg with hg | ⟨r, hg, hv0⟩
      · have HGG := Lib.hid (show valR g = (0, 4) by rw [hg]; rfl)
        clear hg
        have HG := Lib.hid (show valR g = (0, 4) from HGG.out)
        clear HGG
        rw [HG.out] at HB1
        go_wp2_with fail
        refine (HB1.out).mono ?_
        rintro e we ⟨rfl, hb_we⟩
        have HB_we : Below w.heap.size w we := by first | exact after0 HB_wd hb_we | exact after1 HB_wd hb_we | exact after2 HB_wd hb_we | exact after3 HB_wd hb_we | exact after4 HB_wd hb_we | exact after5 HB_wd hb_we
        have HSM := Lib.hid (HSM0.out.below hb_we)
        obtain ⟨N, hN⟩ : ∃ N, we.heap.size = N := ⟨_, rfl⟩
        obtain ⟨W2, hW2, hB2, hZ2, hbn⟩ := boxes1 we [.int .i64 0, .bool false, .int .i64 0, .int .i64 0, .int .i64 0, .int .i64 0, .int .i64 0, .bool false, .int .i64 0, .int .i64 0, .int .i64 0, .int .i64 0] 33
        rw [hN] at hbn hZ2
        have H_N := Lib.hid hbn
        clear hbn
        go_wp2_with (refine wpList_store_box rfl 33 _ _ rfl N 33 _ [.int .i64 0, .bool false, .int .i64 0, .int .i64 0, .int .i64 0, .int .i64 0, .int .i64 0, .bool false, .int .i64 0, .int .i64 0, .int .i64 0, .int .i64 0] rfl rfl H_N.out info_dang rfl rfl ?_; intro W3 hb_W3 hl_W3 ho_W3 hz_W3)
        clear hW2
        have HBC3 : Below we.heap.size we W3 := hB2.trans (hl_W3 _ (by omega))
        have H_N3 := Lib.hid hb_W3
        clear hb_W3 hl_W3 ho_W3 hz_W3 H_N hB2
        try go_wp2_with fail
        go_loopw [118] (fun i wr2 => ∃ j : Nat, j ≤ M.length ∧ i = .int .i64 j ∧ Hid (Box wr2 N 33 (cD (gt (M.take j) x))) ∧ Hid (Below we.heap.size we wr2)) (fun i _ => M.length - (intOf i).toNat)
        case atStart => exact ⟨0, Nat.zero_le _, rfl, H_N3.out, HBC3⟩
        case round =>
          clear H_N3 HBC3
          obtain ⟨j', hj', rfl, H_N, HBC⟩ := hrel
          by_cases hjm : j' < M.length
          · obtain ⟨bm, offm, rfl, hbm, hrow⟩ := (HSM.out.below HBC.out).get hjm
            obtain ⟨e_0, e_1, e_2, e_3, e_4, e_5, e_6, e_7, e_8, e_9, e_10, e_11⟩ := (hrow j' hjm).c12
            have HY := Lib.hid (fun h1 => gt_yes (x := x) HSOR.out hjm h1)
            have HN := Lib.hid (fun h1 => gt_no (x := x) hjm h1)
            clear hrow
            generalize M[j'] = d at *
            obtain ⟨d0, told, ⟨d2, d3, d4, d5⟩, d6, drop, ⟨d8, d9, d10, d11⟩⟩ := d
            dsimp only at e_0 e_1 e_2 e_3 e_4 e_5 e_6 e_7 e_8 e_9 e_10 e_11 HY HN
            obtain ⟨Rd, hRd⟩ : ∃ Rd, wr.heap.size = Rd := ⟨_, rfl⟩
            obtain ⟨W4, hW4, hB4, hZ4, hbd⟩ := boxes1 wr [.int .i64 d0, .bool told, .int .i64 d2, .int .i64 d3, .int .i64 d4, .int .i64 d5, .int .i64 d6, .bool drop, .int .i64 d8, .int .i64 d9, .int .i64 d10, .int .i64 d11] 33
            rw [hRd] at hbd
            have H_N4 := Lib.hid (H_N.out.below hB4)
            have HBC4 := Lib.hid (HBC.out.trans (hB4.mono HBC.out.size))
            obtain ⟨f_0, f_1, f_2, f_3, f_4, f_5, f_6, f_7, f_8, f_9, f_10, f_11⟩ := hbd.c12
            clear H_N HBC hZ4 hbd hB4
            by_cases hdx : d0 = x
            case neg =>
              have HP := Lib.hid (HN.out hdx)
              have hdx2 : (d0 == x) = false := beq_eq_false_iff_ne.2 hdx
              clear HY HN hdx
              go_wp2_with fail
              all_goals try (exfalso; omega)
              go_roundw
              case rel => exact ⟨j' + 1, hjm, by go_num, by rw [HP.out]; exact H_N4.out, HBC4⟩
              case measure => simp [intOf] <;> omega
            subst hdx
            have HP := Lib.hid (HY.out rfl)
            clear HY HN
            go_wp2_with (refine wpList_store_box rfl 33 _ _ rfl N 33 _ [.int .i64 d0, .bool told, .int .i64 d2, .int .i64 d3, .int .i64 d4, .int .i64 d5, .int .i64 d6, .bool drop, .int .i64 d8, .int .i64 d9, .int .i64 d10, .int .i64 d11] rfl rfl H_N4.out info_dang rfl rfl ?_; intro W6 hb6 hl6 ho6 hz6)
            have H_N6 := Lib.hid hb6
            have HBC6 := Lib.hid (HBC4.out.trans (hl6 _ (Nat.le_of_eq hN)))
            clear hb6 hl6 ho6 hz6 H_N4 HBC4
            try go_wp2_with fail
            go_roundw
            case rel => exact ⟨j' + 1, hjm, by go_num, by rw [HP.out]; exact H_N6.out, HBC6⟩
            case measure => simp [intOf] <;> omega
          · obtain rfl : j' = M.length := by omega
            rw [List.take_length] at H_N
            have HB_wr : Below w.heap.size w wr := after0 HB_we HBC.out
            have HBDR := Lib.hid ((hb_we.trans (HBC.out.mono hb_we.size)))
            clear HBC HSM HSOR hjm hj' hN hZ2
            have HTF := Lib.hid (cor_none HC.out)
            generalize gt M x = d at *
            obtain ⟨d0, told, ⟨d2, d3, d4, d5⟩, d6, drop, ⟨d8, d9, d10, d11⟩⟩ := d
            obtain rfl : told = false := HTF.out
            obtain ⟨e_0, e_1, -⟩ := H_N.out.c12
            dsimp only at e_0 e_1
            have HE1 := Lib.hid (HEY.out wr HB_wr)
            go_wp2_with fail
            all_goals try (exfalso; omega)
            refine (HE1.out).mono ?_
            rintro e wf ⟨rfl, hb_wf⟩
            have HB_wf : Below w.heap.size w wf := by first | exact after0 HB_wr hb_wf | exact after1 HB_wr hb_wf | exact after2 HB_wr hb_wf | exact after3 HB_wr hb_wf | exact after4 HB_wr hb_wf | exact after5 HB_wr hb_wf
            replace H_N := Lib.hid (H_N.out.below hb_wf)
            clear e_0 e_1
            obtain ⟨e_0, e_1, -⟩ := H_N.out.c12
            dsimp only at e_0 e_1
            have HBDW := Lib.hid (HBDR.out.trans (hb_wf.mono HBDR.out.size))
            by_cases hl1 : t' < t
            ·
              go_wp2_with fail
              all_goals try (exfalso; omega)
              go_ret
              exact ⟨rfl, HB_wf⟩
            replace hl1 := Int.not_lt.1 hl1
            by_cases hl2 : 10000000 ≤ t'
            ·
              go_wp2_with fail
              all_goals try (exfalso; omega)
              go_ret
              exact ⟨rfl, HB_wf⟩
            replace hl2 := Int.not_le.1 hl2
            have HB2 := Lib.hid (bat_any oj _ cj J x t' t wf (HSJ.out.below HBDW.out) HVR.out hx100 (decide_eq_true ⟨by omega, by omega⟩) HT.out)
            rw [HPK.out t' hl1 hl2] at HB2
            rw [HG.out] at HB2
            go_wp2_with fail
            all_goals try (exfalso; omega)
            refine (HB2.out).mono ?_
            rintro e wg ⟨rfl, hb_wg⟩
            have HB_wg : Below w.heap.size w wg := by first | exact after0 HB_wf hb_wg | exact after1 HB_wf hb_wg | exact after2 HB_wf hb_wg | exact after3 HB_wf hb_wg | exact after4 HB_wf hb_wg | exact after5 HB_wf hb_wg
            go_wp2_with fail
            all_goals try (exfalso; omega)
            go_ret
            exact ⟨rfl, HB_wg⟩
      · have HGG := Lib.hid (show valR g = (0, 0) by rw [hg]; show (r.value, 0) = _; rw [hv0])
        clear hg hv0
        have HG := Lib.hid (show valR g = (0, 0) from HGG.out)
        clear HGG
        rw [HG.out] at HB1
        go_wp2_with fail
        refine (HB1.out).mono ?_
        rintro e we ⟨rfl, hb_we⟩
        have HB_we : Below w.heap.size w we := by first | exact after0 HB_wd hb_we | exact after1 HB_wd hb_we | exact after2 HB_wd hb_we | exact after3 HB_wd hb_we | exact after4 HB_wd hb_we | exact after5 HB_wd hb_we
        have HSM := Lib.hid (HSM0.out.below hb_we)
        obtain ⟨N, hN⟩ : ∃ N, we.heap.size = N := ⟨_, rfl⟩
        obtain ⟨W2, hW2, hB2, hZ2, hbn⟩ := boxes1 we [.int .i64 0, .bool false, .int .i64 0, .int .i64 0, .int .i64 0, .int .i64 0, .int .i64 0, .bool false, .int .i64 0, .int .i64 0, .int .i64 0, .int .i64 0] 33
        rw [hN] at hbn hZ2
        have H_N := Lib.hid hbn
        clear hbn
        go_wp2_with (refine wpList_store_box rfl 33 _ _ rfl N 33 _ [.int .i64 0, .bool false, .int .i64 0, .int .i64 0, .int .i64 0, .int .i64 0, .int .i64 0, .bool false, .int .i64 0, .int .i64 0, .int .i64 0, .int .i64 0] rfl rfl H_N.out info_dang rfl rfl ?_; intro W3 hb_W3 hl_W3 ho_W3 hz_W3)
        clear hW2
        have HBC3 : Below we.heap.size we W3 := hB2.trans (hl_W3 _ (by omega))
        have H_N3 := Lib.hid hb_W3
        clear hb_W3 hl_W3 ho_W3 hz_W3 H_N hB2
        try go_wp2_with fail
        go_loopw [118] (fun i wr2 => ∃ j : Nat, j ≤ M.length ∧ i = .int .i64 j ∧ Hid (Box wr2 N 33 (cD (gt (M.take j) x))) ∧ Hid (Below we.heap.size we wr2)) (fun i _ => M.length - (intOf i).toNat)
        case atStart => exact ⟨0, Nat.zero_le _, rfl, H_N3.out, HBC3⟩
        case round =>
          clear H_N3 HBC3
          obtain ⟨j', hj', rfl, H_N, HBC⟩ := hrel
          by_cases hjm : j' < M.length
          · obtain ⟨bm, offm, rfl, hbm, hrow⟩ := (HSM.out.below HBC.out).get hjm
            obtain ⟨e_0, e_1, e_2, e_3, e_4, e_5, e_6, e_7, e_8, e_9, e_10, e_11⟩ := (hrow j' hjm).c12
            have HY := Lib.hid (fun h1 => gt_yes (x := x) HSOR.out hjm h1)
            have HN := Lib.hid (fun h1 => gt_no (x := x) hjm h1)
            clear hrow
            generalize M[j'] = d at *
            obtain ⟨d0, told, ⟨d2, d3, d4, d5⟩, d6, drop, ⟨d8, d9, d10, d11⟩⟩ := d
            dsimp only at e_0 e_1 e_2 e_3 e_4 e_5 e_6 e_7 e_8 e_9 e_10 e_11 HY HN
            obtain ⟨Rd, hRd⟩ : ∃ Rd, wr.heap.size = Rd := ⟨_, rfl⟩
            obtain ⟨W4, hW4, hB4, hZ4, hbd⟩ := boxes1 wr [.int .i64 d0, .bool told, .int .i64 d2, .int .i64 d3, .int .i64 d4, .int .i64 d5, .int .i64 d6, .bool drop, .int .i64 d8, .int .i64 d9, .int .i64 d10, .int .i64 d11] 33
            rw [hRd] at hbd
            have H_N4 := Lib.hid (H_N.out.below hB4)
            have HBC4 := Lib.hid (HBC.out.trans (hB4.mono HBC.out.size))
            obtain ⟨f_0, f_1, f_2, f_3, f_4, f_5, f_6, f_7, f_8, f_9, f_10, f_11⟩ := hbd.c12
            clear H_N HBC hZ4 hbd hB4
            by_cases hdx : d0 = x
            case neg =>
              have HP := Lib.hid (HN.out hdx)
              have hdx2 : (d0 == x) = false := beq_eq_false_iff_ne.2 hdx
              clear HY HN hdx
              go_wp2_with fail
              all_goals try (exfalso; omega)
              go_roundw
              case rel => exact ⟨j' + 1, hjm, by go_num, by rw [HP.out]; exact H_N4.out, HBC4⟩
              case measure => simp [intOf] <;> omega
            subst hdx
            have HP := Lib.hid (HY.out rfl)
            clear HY HN
            go_wp2_with (refine wpList_store_box rfl 33 _ _ rfl N 33 _ [.int .i64 d0, .bool told, .int .i64 d2, .int .i64 d3, .int .i64 d4, .int .i64 d5, .int .i64 d6, .bool drop, .int .i64 d8, .int .i64 d9, .int .i64 d10, .int .i64 d11] rfl rfl H_N4.out info_dang rfl rfl ?_; intro W6 hb6 hl6 ho6 hz6)
            have H_N6 := Lib.hid hb6
            have HBC6 := Lib.hid (HBC4.out.trans (hl6 _ (Nat.le_of_eq hN)))
            clear hb6 hl6 ho6 hz6 H_N4 HBC4
            try go_wp2_with fail
            go_roundw
            case rel => exact ⟨j' + 1, hjm, by go_num, by rw [HP.out]; exact H_N6.out, HBC6⟩
            case measure => simp [intOf] <;> omega
          · obtain rfl : j' = M.length := by omega
            rw [List.take_length] at H_N
            have HB_wr : Below w.heap.size w wr := after0 HB_we HBC.out
            have HBDR := Lib.hid ((hb_we.trans (HBC.out.mono hb_we.size)))
            clear HBC HSM HSOR hjm hj' hN hZ2
            have HTF := Lib.hid (cor_none HC.out)
            generalize gt M x = d at *
            obtain ⟨d0, told, ⟨d2, d3, d4, d5⟩, d6, drop, ⟨d8, d9, d10, d11⟩⟩ := d
            obtain rfl : told = false := HTF.out
            obtain ⟨e_0, e_1, -⟩ := H_N.out.c12
            dsimp only at e_0 e_1
            have HE1 := Lib.hid (HEY.out wr HB_wr)
            go_wp2_with fail
            all_goals try (exfalso; omega)
            refine (HE1.out).mono ?_
            rintro e wf ⟨rfl, hb_wf⟩
            have HB_wf : Below w.heap.size w wf := by first | exact after0 HB_wr hb_wf | exact after1 HB_wr hb_wf | exact after2 HB_wr hb_wf | exact after3 HB_wr hb_wf | exact after4 HB_wr hb_wf | exact after5 HB_wr hb_wf
            replace H_N := Lib.hid (H_N.out.below hb_wf)
            clear e_0 e_1
            obtain ⟨e_0, e_1, -⟩ := H_N.out.c12
            dsimp only at e_0 e_1
            have HBDW := Lib.hid (HBDR.out.trans (hb_wf.mono HBDR.out.size))
            by_cases hl1 : t' < t
            ·
              go_wp2_with fail
              all_goals try (exfalso; omega)
              go_ret
              exact ⟨rfl, HB_wf⟩
            replace hl1 := Int.not_lt.1 hl1
            by_cases hl2 : 10000000 ≤ t'
            ·
              go_wp2_with fail
              all_goals try (exfalso; omega)
              go_ret
              exact ⟨rfl, HB_wf⟩
            replace hl2 := Int.not_le.1 hl2
            have HB2 := Lib.hid (bat_any oj _ cj J x t' t wf (HSJ.out.below HBDW.out) HVR.out hx100 (decide_eq_true ⟨by omega, by omega⟩) HT.out)
            rw [HPK.out t' hl1 hl2] at HB2
            rw [HG.out] at HB2
            go_wp2_with fail
            all_goals try (exfalso; omega)
            refine (HB2.out).mono ?_
            rintro e wg ⟨rfl, hb_wg⟩
            have HB_wg : Below w.heap.size w wg := by first | exact after0 HB_wf hb_wg | exact after1 HB_wf hb_wg | exact after2 HB_wf hb_wg | exact after3 HB_wf hb_wg | exact after4 HB_wf hb_wg | exact after5 HB_wf hb_wg
            go_wp2_with fail
            all_goals try (exfalso; omega)
            go_ret
            exact ⟨rfl, HB_wg⟩
    · have HGG := Lib.hid (show valR g = ((j : Int) + 1, 0) by rw [hg]; show (r.value, 0) = _; rw [hv])
      have HC := Lib.hid hc
      have HCJ := Lib.hid hcj
      have H5 := Lib.hid h5
      have H6 := Lib.hid h6
      have H7 := Lib.hid h7
      have hne2 : (p != q) = true := bne_iff_ne.2 hne
      rw [hey] at HEY
      dsimp only [eT] at HEY
      clear hc hey hg hv hcj h5 h6 h7 hne
      exact absurd hj (by omega)
  · obtain ⟨k, hk⟩ : ∃ k, l.length = k + 1 := ⟨l.length - 1, by omega⟩
    have hkl : k < l.length := by omega
    obtain ⟨b', off, e', hb, hrow⟩ := (HS.out.below HB_wb).get hkl
    obtain ⟨-, -, -, e_3, -⟩ := (hrow k hkl).c8
    have hix : (l.length : Int) - 1 = (k : Int) := by omega
    have h0i : 0 < (l.length : Int) := by omega
    clear hrow hk
    by_cases hlt : 10000000 ≤ l[k].time
    · subst e'
      generalize l[k].time = tk at *
      go_wp2_with fail
      all_goals try (exfalso; omega)
      go_ret
      exact ⟨rfl, HB_wb⟩
    have HFT := Lib.hid (show ∀ i (h : i < l.length), l[i].time < 10000000 from fun i h => by
      have h1 := Int.not_le.1 hlt
      by_cases hik : i = k
      · subst hik; exact h1
      · have := List.pairwise_iff_getElem.1 (validL_iff.1 HVL.out).2.2 i k h hkl (by omega)
        omega)
    replace hlt := Int.not_le.1 hlt
    generalize l[k].time = tk at *
    subst e'
    by_cases hx1 : x < 1
    ·
      go_wp2_with fail
      all_goals try (exfalso; omega)
      go_ret
      exact ⟨rfl, HB_wb⟩
    replace hx1 := Int.not_lt.1 hx1
    by_cases hx2 : 50 < x
    ·
      go_wp2_with fail
      all_goals try (exfalso; omega)
      go_ret
      exact ⟨rfl, HB_wb⟩
    replace hx2 := Int.not_lt.1 hx2
    by_cases ht7 : 10000000 ≤ t
    ·
      go_wp2_with fail
      all_goals try (exfalso; omega)
      go_ret
      exact ⟨rfl, HB_wb⟩
    replace ht7 := Int.not_le.1 ht7
    have HFIT := Lib.hid (show Fit l x from ⟨HVL.out, decide_eq_true ⟨hx1, hx2⟩, by omega, HFT.out⟩)
    clear hb h0
    go_wp2_with fail
    all_goals try (exfalso; omega)
    have HRW := Lib.hid (rows_any HKO.out _ _ _ l x wb (HS.out.below HB_wb) HFIT.out)
    refine (HRW.out).mono ?_
    rintro e wc ⟨v1, rfl, ho, hb_wc⟩
    have HB_wc : Below w.heap.size w wc := by first | exact after0 HB_wb hb_wc | exact after1 HB_wb hb_wc | exact after2 HB_wb hb_wc | exact after3 HB_wb hb_wc | exact after4 HB_wb hb_wc | exact after5 HB_wb hb_wc
    have HVR := Lib.hid (HFIT.out.valid (Nat.le_refl _))
    have HJN := Lib.hid (fun ht => journal HFIT.out (t := t) ht ht7)
    have hjl := jR_len x l l.length
    have hx100 : 1 ≤ x ∧ x ≤ 100000 := ⟨hx1, by omega⟩
    generalize jR x l l.length = J at *
    obtain ⟨oj, cj, rfl, hsl⟩ := OwnL.sl cRw_len (show OwnL wc wb.heap.size 94 5 cRw v1 J from ho)
    have HSJ0 := Lib.hid hsl
    clear hsl ho HRW HV
    have HAT := Lib.hid (at_any HKO.out _ _ _ l t wc (HS.out.below HB_wc))
    by_cases ht0 : 0 ≤ t
    case neg =>
      rw [atR_bad (.inr (decide_eq_false (fun h => ht0 h.1)))] at HAT
      replace ht0 := Int.not_le.1 ht0
      go_wp2_with fail
      all_goals try (exfalso; omega)
      refine (HAT.out).mono ?_
      rintro e wd ⟨o2, n2, c2, rfl, hs2, hb_wd⟩
      have HB_wd : Below w.heap.size w wd := by first | exact after0 HB_wc hb_wd | exact after1 HB_wc hb_wd | exact after2 HB_wc hb_wd | exact after3 HB_wc hb_wd | exact after4 HB_wc hb_wd | exact after5 HB_wc hb_wd
      go_wp2_with fail
      all_goals try (exfalso; omega)
      go_ret
      exact ⟨rfl, HB_wd⟩
    have HT := Lib.hid (show timeB t = true from decide_eq_true ⟨ht0, by omega⟩)
    rw [atR_ok HVL.out HT.out] at HAT
    obtain ⟨hpick, hcase⟩ := HJN.out HT.out
    have HPK := Lib.hid hpick
    have hsor := (stS_sor (untilL l t)).1
    clear HJN hpick
    generalize (jR x l (untilL l t).length).getLast? = g at *
    have HEY := Lib.hid (fun W (hW : Below w.heap.size w W) => eyes_any _ _ _ l x t W (HS.out.below hW))
    generalize stS (untilL l t) = M at *
    go_wp2_with fail
    all_goals try (exfalso; omega)
    refine (HAT.out).mono ?_
    rintro e wd ⟨o2, n2, c2, rfl, hs2, hb_wd⟩
    have HB_wd : Below w.heap.size w wd := by first | exact after0 HB_wc hb_wd | exact after1 HB_wc hb_wd | exact after2 HB_wc hb_wd | exact after3 HB_wc hb_wd | exact after4 HB_wc hb_wd | exact after5 HB_wc hb_wd
    dsimp only at hs2 ⊢
    obtain rfl := hs2.len
    have hml := hs2.max
    have hmc := hs2.le
    unfold maxLen at hml
    have HSM0 := Lib.hid hs2
    have HSJ := Lib.hid (HSJ0.out.below hb_wd)
    have HSOR := Lib.hid hsor
    clear hs2 HAT hsor HSJ0
    have HB1 := Lib.hid (bat_any oj _ cj J x t t wd HSJ.out HVR.out hx100 HT.out HT.out)
    rw [HPK.out t (Int.le_refl _) ht7] at HB1
    rcases hcase with ⟨hc, hey, hg⟩ | ⟨b, p, q, r, j, hj, hc, hg, hv, hcj, hey, hne, h5, h6, h7⟩
    · have HC := Lib.hid hc
      rw [hey] at HEY
      dsimp only [eT] at HEY
      clear hc hey
      rcases hg with hg | ⟨r, hg, hv0⟩
      · have HGG := Lib.hid (show valR g = (0, 4) by rw [hg]; rfl)
        clear hg
        have HG := Lib.hid (show valR g = (0, 4) from HGG.out)
        clear HGG
        rw [HG.out] at HB1
        go_wp2_with fail
        refine (HB1.out).mono ?_
        rintro e we ⟨rfl, hb_we⟩
        have HB_we : Below w.heap.size w we := by first | exact after0 HB_wd hb_we | exact after1 HB_wd hb_we | exact after2 HB_wd hb_we | exact after3 HB_wd hb_we | exact after4 HB_wd hb_we | exact after5 HB_wd hb_we
        have HSM := Lib.hid (HSM0.out.below hb_we)
        obtain ⟨N, hN⟩ : ∃ N, we.heap.size = N := ⟨_, rfl⟩
        obtain ⟨W2, hW2, hB2, hZ2, hbn⟩ := boxes1 we [.int .i64 0, .bool false, .int .i64 0, .int .i64 0, .int .i64 0, .int .i64 0, .int .i64 0, .bool false, .int .i64 0, .int .i64 0, .int .i64 0, .int .i64 0] 33
        rw [hN] at hbn hZ2
        have H_N := Lib.hid hbn
        clear hbn
        go_wp2_with (refine wpList_store_box rfl 33 _ _ rfl N 33 _ [.int .i64 0, .bool false, .int .i64 0, .int .i64 0, .int .i64 0, .int .i64 0, .int .i64 0, .bool false, .int .i64 0, .int .i64 0, .int .i64 0, .int .i64 0] rfl rfl H_N.out info_dang rfl rfl ?_; intro W3 hb_W3 hl_W3 ho_W3 hz_W3)
        clear hW2
        have HBC3 : Below we.heap.size we W3 := hB2.trans (hl_W3 _ (by omega))
        have H_N3 := Lib.hid hb_W3
        clear hb_W3 hl_W3 ho_W3 hz_W3 H_N hB2
        try go_wp2_with fail
        go_loopw [118] (fun i wr2 => ∃ j : Nat, j ≤ M.length ∧ i = .int .i64 j ∧ Hid (Box wr2 N 33 (cD (gt (M.take j) x))) ∧ Hid (Below we.heap.size we wr2)) (fun i _ => M.length - (intOf i).toNat)
        case atStart => exact ⟨0, Nat.zero_le _, rfl, H_N3.out, HBC3⟩
        case round =>
          clear H_N3 HBC3
          obtain ⟨j', hj', rfl, H_N, HBC⟩ := hrel
          by_cases hjm : j' < M.length
          · obtain ⟨bm, offm, rfl, hbm, hrow⟩ := (HSM.out.below HBC.out).get hjm
            obtain ⟨e_0, e_1, e_2, e_3, e_4, e_5, e_6, e_7, e_8, e_9, e_10, e_11⟩ := (hrow j' hjm).c12
            have HY := Lib.hid (fun h1 => gt_yes (x := x) HSOR.out hjm h1)
            have HN := Lib.hid (fun h1 => gt_no (x := x) hjm h1)
            clear hrow
            generalize M[j'] = d at *
            obtain ⟨d0, told, ⟨d2, d3, d4, d5⟩, d6, drop, ⟨d8, d9, d10, d11⟩⟩ := d
            dsimp only at e_0 e_1 e_2 e_3 e_4 e_5 e_6 e_7 e_8 e_9 e_10 e_11 HY HN
            obtain ⟨Rd, hRd⟩ : ∃ Rd, wr.heap.size = Rd := ⟨_, rfl⟩
            obtain ⟨W4, hW4, hB4, hZ4, hbd⟩ := boxes1 wr [.int .i64 d0, .bool told, .int .i64 d2, .int .i64 d3, .int .i64 d4, .int .i64 d5, .int .i64 d6, .bool drop, .int .i64 d8, .int .i64 d9, .int .i64 d10, .int .i64 d11] 33
            rw [hRd] at hbd
            have H_N4 := Lib.hid (H_N.out.below hB4)
            have HBC4 := Lib.hid (HBC.out.trans (hB4.mono HBC.out.size))
            obtain ⟨f_0, f_1, f_2, f_3, f_4, f_5, f_6, f_7, f_8, f_9, f_10, f_11⟩ := hbd.c12
            clear H_N HBC hZ4 hbd hB4
            by_cases hdx : d0 = x
            case neg =>
              have HP := Lib.hid (HN.out hdx)
              have hdx2 : (d0 == x) = false := beq_eq_false_iff_ne.2 hdx
              clear HY HN hdx
              go_wp2_with fail
              all_goals try (exfalso; omega)
              go_roundw
              case rel => exact ⟨j' + 1, hjm, by go_num, by rw [HP.out]; exact H_N4.out, HBC4⟩
              case measure => simp [intOf] <;> omega
            subst hdx
            have HP := Lib.hid (HY.out rfl)
            clear HY HN
            go_wp2_with (refine wpList_store_box rfl 33 _ _ rfl N 33 _ [.int .i64 d0, .bool told, .int .i64 d2, .int .i64 d3, .int .i64 d4, .int .i64 d5, .int .i64 d6, .bool drop, .int .i64 d8, .int .i64 d9, .int .i64 d10, .int .i64 d11] rfl rfl H_N4.out info_dang rfl rfl ?_; intro W6 hb6 hl6 ho6 hz6)
            have H_N6 := Lib.hid hb6
            have HBC6 := Lib.hid (HBC4.out.trans (hl6 _ (Nat.le_of_eq hN)))
            clear hb6 hl6 ho6 hz6 H_N4 HBC4
            try go_wp2_with fail
            go_roundw
            case rel => exact ⟨j' + 1, hjm, by go_num, by rw [HP.out]; exact H_N6.out, HBC6⟩
            case measure => simp [intOf] <;> omega
          · obtain rfl : j' = M.length := by omega
            rw [List.take_length] at H_N
            have HB_wr : Below w.heap.size w wr := after0 HB_we HBC.out
            have HBDR := Lib.hid ((hb_we.trans (HBC.out.mono hb_we.size)))
            clear HBC HSM HSOR hjm hj' hN hZ2
            have HTF := Lib.hid (cor_none HC.out)
            generalize gt M x = d at *
            obtain ⟨d0, told, ⟨d2, d3, d4, d5⟩, d6, drop, ⟨d8, d9, d10, d11⟩⟩ := d
            obtain rfl : told = false := HTF.out
            obtain ⟨e_0, e_1, -⟩ := H_N.out.c12
            dsimp only at e_0 e_1
            have HE1 := Lib.hid (HEY.out wr HB_wr)
            go_wp2_with fail
            all_goals try (exfalso; omega)
            refine (HE1.out).mono ?_
            rintro e wf ⟨rfl, hb_wf⟩
            have HB_wf : Below w.heap.size w wf := by first | exact after0 HB_wr hb_wf | exact after1 HB_wr hb_wf | exact after2 HB_wr hb_wf | exact after3 HB_wr hb_wf | exact after4 HB_wr hb_wf | exact after5 HB_wr hb_wf
            replace H_N := Lib.hid (H_N.out.below hb_wf)
            clear e_0 e_1
            obtain ⟨e_0, e_1, -⟩ := H_N.out.c12
            dsimp only at e_0 e_1
            have HBDW := Lib.hid (HBDR.out.trans (hb_wf.mono HBDR.out.size))
            by_cases hl1 : t' < t
            ·
              go_wp2_with fail
              all_goals try (exfalso; omega)
              go_ret
              exact ⟨rfl, HB_wf⟩
            replace hl1 := Int.not_lt.1 hl1
            by_cases hl2 : 10000000 ≤ t'
            ·
              go_wp2_with fail
              all_goals try (exfalso; omega)
              go_ret
              exact ⟨rfl, HB_wf⟩
            replace hl2 := Int.not_le.1 hl2
            have HB2 := Lib.hid (bat_any oj _ cj J x t' t wf (HSJ.out.below HBDW.out) HVR.out hx100 (decide_eq_true ⟨by omega, by omega⟩) HT.out)
            rw [HPK.out t' hl1 hl2] at HB2
            rw [HG.out] at HB2
            go_wp2_with fail
            all_goals try (exfalso; omega)
            refine (HB2.out).mono ?_
            rintro e wg ⟨rfl, hb_wg⟩
            have HB_wg : Below w.heap.size w wg := by first | exact after0 HB_wf hb_wg | exact after1 HB_wf hb_wg | exact after2 HB_wf hb_wg | exact after3 HB_wf hb_wg | exact after4 HB_wf hb_wg | exact after5 HB_wf hb_wg
            go_wp2_with fail
            all_goals try (exfalso; omega)
            go_ret
            exact ⟨rfl, HB_wg⟩
      · have HGG := Lib.hid (show valR g = (0, 0) by rw [hg]; show (r.value, 0) = _; rw [hv0])
        clear hg hv0
        have HG := Lib.hid (show valR g = (0, 0) from HGG.out)
        clear HGG
        rw [HG.out] at HB1
        go_wp2_with fail
        refine (HB1.out).mono ?_
        rintro e we ⟨rfl, hb_we⟩
        have HB_we : Below w.heap.size w we := by first | exact after0 HB_wd hb_we | exact after1 HB_wd hb_we | exact after2 HB_wd hb_we | exact after3 HB_wd hb_we | exact after4 HB_wd hb_we | exact after5 HB_wd hb_we
        have HSM := Lib.hid (HSM0.out.below hb_we)
        obtain ⟨N, hN⟩ : ∃ N, we.heap.size = N := ⟨_, rfl⟩
        obtain ⟨W2, hW2, hB2, hZ2, hbn⟩ := boxes1 we [.int .i64 0, .bool false, .int .i64 0, .int .i64 0, .int .i64 0, .int .i64 0, .int .i64 0, .bool false, .int .i64 0, .int .i64 0, .int .i64 0, .int .i64 0] 33
        rw [hN] at hbn hZ2
        have H_N := Lib.hid hbn
        clear hbn
        go_wp2_with (refine wpList_store_box rfl 33 _ _ rfl N 33 _ [.int .i64 0, .bool false, .int .i64 0, .int .i64 0, .int .i64 0, .int .i64 0, .int .i64 0, .bool false, .int .i64 0, .int .i64 0, .int .i64 0, .int .i64 0] rfl rfl H_N.out info_dang rfl rfl ?_; intro W3 hb_W3 hl_W3 ho_W3 hz_W3)
        clear hW2
        have HBC3 : Below we.heap.size we W3 := hB2.trans (hl_W3 _ (by omega))
        have H_N3 := Lib.hid hb_W3
        clear hb_W3 hl_W3 ho_W3 hz_W3 H_N hB2
        try go_wp2_with fail
        go_loopw [118] (fun i wr2 => ∃ j : Nat, j ≤ M.length ∧ i = .int .i64 j ∧ Hid (Box wr2 N 33 (cD (gt (M.take j) x))) ∧ Hid (Below we.heap.size we wr2)) (fun i _ => M.length - (intOf i).toNat)
        case atStart => exact ⟨0, Nat.zero_le _, rfl, H_N3.out, HBC3⟩
        case round =>
          clear H_N3 HBC3
          obtain ⟨j', hj', rfl, H_N, HBC⟩ := hrel
          by_cases hjm : j' < M.length
          · obtain ⟨bm, offm, rfl, hbm, hrow⟩ := (HSM.out.below HBC.out).get hjm
            obtain ⟨e_0, e_1, e_2, e_3, e_4, e_5, e_6, e_7, e_8, e_9, e_10, e_11⟩ := (hrow j' hjm).c12
            have HY := Lib.hid (fun h1 => gt_yes (x := x) HSOR.out hjm h1)
            have HN := Lib.hid (fun h1 => gt_no (x := x) hjm h1)
            clear hrow
            generalize M[j'] = d at *
            obtain ⟨d0, told, ⟨d2, d3, d4, d5⟩, d6, drop, ⟨d8, d9, d10, d11⟩⟩ := d
            dsimp only at e_0 e_1 e_2 e_3 e_4 e_5 e_6 e_7 e_8 e_9 e_10 e_11 HY HN
            obtain ⟨Rd, hRd⟩ : ∃ Rd, wr.heap.size = Rd := ⟨_, rfl⟩
            obtain ⟨W4, hW4, hB4, hZ4, hbd⟩ := boxes1 wr [.int .i64 d0, .bool told, .int .i64 d2, .int .i64 d3, .int .i64 d4, .int .i64 d5, .int .i64 d6, .bool drop, .int .i64 d8, .int .i64 d9, .int .i64 d10, .int .i64 d11] 33
            rw [hRd] at hbd
            have H_N4 := Lib.hid (H_N.out.below hB4)
            have HBC4 := Lib.hid (HBC.out.trans (hB4.mono HBC.out.size))
            obtain ⟨f_0, f_1, f_2, f_3, f_4, f_5, f_6, f_7, f_8, f_9, f_10, f_11⟩ := hbd.c12
            clear H_N HBC hZ4 hbd hB4
            by_cases hdx : d0 = x
            case neg =>
              have HP := Lib.hid (HN.out hdx)
              have hdx2 : (d0 == x) = false := beq_eq_false_iff_ne.2 hdx
              clear HY HN hdx
              go_wp2_with fail
              all_goals try (exfalso; omega)
              go_roundw
              case rel => exact ⟨j' + 1, hjm, by go_num, by rw [HP.out]; exact H_N4.out, HBC4⟩
              case measure => simp [intOf] <;> omega
            subst hdx
            have HP := Lib.hid (HY.out rfl)
            clear HY HN
            go_wp2_with (refine wpList_store_box rfl 33 _ _ rfl N 33 _ [.int .i64 d0, .bool told, .int .i64 d2, .int .i64 d3, .int .i64 d4, .int .i64 d5, .int .i64 d6, .bool drop, .int .i64 d8, .int .i64 d9, .int .i64 d10, .int .i64 d11] rfl rfl H_N4.out info_dang rfl rfl ?_; intro W6 hb6 hl6 ho6 hz6)
            have H_N6 := Lib.hid hb6
            have HBC6 := Lib.hid (HBC4.out.trans (hl6 _ (Nat.le_of_eq hN)))
            clear hb6 hl6 ho6 hz6 H_N4 HBC4
            try go_wp2_with fail
            go_roundw
            case rel => exact ⟨j' + 1, hjm, by go_num, by rw [HP.out]; exact H_N6.out, HBC6⟩
            case measure => simp [intOf] <;> omega
          · obtain rfl : j' = M.length := by omega
            rw [List.take_length] at H_N
            have HB_wr : Below w.heap.size w wr := after0 HB_we HBC.out
            have HBDR := Lib.hid ((hb_we.trans (HBC.out.mono hb_we.size)))
            clear HBC HSM HSOR hjm hj' hN hZ2
            have HTF := Lib.hid (cor_none HC.out)
            generalize gt M x = d at *
            obtain ⟨d0, told, ⟨d2, d3, d4, d5⟩, d6, drop, ⟨d8, d9, d10, d11⟩⟩ := d
            obtain rfl : told = false := HTF.out
            obtain ⟨e_0, e_1, -⟩ := H_N.out.c12
            dsimp only at e_0 e_1
            have HE1 := Lib.hid (HEY.out wr HB_wr)
            go_wp2_with fail
            all_goals try (exfalso; omega)
            refine (HE1.out).mono ?_
            rintro e wf ⟨rfl, hb_wf⟩
            have HB_wf : Below w.heap.size w wf := by first | exact after0 HB_wr hb_wf | exact after1 HB_wr hb_wf | exact after2 HB_wr hb_wf | exact after3 HB_wr hb_wf | exact after4 HB_wr hb_wf | exact after5 HB_wr hb_wf
            replace H_N := Lib.hid (H_N.out.below hb_wf)
            clear e_0 e_1
            obtain ⟨e_0, e_1, -⟩ := H_N.out.c12
            dsimp only at e_0 e_1
            have HBDW := Lib.hid (HBDR.out.trans (hb_wf.mono HBDR.out.size))
            by_cases hl1 : t' < t
            ·
              go_wp2_with fail
              all_goals try (exfalso; omega)
              go_ret
              exact ⟨rfl, HB_wf⟩
            replace hl1 := Int.not_lt.1 hl1
            by_cases hl2 : 10000000 ≤ t'
            ·
              go_wp2_with fail
              all_goals try (exfalso; omega)
              go_ret
              exact ⟨rfl, HB_wf⟩
            replace hl2 := Int.not_le.1 hl2
            have HB2 := Lib.hid (bat_any oj _ cj J x t' t wf (HSJ.out.below HBDW.out) HVR.out hx100 (decide_eq_true ⟨by omega, by omega⟩) HT.out)
            rw [HPK.out t' hl1 hl2] at HB2
            rw [HG.out] at HB2
            go_wp2_with fail
            all_goals try (exfalso; omega)
            refine (HB2.out).mono ?_
            rintro e wg ⟨rfl, hb_wg⟩
            have HB_wg : Below w.heap.size w wg := by first | exact after0 HB_wf hb_wg | exact after1 HB_wf hb_wg | exact after2 HB_wf hb_wg | exact after3 HB_wf hb_wg | exact after4 HB_wf hb_wg | exact after5 HB_wf hb_wg
            go_wp2_with fail
            all_goals try (exfalso; omega)
            go_ret
            exact ⟨rfl, HB_wg⟩
    · have HGG := Lib.hid (show valR g = ((j : Int) + 1, 0) by rw [hg]; show (r.value, 0) = _; rw [hv])
      have HC := Lib.hid hc
      have HCJ := Lib.hid hcj
      have H5 := Lib.hid h5
      have H6 := Lib.hid h6
      have H7 := Lib.hid h7
      have hne2 : (p != q) = true := bne_iff_ne.2 hne
      rw [hey] at HEY
      dsimp only [eT] at HEY
      clear hc hey hg hv hcj h5 h6 h7 hne
      rw [HGG.out] at HB1
      go_wp2_with fail
      refine (HB1.out).mono ?_
      rintro e we ⟨rfl, hb_we⟩
      have HB_we : Below w.heap.size w we := by first | exact after0 HB_wd hb_we | exact after1 HB_wd hb_we | exact after2 HB_wd hb_we | exact after3 HB_wd hb_we | exact after4 HB_wd hb_we | exact after5 HB_wd hb_we
      have HSM := Lib.hid (HSM0.out.below hb_we)
      have hji : (j : Int) + 1 ≤ (l.length : Int) := by omega
      obtain ⟨N, hN⟩ : ∃ N, we.heap.size = N := ⟨_, rfl⟩
      obtain ⟨W2, hW2, hB2, hZ2, hbn⟩ := boxes1 we [.int .i64 0, .bool false, .int .i64 0, .int .i64 0, .int .i64 0, .int .i64 0, .int .i64 0, .bool false, .int .i64 0, .int .i64 0, .int .i64 0, .int .i64 0] 33
      rw [hN] at hbn hZ2
      have H_N := Lib.hid hbn
      clear hbn
      go_wp2_with (refine wpList_store_box rfl 33 _ _ rfl N 33 _ [.int .i64 0, .bool false, .int .i64 0, .int .i64 0, .int .i64 0, .int .i64 0, .int .i64 0, .bool false, .int .i64 0, .int .i64 0, .int .i64 0, .int .i64 0] rfl rfl H_N.out info_dang rfl rfl ?_; intro W3 hb_W3 hl_W3 ho_W3 hz_W3)
      clear hW2
      have HBC3 : Below we.heap.size we W3 := hB2.trans (hl_W3 _ (by omega))
      have H_N3 := Lib.hid hb_W3
      clear hb_W3 hl_W3 ho_W3 hz_W3 H_N hB2
      try go_wp2_with fail
      go_loopw [118] (fun i wr2 => ∃ j : Nat, j ≤ M.length ∧ i = .int .i64 j ∧ Hid (Box wr2 N 33 (cD (gt (M.take j) x))) ∧ Hid (Below we.heap.size we wr2)) (fun i _ => M.length - (intOf i).toNat)
      case atStart => exact ⟨0, Nat.zero_le _, rfl, H_N3.out, HBC3⟩
      case round =>
        clear H_N3 HBC3
        obtain ⟨j', hj', rfl, H_N, HBC⟩ := hrel
        by_cases hjm : j' < M.length
        · obtain ⟨bm, offm, rfl, hbm, hrow⟩ := (HSM.out.below HBC.out).get hjm
          obtain ⟨e_0, e_1, e_2, e_3, e_4, e_5, e_6, e_7, e_8, e_9, e_10, e_11⟩ := (hrow j' hjm).c12
          have HY := Lib.hid (fun h1 => gt_yes (x := x) HSOR.out hjm h1)
          have HN := Lib.hid (fun h1 => gt_no (x := x) hjm h1)
          clear hrow
          generalize M[j'] = d at *
          obtain ⟨d0, told, ⟨d2, d3, d4, d5⟩, d6, drop, ⟨d8, d9, d10, d11⟩⟩ := d
          dsimp only at e_0 e_1 e_2 e_3 e_4 e_5 e_6 e_7 e_8 e_9 e_10 e_11 HY HN
          obtain ⟨Rd, hRd⟩ : ∃ Rd, wr.heap.size = Rd := ⟨_, rfl⟩
          obtain ⟨W4, hW4, hB4, hZ4, hbd⟩ := boxes1 wr [.int .i64 d0, .bool told, .int .i64 d2, .int .i64 d3, .int .i64 d4, .int .i64 d5, .int .i64 d6, .bool drop, .int .i64 d8, .int .i64 d9, .int .i64 d10, .int .i64 d11] 33
          rw [hRd] at hbd
          have H_N4 := Lib.hid (H_N.out.below hB4)
          have HBC4 := Lib.hid (HBC.out.trans (hB4.mono HBC.out.size))
          obtain ⟨f_0, f_1, f_2, f_3, f_4, f_5, f_6, f_7, f_8, f_9, f_10, f_11⟩ := hbd.c12
          clear H_N HBC hZ4 hbd hB4
          by_cases hdx : d0 = x
          case neg =>
            have HP := Lib.hid (HN.out hdx)
            have hdx2 : (d0 == x) = false := beq_eq_false_iff_ne.2 hdx
            clear HY HN hdx
            go_wp2_with fail
            all_goals try (exfalso; omega)
            go_roundw
            case rel => exact ⟨j' + 1, hjm, by go_num, by rw [HP.out]; exact H_N4.out, HBC4⟩
            case measure => simp [intOf] <;> omega
          subst hdx
          have HP := Lib.hid (HY.out rfl)
          clear HY HN
          go_wp2_with (refine wpList_store_box rfl 33 _ _ rfl N 33 _ [.int .i64 d0, .bool told, .int .i64 d2, .int .i64 d3, .int .i64 d4, .int .i64 d5, .int .i64 d6, .bool drop, .int .i64 d8, .int .i64 d9, .int .i64 d10, .int .i64 d11] rfl rfl H_N4.out info_dang rfl rfl ?_; intro W6 hb6 hl6 ho6 hz6)
          have H_N6 := Lib.hid hb6
          have HBC6 := Lib.hid (HBC4.out.trans (hl6 _ (Nat.le_of_eq hN)))
          clear hb6 hl6 ho6 hz6 H_N4 HBC4
          try go_wp2_with fail
          go_roundw
          case rel => exact ⟨j' + 1, hjm, by go_num, by rw [HP.out]; exact H_N6.out, HBC6⟩
          case measure => simp [intOf] <;> omega
        · obtain rfl : j' = M.length := by omega
          rw [List.take_length] at H_N
          have HB_wr : Below w.heap.size w wr := after0 HB_we HBC.out
          have HBDR := Lib.hid ((hb_we.trans (HBC.out.mono hb_we.size)))
          clear HBC HSM HSOR hjm hj' hN hZ2
          have HCS := Lib.hid (cor_some HC.out)
          generalize gt M x = d at *
          obtain ⟨d0, told, ⟨d2, d3, d4, d5⟩, d6, drop, ⟨d8, d9, d10, d11⟩⟩ := d
          obtain rfl : told = true := HCS.out.1
          have hbb : (⟨d2, d3, d4, d5⟩ : Bx) = b := HCS.out.2
          subst hbb
          obtain ⟨e_0, e_1, e_2, e_3, e_4, e_5, -⟩ := H_N.out.c12
          dsimp only at e_0 e_1 e_2 e_3 e_4 e_5
          have HE1 := Lib.hid (HEY.out wr HB_wr)
          go_wp2_with fail
          all_goals try (exfalso; omega)
          refine (HE1.out).mono ?_
          rintro e wf ⟨rfl, hb_wf⟩
          have HB_wf : Below w.heap.size w wf := by first | exact after0 HB_wr hb_wf | exact after1 HB_wr hb_wf | exact after2 HB_wr hb_wf | exact after3 HB_wr hb_wf | exact after4 HB_wr hb_wf | exact after5 HB_wr hb_wf
          replace H_N := Lib.hid (H_N.out.below hb_wf)
          clear e_0 e_1 e_2 e_3 e_4 e_5
          obtain ⟨e_0, e_1, -⟩ := H_N.out.c12
          dsimp only at e_0 e_1
          have HBDW := Lib.hid (HBDR.out.trans (hb_wf.mono HBDR.out.size))
          have hst1 := slice_head (P := Try.prog) (t := 22) (by kernel_rfl) (fun W => by kernel_rfl) HS.out (j + 1) (by omega)
          rw [Int.natCast_add] at hst1
          have HREP := Lib.hid (replay_any HKO.out _ _ _ (l.take (j + 1)) wf ((HS.out.take (n := j + 1) (by omega)).below HB_wf) (by rw [List.length_take]; omega))
          have hrv := rep_valid (validL_take (j + 1) HVL.out)
          have hsor2 := (stS_sor (l.take (j + 1))).1
          unfold ReplE at HREP
          rw [hrv] at HREP
          clear hrv
          generalize (replS (l.take (j + 1))).came = cm at *
          generalize stS (l.take (j + 1)) = M' at *
          have hjc : j + 1 ≤ cap := by omega
          go_wp2_with fail
          all_goals try (exfalso; omega)
          clear hst1 e_0 e_1
          refine (HREP.out).mono ?_
          rintro e wg ⟨o3, c3, o4, c4, rfl, hs3, hs4, hb_wg⟩
          have HB_wg : Below w.heap.size w wg := by first | exact after0 HB_wf hb_wg | exact after1 HB_wf hb_wg | exact after2 HB_wf hb_wg | exact after3 HB_wf hb_wg | exact after4 HB_wf hb_wg | exact after5 HB_wf hb_wg
          have hm3 := hs3.max
          have hm3c := hs3.le
          unfold maxLen at hm3
          have HS3 := Lib.hid hs3
          replace H_N := Lib.hid (H_N.out.below hb_wg)
          replace HBDW := Lib.hid (HBDW.out.trans (hb_wg.mono HBDW.out.size))
          clear hs3 hs4 HREP hsor2
          obtain ⟨i0, hi0, hi1, hi2, hi3⟩ := told_in HCJ.out
          have HI0 := Lib.hid (show M'[i0].id = x ∧ M'[i0].told = true ∧ M'[i0].area = ⟨d2, d3, d4, d5⟩ from ⟨hi1, hi2, hi3⟩)
          clear hi1 hi2 hi3
          go_wp2_with fail
          go_loopw [24, 171] (fun f i wr2 => ∃ (j' : Nat) (s : Bool), j' ≤ M'.length ∧ f = .bool s ∧ i = .int .i64 j' ∧ Hid (i0 < j' → s = true) ∧ Hid (Below wg.heap.size wg wr2)) (fun _ i _ => M'.length - (intOf i).toNat)
          case atStart => exact ⟨0, false, Nat.zero_le _, rfl, rfl, fun h => absurd h (Nat.not_lt_zero _), Below.refl _ _⟩
          case round =>
            obtain ⟨j', s, hj', rfl, rfl, HIS, HBC⟩ := hrel
            by_cases hjm : j' < M'.length
            · obtain ⟨bm, offm, rfl, hbm, hrow⟩ := (HS3.out.below HBC.out).get hjm
              obtain ⟨e_0, e_1, e_2, e_3, e_4, e_5, e_6, e_7, e_8, e_9, e_10, e_11⟩ := (hrow j' hjm).c12
              have HNE := Lib.hid (show ¬ (M'[j'].id = x ∧ M'[j'].told = true ∧ M'[j'].area = ⟨d2, d3, d4, d5⟩) → j' ≠ i0 from fun h e => by subst e; exact h HI0.out)
              clear hrow
              generalize M'[j'] = d at *
              obtain ⟨k0, told, ⟨k2, k3, k4, k5⟩, k6, drop, ⟨k8, k9, k10, k11⟩⟩ := d
              dsimp only at e_0 e_1 e_2 e_3 e_4 e_5 e_6 e_7 e_8 e_9 e_10 e_11 HNE
              obtain ⟨Rd, hRd⟩ : ∃ Rd, wr.heap.size = Rd := ⟨_, rfl⟩
              obtain ⟨W4, hW4, hB4, hZ4, hbd⟩ := boxes1 wr [.int .i64 k0, .bool told, .int .i64 k2, .int .i64 k3, .int .i64 k4, .int .i64 k5, .int .i64 k6, .bool drop, .int .i64 k8, .int .i64 k9, .int .i64 k10, .int .i64 k11] 33
              rw [hRd] at hbd
              have HBC4 := Lib.hid (HBC.out.trans (hB4.mono HBC.out.size))
              obtain ⟨f_0, f_1, f_2, f_3, f_4, f_5, f_6, f_7, f_8, f_9, f_10, f_11⟩ := hbd.c12
              obtain ⟨-, -, g_2, g_3, g_4, g_5, -⟩ := (H_N.out.below HBC4.out).c12
              dsimp only at g_2 g_3 g_4 g_5
              clear hZ4 hbd hB4 HBC
              cases s
              case true =>
                clear HNE HIS
                go_wp2_with fail
                all_goals try (exfalso; omega)
                go_roundw
                case rel => exact ⟨j' + 1, true, hjm, rfl, by go_num, fun _ => rfl, HBC4⟩
                case measure => simp [intOf] <;> omega
              have HSN := Lib.hid (show ∀ s : Bool, (s = false → j' ≠ i0) → (i0 < j' + 1 → s = true) from fun s h1 h2 => by
                cases s with
                | true => rfl
                | false =>
                  have := h1 rfl
                  exact absurd (HIS.out (by omega)) (by simp))
              by_cases hdx : k0 = x
              case neg =>
                have HF := Lib.hid (HSN.out false (fun _ => HNE.out (fun h => hdx h.1)))
                have hdx2 : (k0 == x) = false := beq_eq_false_iff_ne.2 hdx
                clear HNE HIS HSN hdx
                go_wp2_with fail
                all_goals try (exfalso; omega)
                go_roundw
                case rel => exact ⟨j' + 1, false, hjm, rfl, by go_num, HF.out, HBC4⟩
                case measure => simp [intOf] <;> omega
              subst hdx
              cases told
              case false =>
                have HF := Lib.hid (HSN.out false (fun _ => HNE.out (fun h => by cases h.2.1)))
                clear HNE HIS HSN
                go_wp2_with fail
                all_goals try (exfalso; omega)
                go_roundw
                case rel => exact ⟨j' + 1, false, hjm, rfl, by go_num, HF.out, HBC4⟩
                case measure => simp [intOf] <;> omega
              have hq := eql_box k2 k3 k4 k5 d2 d3 d4 d5
              by_cases hk : (⟨k2, k3, k4, k5⟩ : Bx) = ⟨d2, d3, d4, d5⟩
              case neg =>
                have HF := Lib.hid (HSN.out false (fun _ => HNE.out (fun h => hk h.2.2)))
                rw [decide_eq_false hk] at hq
                clear HNE HIS HSN hk
                go_wp2_with fail
                all_goals try (exfalso; omega)
                go_roundw
                case rel => exact ⟨j' + 1, false, hjm, rfl, by go_num, HF.out, HBC4⟩
                case measure => simp [intOf] <;> omega
              rw [decide_eq_true hk] at hq
              clear HNE HIS HSN hk
              go_wp2_with fail
              all_goals try (exfalso; omega)
              go_roundw
              case rel => exact ⟨j' + 1, true, hjm, rfl, by go_num, fun _ => rfl, HBC4⟩
              case measure => simp [intOf] <;> omega
            · obtain rfl : j' = M'.length := by omega
              obtain rfl := HIS.out hi0
              have HB_wr : Below w.heap.size w wr := after0 HB_wg HBC.out
              replace HBDW := Lib.hid (HBDW.out.trans (HBC.out.mono HBDW.out.size))
              obtain ⟨bj, offj, ej, hbj, hrow⟩ := (HS.out.below HB_wr).get hj
              cases ej
              obtain ⟨e_0, -, e_2, e_3, -⟩ := (hrow j hj).c8
              rw [H6.out] at e_0
              rw [H5.out] at e_2
              have h7 := H7.out
              clear hrow
              generalize l[j].time = tj at *
              by_cases hl1 : t' < t
              ·
                go_wp2_with fail
                all_goals try (exfalso; omega)
                go_ret
                exact ⟨rfl, HB_wr⟩
              replace hl1 := Int.not_lt.1 hl1
              by_cases hl2 : 10000000 ≤ t'
              ·
                go_wp2_with fail
                all_goals try (exfalso; omega)
                go_ret
                exact ⟨rfl, HB_wr⟩
              replace hl2 := Int.not_le.1 hl2
              have HB2 := Lib.hid (bat_any oj _ cj J x t' t wr (HSJ.out.below HBDW.out) HVR.out hx100 (decide_eq_true ⟨by omega, by omega⟩) HT.out)
              rw [HPK.out t' hl1 hl2] at HB2
              rw [HGG.out] at HB2
              go_wp2_with fail
              all_goals try (exfalso; omega)
              refine (HB2.out).mono ?_
              rintro e wi ⟨rfl, hb_wi⟩
              have HB_wi : Below w.heap.size w wi := by first | exact after0 HB_wr hb_wi | exact after1 HB_wr hb_wi | exact after2 HB_wr hb_wi | exact after3 HB_wr hb_wi | exact after4 HB_wr hb_wi | exact after5 HB_wr hb_wi
              go_wp2_with fail
              all_goals try (exfalso; omega)
              go_ret
              exact ⟨rfl, HB_wi⟩
end Go.Proofs.Ytmbnhlihcnbebaa
